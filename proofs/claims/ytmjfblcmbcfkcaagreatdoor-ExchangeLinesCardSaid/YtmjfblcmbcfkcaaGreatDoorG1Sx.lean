/- The laws' functions that make numbers out of a list, as abstract code, held against the program by the kernel. No conditions. -/
import Derived.Test.YtmjfblcmbcfkcaaGreatDoorG1Sm
open List
set_option linter.unusedSimpArgs false
set_option linter.unusedVariables false
set_option linter.unusedSectionVars false
set_option maxRecDepth 100000
set_option maxHeartbeats 16000000
namespace Go.Av
open Go.Proofs
def F5z:AFun:=
{nargs:=4,keep:=false,res:=[.tmp 8],body:=
  .seq (rg [(op 8 .mv [bF])] [8]) <|
  .seq (.seq (rg [(mv 13 0),(o1 14 (.mks 1 [.sl .full 1 []] 1 [0]) 13),(o1 15 (.call 11) 14)] [13,14]) <|
  .cond (.t 15) (.seq (rg [(op 16 (.call 12) []),(mv 8 16)] [16]) <|
  .ret)
  (.skip)) <|
  .seq (rg [(mv 18 0),(oS 19 (.call 14) [.t 18]),(oS 20 (.call 13) [.t 19,(ic 5)]),(o1 21 (.call 18) 20),(mv 17 21),(o1 22 (.ext 0) 17),(o1 23 (.ext 1) 17),(mv 9 22),(mv 10 23)] [18,19,20,21,17,22,23,0]) <|
  .seq (.seq (rg [(mv 24 10),(op 25 (.bin .neq) [.t 24,(ic 0)])] [24,10]) <|
  .cond (.t 25) (.seq (rg [(op 26 (.call 12) []),(mv 8 26)] [26]) <|
  .ret)
  (.skip)) <|
  .seq (rg [(mv 27 1),(mv 28 9),(o1 29 (.len true) 28),(o2 30 (.call 15) 27 29),(mv 11 30)] [27,28,29,30,1]) <|
  .seq (.reg true [] [(mv 31 9),(mv 32 11),(o2 33 (.slc true 0 false true) 31 32),(mv 34 2),(o1 35 (.mks 1 [.int .u8 0] 1 [0]) 34),(o1 36 .b2s 35),(o2 37 (.bin .add) 33 36),(mv 38 9),(mv 39 11),(op 40 (.bin .add) [.t 39,(ic 1)]),(o2 41 (.slc true 0 true false) 38 40),(o2 42 (.bin .add) 37 41),(mv 12 42)] (rn 31 12 [2])) <|
  .seq (.seq (rg [(mv 43 3)] [3]) <|
  .cond (.t 43) (rg [(mv 44 9),(mv 45 11),(o2 46 (.slc true 0 false true) 44 45),(mv 12 46)] [44,45,46,11])
  (.skip)) <|
  .seq (rg [(mv 47 9),(o1 48 (.call 19) 47),(mv 49 48),(mG 50 12 49 true),(oG 51 (.call 19) [.t 50] 49 true),(op 52 .pick [.t 49,.t 51,bF]),(mv 53 52),(oG 54 (.call 12) [] 53 true),(op 55 .pick [.t 53,.t 54,bF]),(mv 8 55)] (rn 47 9 [9,12])) <|
  .ret }
def L6_0z:ACode:=
  .loop (54::55::56::57::16::17::(rn 58 40 [])) (.seq (rg [(o2 54 (.bin .lss) 53 52)] []) <|
  .seq (.cond (.t 54) (.skip)
  (.exit 0)) <|
  .seq (.block 1 (.seq (rg [(mv 55 53),(o2 56 (.ia 1) 51 53),(o1 57 ld1 56),(mv 16 55),(mv 17 57)] [55,56,57]) <|
  .seq (.seq (rg [(mv 58 16),(mv 59 14),(o2 60 (.bin .eql) 58 59),(mv 61 60),(mG 62 3 61 true),(oG 63 (.call 15) [.t 62,(ic 3)] 61 true),(oG 64 (.bin .eql) [.t 63,(ic 2)] 61 true),(op 65 .pick [.t 61,.t 64,bF])] (rn 58 7 [])) <|
  .cond (.t 65) (rg [(mv 66 15),(mv 67 11),(mv 68 13),(o2 69 (.ia 1) 67 68),(o1 70 ld1 69),(op 71 (.bin .add) [.t 70,.c (.str [10])]),(o2 72 (.bin .add) 66 71),(mv 15 72)] (rn 66 7 []))
  (.skip)) <|
  .seq (.seq (rg [(mv 73 16),(mv 74 13),(o2 75 (.bin .neq) 73 74),(mv 76 75),(mG 77 3 76 false),(oG 78 (.call 15) [.t 77,(ic 3)] 76 false),(oG 79 (.bin .eql) [.t 78,(ic 1)] 76 false),(op 80 .pick [.t 76,bT,.t 79])] (rn 73 7 [])) <|
  .cond (.t 80) (rg [(mv 81 15),(mv 82 17),(op 83 (.bin .add) [.t 82,.c (.str [10])]),(o2 84 (.bin .add) 81 83),(mv 15 84)] [81,82,83,84])
  (.skip)) <|
  .seq (rg [(mv 85 16),(mv 86 13),(o2 87 (.bin .eql) 85 86),(mv 88 87),(mG 89 3 88 true),(oG 90 (.call 15) [.t 89,(ic 3)] 88 true),(oG 91 (.bin .eql) [.t 90,(ic 1)] 88 true),(op 92 .pick [.t 88,.t 91,bF])] (rn 85 7 [16])) <|
  .cond (.t 92) (rg [(mv 93 15),(mv 94 17),(op 95 (.bin .add) [.t 94,.c (.str [10])]),(o2 96 (.bin .add) 93 95),(mv 15 96)] [93,94,95,96,17])
  (.skip))) <|
  rg [(op 97 (.bin .add) [.t 53,(ic 1)]),(mv 53 97)] [97])
def F6z:AFun:=
{nargs:=4,keep:=false,res:=[.tmp 8],body:=
  .seq (rg [(op 8 .mv [bF])] [8]) <|
  .seq (.seq (rg [(mv 23 0),(o1 24 (.mks 1 [.sl .full 1 []] 1 [0]) 23),(o1 25 (.call 11) 24)] [23,24]) <|
  .cond (.t 25) (.seq (rg [(op 26 (.call 12) []),(mv 8 26)] [26]) <|
  .ret)
  (.skip)) <|
  .seq (rg [(mv 28 0),(oS 29 (.call 14) [.t 28]),(oS 30 (.call 13) [.t 29,(ic 5)]),(o1 31 (.call 18) 30),(mv 27 31),(o1 32 (.ext 0) 27),(o1 33 (.ext 1) 27),(mv 9 32),(mv 10 33)] [28,29,30,31,27,32,33,10,0]) <|
  .seq (rg [(mv 35 9),(o1 36 (.call 20) 35),(mv 34 36),(o1 37 (.ext 0) 34),(o1 38 (.ext 1) 34),(mO 11 37),(mv 12 38)] [35,36,34,37,38,12,9]) <|
  .seq (.seq (rg [(mv 39 11),(o1 40 (.len false) 39),(op 41 (.bin .eql) [.t 40,(ic 0)])] [39,40]) <|
  .cond (.t 41) (.seq (rg [(op 42 (.call 12) []),(mv 8 42)] [42]) <|
  .ret)
  (.skip)) <|
  .seq (rg [(mv 43 1),(mv 44 11),(o1 45 (.len false) 44),(o2 46 (.call 15) 43 45),(mv 47 2),(mv 48 11),(o1 49 (.len false) 48),(o2 50 (.call 15) 47 49),(mv 13 46),(mv 14 50)] (rn 43 8 [1,2])) <|
  .seq (rg [(op 15 .mv [.c (.str [])])] []) <|
  .seq (.seq (rg [(mv 51 11),(o1 52 (.len false) 51),(op 53 .mv [(ic 0)])] []) <|
  .block 0 (L6_0z)) <|
  .seq (rg [(mv 99 15),(o1 100 (.call 21) 99),(mv 98 100),(o1 101 (.ext 0) 98),(o1 102 (.ext 1) 98),(o1 103 (.ext 2) 98),(mO 18 101),(mv 19 102),(mv 20 103)] [99,100,98,101,102,103,19]) <|
  .seq (.seq (rg [(mv 104 20),(op 105 (.bin .eql) [.t 104,(ic 0)])] [104,20]) <|
  .cond (.t 105) (.seq (rg [(mv 107 18),(o1 108 (.call 17) 107),(mv 106 108),(o1 109 (.ext 0) 106),(o1 110 (.ext 1) 106),(mv 21 109),(mv 22 110)] [107,108,106,109,110,18]) <|
  .seq (rg [(mv 111 21),(mv 112 15),(o2 113 (.bin .neq) 111 112),(mv 114 113),(mG 115 22 114 false),(oG 116 (.bin .neq) [.t 115,(ic 0)] 114 false),(op 117 .pick [.t 114,bT,.t 116])] (rn 111 6 [21,22])) <|
  .cond (.t 117) (.seq (rg [(op 8 .mv [bF])] []) <|
  .ret)
  (.skip))
  (.skip)) <|
  .seq (rg [(mv 118 15),(o1 119 (.call 19) 118),(mv 120 119),(oG 121 (.call 12) [] 120 true),(op 122 .pick [.t 120,.t 121,bF]),(mv 8 122)] (rn 118 5 [15])) <|
  .ret }
def F7z:AFun:=
{nargs:=2,keep:=false,res:=[.tmp 4],body:=
  .seq (rg [(op 4 .mv [bF])] [4]) <|
  .seq (.seq (rg [(mv 13 0),(o1 14 (.mks 1 [.sl .full 1 []] 1 [0]) 13),(o1 15 (.call 11) 14)] [13,14]) <|
  .cond (.t 15) (.seq (rg [(op 16 (.call 12) []),(mv 4 16)] [16]) <|
  .ret)
  (.skip)) <|
  .seq (rg [(mv 17 0),(oS 18 (.call 14) [.t 17]),(oS 19 (.call 13) [.t 18,(ic 5)]),(mO 5 19)] [17,18,19,0]) <|
  .seq (rg [(mv 21 5),(o1 22 (.call 18) 21),(mv 20 22),(o1 23 (.ext 0) 20),(o1 24 (.ext 1) 20),(mv 6 23),(mv 7 24)] [21,22,20,23,24,7]) <|
  .seq (rg [(mv 26 6),(mv 27 5),(o1 28 (.len false) 27),(o1 29 (.call 23) 28),(op 30 (.bin .add) [.c (.str [98,105,116,101,120,116,45,109,101,109,111,114,121,32]),.t 29]),(op 31 (.bin .add) [.t 30,.c (.str [10])]),(o2 32 (.call 22) 26 31),(mv 25 32),(o1 33 (.ext 0) 25),(o1 34 (.ext 1) 25),(mv 8 33),(mv 9 34)] (rn 26 7 [25,33,34,9,6])) <|
  .seq (rg [(mv 35 1),(op 36 (.call 15) [.t 35,(ic 7)]),(mv 1 36)] [35,36]) <|
  .seq (rg [(mv 38 1),(o1 39 (.call 23) 38),(op 40 (.bin .add) [.c (.str [98,105,116,101,120,116,45,109,101,109,111,114,121,32]),.t 39]),(op 41 (.bin .add) [.t 40,.c (.str [10])]),(mv 42 8),(o2 43 (.bin .add) 41 42),(o1 44 (.call 21) 43),(mv 37 44),(o1 45 (.ext 0) 37),(o1 46 (.ext 1) 37),(o1 47 (.ext 2) 37),(mO 10 45),(mv 11 46),(mv 12 47)] (rn 38 7 [37,45,46,47,8])) <|
  .seq (.seq (rg [(mv 48 1),(mv 49 5),(o1 50 (.len false) 49),(o2 51 (.bin .eql) 48 50)] [48,49,50,1]) <|
  .cond (.t 51) (.seq (rg [(mv 52 12),(op 53 (.bin .eql) [.t 52,(ic 0)]),(mv 54 53),(mG 55 11 54 true),(oG 56 (.bin .eql) [.t 55,(ic 0)] 54 true),(op 57 .pick [.t 54,.t 56,bF]),(mv 58 57),(mG 59 10 58 true),(mG 60 5 58 true),(oG 61 (.call 24) [.t 59,.t 60] 58 true),(op 62 .pick [.t 58,.t 61,bF]),(mv 63 62),(oG 64 (.call 12) [] 63 true),(op 65 .pick [.t 63,.t 64,bF]),(mv 4 65)] (rn 52 14 [12,11,10,5])) <|
  .ret)
  (.skip)) <|
  .seq (rg [(mv 66 12),(op 67 (.bin .eql) [.t 66,(ic 2)]),(mv 68 67),(mG 69 11 68 true),(oG 70 (.bin .eql) [.t 69,(ic 1)] 68 true),(op 71 .pick [.t 68,.t 70,bF]),(mv 72 71),(mG 73 10 72 true),(oG 74 (.len false) [.t 73] 72 true),(oG 75 (.bin .eql) [.t 74,(ic 0)] 72 true),(op 76 .pick [.t 72,.t 75,bF]),(mv 77 76),(oG 78 (.call 12) [] 77 true),(op 79 .pick [.t 77,.t 78,bF]),(mv 4 79)] (rn 66 14 [12,11,10])) <|
  .ret }
def F8z:AFun:=
{nargs:=1,keep:=false,res:=[.tmp 2],body:=
  .seq (rg [(op 2 .mv [bF])] [2]) <|
  .seq (.seq (rg [(mv 9 0),(o1 10 (.mks 1 [.sl .full 1 []] 1 [0]) 9),(o1 11 (.call 11) 10)] [9,10]) <|
  .cond (.t 11) (.seq (rg [(op 12 (.call 12) []),(mv 2 12)] [12]) <|
  .ret)
  (.skip)) <|
  .seq (rg [(mv 13 0),(oS 14 (.call 14) [.t 13]),(oS 15 (.call 13) [.t 14,(ic 8)]),(mO 3 15)] [13,14,15,0]) <|
  .seq (rg [(mv 17 3),(o1 18 (.call 17) 17),(mv 16 18),(o1 19 (.ext 0) 16),(o1 20 (.ext 1) 16),(mv 4 19),(mv 5 20)] [17,18,16,19,20]) <|
  .seq (rg [(mv 22 4),(o1 23 (.call 21) 22),(mv 21 23),(o1 24 (.ext 0) 21),(o1 25 (.ext 1) 21),(o1 26 (.ext 2) 21),(mO 6 24),(mv 7 25),(mv 8 26)] [22,23,21,24,25,26,4]) <|
  .seq (rg [(mv 27 5),(op 28 (.bin .eql) [.t 27,(ic 0)]),(mv 29 28),(mG 30 8 29 true),(oG 31 (.bin .eql) [.t 30,(ic 0)] 29 true),(op 32 .pick [.t 29,.t 31,bF]),(mv 33 32),(mG 34 7 33 true),(oG 35 (.bin .eql) [.t 34,(ic 0)] 33 true),(op 36 .pick [.t 33,.t 35,bF]),(mv 37 36),(mG 38 3 37 true),(mG 39 6 37 true),(oG 40 (.call 24) [.t 38,.t 39] 37 true),(op 41 .pick [.t 37,.t 40,bF]),(mv 42 41),(oG 43 (.call 12) [] 42 true),(op 44 .pick [.t 42,.t 43,bF]),(mv 2 44)] (rn 27 18 [5,8,7,3,6])) <|
  .ret }
def F14z:AFun:=
{nargs:=1,keep:=true,res:=[.tmpD 2],body:=
  .seq (rg [(op 2 .mv [.c (.nilp)])] [2]) <|
  .seq (rg [(mv 3 0),(op 4 (.build [.sl .full 1 [],.int .i64 0] [(0,1)]) [.t 3]),(oS 5 (.boxS 2) [.t 4]),(mv 2 5)] [3,4,5,0]) <|
  .ret }
theorem ok5z:okFun Tryz.prog 5 F5z=true:=by kernel_rfl
theorem ok6z:okFun Tryz.prog 6 F6z=true:=by kernel_rfl
theorem ok7z:okFun Tryz.prog 7 F7z=true:=by kernel_rfl
theorem ok8z:okFun Tryz.prog 8 F8z=true:=by kernel_rfl
theorem ok14z:okFun Tryz.prog 14 F14z=true:=by kernel_rfl
end Go.Av
