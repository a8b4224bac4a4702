/- The functions of the Concordance as abstract code, held against the program by the kernel. No conditions. -/
import Derived.Test.YtigalfbihapdnaaGreatDoorG6XK
import Derived.Test.YtigalfbihapdnaaGreatDoorG6Ev21to28
open List
set_option linter.unusedSimpArgs false
set_option linter.unusedVariables false
set_option linter.unusedSectionVars false
set_option maxRecDepth 100000
set_option maxHeartbeats 16000000
namespace Go.Av
open Go.Proofs
def L13_0:ACode:=
  .loop (42::43::14::(rn 44 11 [10,55])) (.seq (rg [(o2 42 (.bin .lss) 41 40)] []) <|
  .seq (.cond (.t 42) (.skip)
  (.exit 0)) <|
  .seq (.block 1 (.seq (rg [(mv 43 41),(mv 14 43)] [43]) <|
  .seq (rg [(mv 44 13),(mv 45 12),(mv 46 12),(o1 47 (.len false) 46),(op 48 (.bin .sub) [.t 47,(ic 1)]),(mv 49 14),(o2 50 (.bin .sub) 48 49),(o2 51 (.ia 8) 45 50),(o1 52 (.ld true 8) 51),(oS 53 (.call 44) [.t 44,.t 52]),(op 54 (.bin .neq) [.t 53,(ic 0)])] (rn 44 10 [14])) <|
  .cond (.t 54) (.seq (rg [(op 10 .mv [bF])] []) <|
  .ret)
  (.skip))) <|
  rg [(op 55 (.bin .add) [.t 41,(ic 1)]),(mv 41 55)] [55])
def L13_1:ACode:=
  .loop (92::93::17::95::96::97::98::94::99::100::18::19::102::103::104::105::101::106::107::20::21::109::110::111::112::108::113::114::22::23::(rn 115 20 [10,135])) (.seq (rg [(op 92 (.bin .lss) [.t 91,(ic 3)])] []) <|
  .seq (.cond (.t 92) (.skip)
  (.exit 2)) <|
  .seq (.block 3 (.seq (rg [(o2 93 (.ixA false 1 3) 90 91),(mv 17 93)] [93]) <|
  .seq (rg [(mv 95 12),(mv 96 17),(mv 97 3),(op 98 (.call 17) [.t 95,.t 96,.t 97]),(mv 94 98),(o1 99 (.ext 0) 94),(o1 100 (.ext 1) 94),(mO 18 99),(mv 19 100)] [95,96,97,98,94,99,100]) <|
  .seq (rg [(mv 102 12),(mv 103 17),(mv 104 3),(op 105 (.call 47) [.t 102,.t 103,.t 104]),(mv 101 105),(o1 106 (.ext 0) 101),(o1 107 (.ext 1) 101),(mO 20 106),(mv 21 107)] [102,103,104,105,101,106,107]) <|
  .seq (rg [(mv 109 13),(mv 110 17),(mv 111 3),(oS 112 (.call 19) [.t 109,.t 110,.t 111]),(mv 108 112),(o1 113 (.ext 0) 108),(o1 114 (.ext 1) 108),(mO 22 113),(mv 23 114)] [109,110,111,112,108,113,114,17]) <|
  .seq (rg [(mv 115 19),(mv 116 21),(o2 117 (.bin .neq) 115 116),(mv 118 117),(mG 119 23 118 false),(mG 120 21 118 false),(oG 121 (.bin .neq) [.t 119,.t 120] 118 false),(op 122 .pick [.t 118,bT,.t 121]),(mv 123 122),(mG 124 18 123 false),(mG 125 20 123 false),(oG 126 (.call 48) [.t 124,.t 125] 123 false),(oG 127 (.un .not) [.t 126] 123 false),(op 128 .pick [.t 123,bT,.t 127]),(mv 129 128),(mG 130 22 129 false),(mG 131 20 129 false),(oG 132 (.call 48) [.t 130,.t 131] 129 false),(oG 133 (.un .not) [.t 132] 129 false),(op 134 .pick [.t 129,bT,.t 133])] (rn 115 19 [19,21,23,18,20,22])) <|
  .cond (.t 134) (.seq (rg [(op 10 .mv [bF])] []) <|
  .ret)
  (.skip))) <|
  rg [(op 135 (.bin .add) [.t 91,(ic 1)]),(mv 91 135)] [135])
def F13:AFun:=
{nargs:=5,keep:=false,res:=[.tmp 10],body:=
  .seq (rg [(op 10 .mv [bF])] [10]) <|
  .seq (.seq (rg [(mv 24 0),(o1 25 (.len false) 24),(op 26 (.bin .gtr) [.t 25,(ic 200)]),(mv 27 26),(mG 28 2 27 false),(oG 29 (.len true) [.t 28] 27 false),(oG 30 (.bin .gtr) [.t 29,(ic 100)] 27 false),(op 31 .pick [.t 27,bT,.t 30])] (rn 24 7 [])) <|
  .cond (.t 31) (.seq (rg [(op 32 (.call 14) []),(mv 10 32)] [32]) <|
  .ret)
  (.skip)) <|
  .seq (rg [(mv 33 0),(op 34 (.build [.sl .full 1 [],.int .i64 0] [(0,1)]) [.t 33]),(oS 35 (.boxS 2) [.t 34]),(mv 11 35)] [33,34,35,0]) <|
  .seq (rg [(mv 36 11),(oS 37 (.call 15) [.t 36,(ic 5)]),(mO 12 37)] [36,37,11]) <|
  .seq (rg [(oS 38 (.call 18) []),(mv 13 38)] [38]) <|
  .seq (.seq (rg [(mv 39 12),(o1 40 (.len false) 39),(op 41 .mv [(ic 0)])] [39]) <|
  .block 0 (L13_0)) <|
  .seq (.seq (rg [(mv 56 12),(o1 57 (.len false) 56),(op 58 (.bin .gtr) [.t 57,(ic 0)]),(mv 59 58),(mG 60 4 59 true),(oG 61 (.bin .and) [.t 60,(ic 1)] 59 true),(oG 62 (.bin .eql) [.t 61,(ic 1)] 59 true),(op 63 .pick [.t 59,.t 62,bF])] (rn 56 7 [])) <|
  .cond (.t 63) (.seq (rg [(mv 64 12),(mv 65 4),(mv 66 12),(o1 67 (.len false) 66),(o2 68 (.call 16) 65 67),(o2 69 (.ia 8) 64 68),(o1 70 (.ld true 8) 69),(o1 71 (.call 26) 70),(mv 15 71)] (rn 64 8 [4])) <|
  .seq (rg [(mv 73 12),(mv 74 15),(o2 75 (.call 34) 73 74),(mv 72 75),(o1 76 (.ext 0) 72),(o1 77 (.ext 1) 72),(mO 12 76)] [73,74,75,72,76,77]) <|
  .seq (rg [(mv 78 13),(mv 79 15),(oS 80 (.call 45) [.t 78,.t 79]),(o1 81 (.un .not) 80),(mv 82 81),(mG 83 13 82 false),(mG 84 15 82 false),
  ⟨(some 85),(.call 45),[.t 83,.t 84],.sh,none,(some (82,false))⟩,
  (op 86 .pick [.t 82,bT,.t 85])] (rn 78 8 [15])) <|
  .cond (.t 86) (.seq (rg [(op 10 .mv [bF])] []) <|
  .ret)
  (.skip))
  (.skip)) <|
  .seq (.seq (rg [(mv 87 2),(mv 88 1),(o1 89 (.call 46) 88),(op 90 (.build [.str [],.str [],.str []] [(0,1),(1,1),(2,1)]) [.t 87,.t 89,.c (.str [114,101,100])]),(op 91 .mv [(ic 0)])] [87,88,89,2,1]) <|
  .block 2 (L13_1)) <|
  .seq (rg [(op 136 (.call 14) []),(mv 10 136)] [136]) <|
  .ret }
def L19e_0:ACode:=
  .loop (23::24::25::26::11::10::(rn 27 9 [])) (.seq (rg [(o2 23 (.bin .lss) 22 21)] []) <|
  .seq (.cond (.t 23) (.skip)
  (.exit 0)) <|
  .seq (.block 1 (.seq (.reg false [11] [(mv 24 22),(o2 25 (.ia 9) 20 22),(oS 26 (.ld true 9) [.t 25]),(oL 11 11 (.alloc [.str [],.sl .full 3 [],.sl .full 3 [],.str [],.str [],.str [],.str [],.int .i64 0,.int .i64 0]) []),(mv 10 24),(tL 11 (.st 9) [.t 11,.t 26])] [24,25,26]) <|
  rg [(mO 27 9),(mv 28 8),(mv 29 10),(o1 30 (.fa 1) 11),(oL 31 11 (.ld true 8) [.t 30]),(mv 32 2),(op 33 (.call 56) [.t 28,.t 29,.t 31,.t 32]),(oD 34 (.app false 3 24) [.t 27,.t 33] 27),(mO 9 34)] (rn 27 8 [10,11]))) <|
  rg [(op 35 (.bin .add) [.t 22,(ic 1)]),(mv 22 35)] [35])
def F19e:AFun:=
{nargs:=3,keep:=false,res:=[.tmp 6,.tmp 7],body:=
  .seq (rg [(op 6 .mv [.c (.sl .full 3 [])]),(op 7 .mv [(ic 0)])] [6,7]) <|
  .seq (rg [(mv 12 1),(o1 13 (.call 51) 12),(mO 8 13)] [12,13,1]) <|
  .seq (.seq (rg [(mv 14 8),(o1 15 (.len false) 14),(op 16 (.bin .eql) [.t 15,(ic 0)])] [14,15]) <|
  .cond (.t 16) (.seq (rg [(op 6 .mv [.c (.sl .full 3 [])]),(op 7 .mv [(ic 1)])] []) <|
  .ret)
  (.skip)) <|
  .seq (rg [(op 9 .mv [.c (.sl .full 3 [])])] []) <|
  .seq (.seq (rg [(mv 17 0),(o1 18 .nilc 17),(o1 19 (.fa 0) 18),(oS 20 ld1 [.t 19]),(o1 21 (.len false) 20),(op 22 .mv [(ic 0)])] [17,18,19,0]) <|
  .block 0 (L19e_0)) <|
  .seq (rg [(mv 36 9),(mO 6 36),(op 7 .mv [(ic 0)])] [36,9]) <|
  .ret }
def F44:AFun:=
{nargs:=2,keep:=true,res:=[.tmpD 4],body:=
  .seq (.reg false [3] [(oL 3 3 (.box 8) [.t 1]),(op 4 .mv [(ic 0)])] [4,1]) <|
  .seq (.seq (rg [(oL 9 3 (.ld true 8) [.t 3]),(o1 10 (.call 23) 9),(mv 5 10)] [9,10]) <|
  .seq (rg [(mv 11 5),(op 12 (.bin .neq) [.t 11,(ic 0)])] [11]) <|
  .cond (.t 12) (.seq (rg [(mv 13 5),(mv 4 13)] [13,5]) <|
  .ret)
  (.skip)) <|
  .seq (.reg true [6] [(oL 14 3 (.ld true 8) [.t 3]),(o1 15 (.call 24) 14),(oL 16 3 (.ld true 8) [.t 3]),(op 17 (.build [.str [],.sl .full 3 [],.sl .full 3 [],.str [],.str [],.str [],.str [],.int .i64 0,.int .i64 0] [(0,1),(1,8)]) [.t 15,.t 16]),(oL 6 6 (.alloc [.str [],.sl .full 3 [],.sl .full 3 [],.str [],.str [],.str [],.str [],.int .i64 0,.int .i64 0]) []),(tL 6 (.st 9) [.t 6,.t 17])] [14,15,16,17]) <|
  .seq (.reg true [] [(o1 18 (.fa 0) 3),(oL 19 3 ld1 [.t 18]),(o1 20 (.call 85) 19),(o1 21 (.fa 1) 3),(oL 22 3 ld1 [.t 21]),(o1 23 (.call 85) 22),(o1 24 (.fa 1) 6),(o1 25 (.fa 0) 24),(tL 6 (.st 1) [.t 25,.t 20]),(o1 26 (.fa 1) 6),(o1 27 (.fa 1) 26),(tL 6 (.st 1) [.t 27,.t 23])] (rn 18 10 [3])) <|
  .seq (rg [(mv 29 0),(o1 30 (.fa 0) 6),(oL 31 6 ld1 [.t 30]),(oS 32 (.call 86) [.t 29,.t 31]),(mv 28 32),(o1 33 (.ext 0) 28),(o1 34 (.ext 1) 28),(mv 7 33),(mv 8 34)] [29,30,31,32,28,33,34]) <|
  .seq (.seq (rg [(mv 35 8)] [8]) <|
  .cond (.t 35) (.seq (.reg true [] [(mv 36 0),(o1 37 .nilc 36),(o1 38 (.fa 0) 37),(oS 39 ld1 [.t 38]),(mv 40 7),(oL 41 6 (.ld true 9) [.t 6]),(o2 42 (.ia 9) 39 40),(tS (.st 9) [.t 42,.t 41])] (rn 36 7 [0,7,6])) <|
  .seq (rg [(op 4 .mv [(ic 0)])] []) <|
  .ret)
  (.skip)) <|
  .seq (.seq (rg [(mv 43 0),(o1 44 .nilc 43),(o1 45 (.fa 0) 44),(oS 46 ld1 [.t 45]),(o1 47 (.len false) 46),(op 48 (.bin .geq) [.t 47,(ic 1024)])] (rn 43 5 [])) <|
  .cond (.t 48) (.seq (rg [(op 4 .mv [(ic 3)])] []) <|
  .ret)
  (.skip)) <|
  .seq (.reg true [] [(mv 49 0),(mv 50 0),(o1 51 .nilc 50),(o1 52 (.fa 0) 51),(oS 53 ld1 [.t 52]),(mv 54 7),(oL 55 6 (.ld true 9) [.t 6]),(o1 56 (.mks 9 [.str [],.sl .full 3 [],.sl .full 3 [],.str [],.str [],.str [],.str [],.int .i64 0,.int .i64 0] 1 [0]) 55),(oS 57 (.call 87) [.t 53,.t 54,.t 56]),(o1 58 .nilc 49),(o1 59 (.fa 0) 58),(tS (.st 1) [.t 59,.t 57])] (rn 49 11 [0,7,6])) <|
  .seq (rg [(op 4 .mv [(ic 0)])] []) <|
  .ret }
def F45:AFun:=
{nargs:=2,keep:=false,res:=[.tmp 4],body:=
  .seq (rg [(op 4 .mv [bF])] [4]) <|
  .seq (rg [(mv 8 0),(mv 9 1),(oS 10 (.call 86) [.t 8,.t 9]),(mv 7 10),(o1 11 (.ext 0) 7),(o1 12 (.ext 1) 7),(mv 5 11),(mv 6 12)] [8,9,10,7,11,12,1]) <|
  .seq (.seq (rg [(mv 13 6)] []) <|
  .cond (.t 13) (rg [(mv 14 0),(mv 15 0),(o1 16 .nilc 15),(o1 17 (.fa 0) 16),(oS 18 ld1 [.t 17]),(mv 19 5),(mv 20 5),(op 21 (.bin .add) [.t 20,(ic 1)]),(oS 22 (.call 88) [.t 18,.t 19,.t 21]),(o1 23 .nilc 14),(o1 24 (.fa 0) 23),(tS (.st 1) [.t 24,.t 22])] (rn 14 11 [0,5]))
  (.skip)) <|
  .seq (rg [(mv 25 6),(mv 4 25)] [25,6]) <|
  .ret }
def F86:AFun:=
{nargs:=2,keep:=false,res:=[.tmp 4,.tmp 5],body:=
  .seq (rg [(op 4 .mv [(ic 0)]),(op 5 .mv [bF])] [4,5]) <|
  .seq (rg [(mv 6 0),(o1 7 .nilc 6),(o1 8 (.fa 0) 7),(oS 9 ld1 [.t 8]),(mv 10 1),(oS 11 (.call 130) [.t 9,.t 10,.c (.fn 131 [])]),(o1 12 (.ext 0) 11),(o1 13 (.ext 1) 11),(mv 4 12),(mv 5 13)] (rn 6 8 [0,1])) <|
  .ret }
def F87:AFun:=
{nargs:=3,keep:=true,res:=[.tmpD 6],body:=
  .seq (rg [(op 6 .mv [.c (.sl .full 9 [])])] [6]) <|
  .seq (rg [(mv 10 0),(mv 11 1),(o2 12 (.slc false 9 true false) 10 11)] [10,11,12]) <|
  .seq (rg [(mv 13 2),(o1 14 (.len false) 13),(mv 7 14)] [13,14]) <|
  .seq (.seq (rg [(mv 15 7),(op 16 (.bin .eql) [.t 15,(ic 0)])] [15]) <|
  .cond (.t 16) (.seq (rg [(mv 17 0),(mO 6 17)] [17,0]) <|
  .ret)
  (.skip)) <|
  .seq (rg [(mv 18 0),(o1 19 (.len false) 18),(mv 8 19)] [18,19]) <|
  .seq (.seq (rg [(mv 20 1),(mv 21 8),(o2 22 (.bin .eql) 20 21)] [20,21]) <|
  .cond (.t 22) (.seq (rg [(mO 23 0),(mv 24 2),(oS 25 (.appS false 9 144) [.t 23,.t 24]),(mO 6 25)] [23,24,25,0,2]) <|
  .ret)
  (.skip)) <|
  .seq (.seq (rg [⟨none,.mv,[],.none,none,none⟩] []) <|
  .cond (.t 31) (.seq (rg [⟨none,.mv,[],.none,none,none⟩] []) <|
  .seq (rg [(mv 41 9),(mv 42 1),(o2 43 (.slc false 9 true false) 41 42),(mv 44 2),(oS 45 (.cpy 9) [.t 43,.t 44])] (rn 41 5 [2])) <|
  .seq (.reg true [] [(mv 46 9),(mv 47 1),(mv 48 7),(o2 49 (.bin .add) 47 48),(o2 50 (.slc false 9 true false) 46 49),(mv 51 0),(mv 52 1),(o2 53 (.slc false 9 true false) 51 52),(oS 54 (.cpy 9) [.t 50,.t 53])] (rn 46 9 [1,7,0])) <|
  .seq (rg [(mv 55 9),(mO 6 55)] [55,9]) <|
  .ret)
  (.skip)) <|
  .seq (rg [(mv 56 0),(mv 57 8),(mv 58 7),(o2 59 (.bin .add) 57 58),(o2 60 (.slc false 9 false true) 56 59),(mO 0 60)] (rn 56 5 [])) <|
  .seq (.seq (rg [(mv 61 2),(mv 62 0),(mv 63 1),(mv 64 7),(o2 65 (.bin .add) 63 64),(o2 66 (.slc false 9 true false) 62 65),(oS 67 (.callR 132) [.t 61,.t 66]),(o1 68 (.un .not) 67)] (rn 61 7 [])) <|
  .cond (.t 68) (.seq (.reg true [] [(mv 69 0),(mv 70 1),(mv 71 7),(o2 72 (.bin .add) 70 71),(o2 73 (.slc false 9 true false) 69 72),(mv 74 0),(mv 75 1),(o2 76 (.slc false 9 true false) 74 75),(oS 77 (.cpy 9) [.t 73,.t 76])] (rn 69 9 [7])) <|
  .seq (rg [(mv 78 0),(mv 79 1),(o2 80 (.slc false 9 true false) 78 79),(mv 81 2),(oS 82 (.cpy 9) [.t 80,.t 81])] (rn 78 5 [1,2])) <|
  .seq (rg [(mv 83 0),(mO 6 83)] [83,0]) <|
  .ret)
  (.skip)) <|
  .seq (rg [(mv 84 0),(mv 85 8),(o2 86 (.slc false 9 true false) 84 85),(mv 87 2),(oS 88 (.cpy 9) [.t 86,.t 87])] (rn 84 5 [8,2])) <|
  .seq (rg [(mv 89 0),(mv 90 1),(o2 91 (.slc false 9 true false) 89 90),(mv 92 7),(oS 93 (.callR 133) [.t 91,.t 92])] (rn 89 5 [1,7])) <|
  .seq (rg [(mv 94 0),(mO 6 94)] [94,0]) <|
  .ret }
def F88:AFun:=
{nargs:=3,keep:=true,res:=[.tmpD 6],body:=
  .seq (rg [(op 6 .mv [.c (.sl .full 9 [])])] [6]) <|
  .seq (rg [(mv 8 0),(mv 9 1),(mv 10 2),(mv 11 0),(o1 12 (.len false) 11),(op 13 .slm [.t 8,.t 9,.t 10,.t 12])] (rn 8 6 [])) <|
  .seq (.seq (rg [(mv 14 1),(mv 15 2),(o2 16 (.bin .eql) 14 15)] [14,15]) <|
  .cond (.t 16) (.seq (rg [(mv 17 0),(mO 6 17)] [17,0]) <|
  .ret)
  (.skip)) <|
  .seq (rg [(mv 18 0),(o1 19 (.len false) 18),(mv 7 19)] [18,19]) <|
  .seq (.reg true [] [(mv 20 0),(mv 21 1),(o2 22 (.slc false 9 false true) 20 21),(mv 23 0),(mv 24 2),(o2 25 (.slc false 9 true false) 23 24),(oS 26 (.appC 9) [.t 22,.t 25]),(mO 0 26)] (rn 20 7 [1,2])) <|
  .seq (rg [(mv 27 0),(mv 28 0),(o1 29 (.len false) 28),(mv 30 7),(oS 31 (.slx 9 true) [.t 27,.t 29,.t 30]),(tS (.clr 9 [.str [],.sl .full 3 [],.sl .full 3 [],.str [],.str [],.str [],.str [],.int .i64 0,.int .i64 0]) [.t 31])] (rn 27 5 [7])) <|
  .seq (rg [(mv 32 0),(mO 6 32)] [32,0]) <|
  .ret }
def L130_0:ACode:=
  .loop (rn 15 9 (11::(rn 24 11 []))) (.seq (.seq (rg [(mv 15 9),(mv 16 10),(o2 17 (.bin .lss) 15 16)] [15,16]) <|
  .cond (.t 17) (.skip)
  (.exit 0)) <|
  .block 1 (.seq (rg [(mv 18 9),(mv 19 10),(o2 20 (.bin .add) 18 19),(o1 21 (.cvi .u64) 20),(op 22 (.shf false) [.t 21,.c (.int .u64 1)]),(o1 23 (.cvi .i64) 22),(mv 11 23)] (rn 18 6 [])) <|
  .seq (rg [(mv 24 2),(mv 25 0),(mv 26 11),(o2 27 (.ia 9) 25 26),(oS 28 (.ld true 9) [.t 27]),(mv 29 1),(oS 30 .callv [.t 24,.t 28,.t 29]),(op 31 (.bin .lss) [.t 30,(ic 0)])] (rn 24 7 [])) <|
  .cond (.t 31) (rg [(mv 32 11),(op 33 (.bin .add) [.t 32,(ic 1)]),(mv 9 33)] [32,33,11])
  (rg [(mv 34 11),(mv 10 34)] [34,11])))
def F130:AFun:=
{nargs:=3,keep:=false,res:=[.tmp 6,.tmp 7],body:=
  .seq (rg [(op 6 .mv [(ic 0)]),(op 7 .mv [bF])] [6,7]) <|
  .seq (rg [(mv 12 0),(o1 13 (.len false) 12),(mv 8 13)] [12,13]) <|
  .seq (rg [(mv 14 8),(op 9 .mv [(ic 0)]),(mv 10 14)] [14]) <|
  .seq (.block 0 (L130_0)) <|
  .seq (rg [(mv 35 9),(mv 36 9),(mv 37 8),(o2 38 (.bin .lss) 36 37),(mv 39 38),(mG 40 2 39 true),(mG 41 0 39 true),(mG 42 9 39 true),(oG 43 (.ia 9) [.t 41,.t 42] 39 true),
  ⟨(some 44),(.ld true 9),[.t 43],.sh,none,(some (39,true))⟩,
  (mG 45 1 39 true),
  ⟨(some 46),.callv,[.t 40,.t 44,.t 45],.sh,none,(some (39,true))⟩,
  (oG 47 (.bin .eql) [.t 46,(ic 0)] 39 true),(op 48 .pick [.t 39,.t 47,bF]),(mv 6 35),(mv 7 48)] (rn 35 14 [9,8,2,0,1])) <|
  .ret }
def F131:AFun:=
{nargs:=2,keep:=false,res:=[.tmp 4],body:=
  .seq (.reg false [2] [(oL 2 2 (.box 9) [.t 0]),(op 4 .mv [(ic 0)])] [4,0]) <|
  .seq (rg [(o1 5 (.fa 0) 2),(oL 6 2 ld1 [.t 5]),(mv 7 1),(o2 8 (.call 81) 6 7),(mv 4 8)] [5,6,7,8,2,1]) <|
  .ret }
theorem ok13:okFun Tryz.prog 13 F13=true:=by kernel_rfl
theorem ok19e:okFun Tryz.prog 19 F19e=true:=by kernel_rfl
theorem ok44:okFun Tryz.prog 44 F44=true:=by kernel_rfl
theorem ok45:okFun Tryz.prog 45 F45=true:=by kernel_rfl
theorem ok86:okFun Tryz.prog 86 F86=true:=by kernel_rfl
theorem ok87:okFun Tryz.prog 87 F87=true:=by kernel_rfl
theorem ok88:okFun Tryz.prog 88 F88=true:=by kernel_rfl
theorem ok130:okFun Tryz.prog 130 F130=true:=by kernel_rfl
theorem ok131:okFun Tryz.prog 131 F131=true:=by kernel_rfl
def T4:FuncId->Option AFun
 | 13=>some F13
 | 19=>some F19e
 | 44=>some F44
 | 45=>some F45
 | 86=>some F86
 | 87=>some F87
 | 88=>some F88
 | 130=>some F130
 | 131=>some F131
 | _=>none
theorem T4_ok:∀ f F,T4 f=some F->okFun Tryz.prog f F=true:=by
 intro f F h;unfold T4 at h
 split at h
 ·cases h;exact ok13
 ·cases h;exact ok19e
 ·cases h;exact ok44
 ·cases h;exact ok45
 ·cases h;exact ok86
 ·cases h;exact ok87
 ·cases h;exact ok88
 ·cases h;exact ok130
 ·cases h;exact ok131
 ·cases h
abbrev ze9:List AV:=[.str [],.sl .full 3 [],.sl .full 3 [],.str [],.str [],.str [],.str [],.int .i64 0,.int .i64 0]
theorem oki87:okInsert Tryz.prog 87 132 9 144 ze9=true:=by kernel_rfl
theorem ov132:Good Tryz.prog (ovB 132 9):=
 ovB_sound (fn:=Tryz.f132) (t:=87) (tr:=4) (e:=91) Tryz.func132 (by kernel_rfl) (by kernel_rfl) (by kernel_rfl) (by kernel_rfl) Tryz.underlying87 (by kernel_rfl) (by decide)
noncomputable def B4:Calls':=fun f args sh=>match f with
 | 87=>insB 9 144 args sh
 | 13=>none
 | 19=>none
 | 44=>none
 | 45=>none
 | 86=>none
 | 88=>none
 | 130=>none
 | 131=>none
 | f=>G3 f args sh
theorem B4_good:Good Tryz.prog B4:=by
 intro f args sh r sh' h;unfold B4 at h
 split at h
 ·exact .inl (insB_sound mix oki87 ov132 (by decide) (by decide) (by decide) h)
 ·cases h
 ·cases h
 ·cases h
 ·cases h
 ·cases h
 ·cases h
 ·cases h
 ·cases h
 ·exact G3_good _ _ _ _ _ h
noncomputable abbrev G4:Calls':=Gx B4 T4
theorem G4_good:Good Tryz.prog G4:=Gx_good mix B4_good T4_ok
theorem up4 {f:FuncId} {args:List AV} {sh:LL} {r:AV × LL} (h:G3 f args sh=some r) (hB:B4 f args sh=G3 f args sh):G4 f args sh=some r:=Gx_base (hB.trans h)
theorem up0 {f:FuncId} {args:List AV} {sh:LL} {r:AV × LL} (h:G0 f args sh=some r) (h3:B3 f args sh=G0 f args sh) (hB:B4 f args sh=G3 f args sh):G4 f args sh=some r:=up4 (up h h3) hB
end Go.Av
