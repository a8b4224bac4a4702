/- made, Put, with as functions that hand out objects, and the law MemoryPuts, as abstract code, held against the program by the kernel. No conditions. -/
import Derived.Test.YtigalfbihapdnaaGreatDoorG7Sm
import Derived.Test.YtigalfbihapdnaaGreatDoorG7Ev29to30
open List
set_option linter.unusedSimpArgs false
set_option linter.unusedVariables false
set_option linter.unusedSectionVars false
set_option maxRecDepth 100000
set_option maxHeartbeats 16000000
namespace Go.Av
open Go.Proofs
def L25p_0:ACode:=
  .loop [15,16,20,21,22,23,19,24,25,17,18] (.seq (.seq (rg [(mv 15 7),(op 16 (.bin .gtr) [.t 15,(ic 0)])] [15]) <|
  .cond (.t 16) (.skip)
  (.exit 0)) <|
  .seq (.block 1 (rg [(mv 20 5),(mv 21 6),(oS 22 (.call 55) [.t 21]),(oS 23 (.call 30) [.t 20,.t 22]),(mv 19 23),(o1 24 (.ext 0) 19),(o1 25 (.ext 1) 19),(mO 5 24)] [20,21,22,23,19,24,25])) <|
  rg [(mv 17 7),(op 18 (.bin .sub) [.t 17,(ic 1)]),(mv 7 18)] [17,18])
def F25p:AFun:=
{nargs:=2,keep:=true,res:=[.tmpD 4],body:=
  .seq (rg [(op 4 .mv [.c (.sl .full 8 [])])] [4]) <|
  .seq (rg [(op 5 .mv [.c (.sl .full 8 [])])] []) <|
  .seq (rg [(mv 8 0),(op 9 (.build [.sl .full 1 [],.int .i64 0] [(0,1)]) [.t 8]),(oS 10 (.boxS 2) [.t 9]),(mv 6 10)] [8,9,10,0]) <|
  .seq (.seq (rg [(mv 11 6),(mv 12 1),(op 13 (.bin .add) [.t 12,(ic 1)]),(oS 14 (.call 54) [.t 11,.t 13]),(mv 7 14)] [11,12,13,14,1]) <|
  .block 0 (L25p_0)) <|
  .seq (rg [(mv 26 5),(mO 4 26)] [26,5]) <|
  .ret }
def F30p:AFun:=
{nargs:=2,keep:=true,res:=[.tmpD 4,.tmpD 5],body:=
  .seq (.reg false [3] [(oL 3 3 (.box 8) [.t 1]),(op 4 .mv [.c (.sl .full 8 [])]),(op 5 .mv [(ic 0)])] [4,5,1]) <|
  .seq (.seq (rg [(mv 8 0),(oS 9 (.callR 32) [.t 8]),(o1 10 (.un .not) 9)] [8,9]) <|
  .cond (.t 10) (.seq (rg [(op 4 .mv [.c (.sl .full 8 [])]),(op 5 .mv [(ic 1)])] []) <|
  .ret)
  (.skip)) <|
  .seq (.seq (rg [(oL 11 3 (.ld true 8) [.t 3]),(o1 12 (.call 38) 11),(mv 6 12)] [11,12]) <|
  .seq (rg [(mv 13 6),(op 14 (.bin .neq) [.t 13,(ic 0)])] [13]) <|
  .cond (.t 14) (.seq (rg [(mv 15 6),(op 4 .mv [.c (.sl .full 8 [])]),(mv 5 15)] [15,6]) <|
  .ret)
  (.skip)) <|
  .seq (rg [(mv 16 0),(oL 17 3 (.ld true 8) [.t 3]),(o1 18 (.call 26) 17),(oS 19 (.callR 71) [.t 16,.t 18]),(mv 7 19)] [16,17,18,19]) <|
  .seq (.seq (.reg true [] [(mv 20 7),(mv 21 0),(o1 22 (.len false) 21),(o2 23 (.bin .lss) 20 22),(mv 24 23),(mG 25 0 24 true),(mG 26 7 24 true),(oG 27 (.ia 8) [.t 25,.t 26] 24 true),
  ⟨(some 28),(.ld true 8),[.t 27],.sh,none,(some (24,true))⟩,
  (oG 29 (.call 26) [.t 28] 24 true),(oH 30 3 (.ld true 8) [.t 3] 24 true),(oG 31 (.call 26) [.t 30] 24 true),(oG 32 (.bin .eql) [.t 29,.t 31] 24 true),(op 33 .pick [.t 24,.t 32,bF])] (rn 20 13 [])) <|
  .cond (.t 33) (.seq (rg [(mv 34 0),(mv 35 7),(oL 36 3 (.ld true 8) [.t 3]),(oS 37 (.call 72) [.t 34,.t 35,.t 36,(ic 1)]),(mO 4 37),(op 5 .mv [(ic 0)])] [34,35,36,37,0,7,3]) <|
  .ret)
  (.skip)) <|
  .seq (.seq (rg [(mv 38 0),(o1 39 (.len false) 38),(op 40 (.bin .geq) [.t 39,(ic 1024)])] [38,39]) <|
  .cond (.t 40) (.seq (rg [(op 4 .mv [.c (.sl .full 8 [])]),(op 5 .mv [(ic 3)])] []) <|
  .ret)
  (.skip)) <|
  .seq (rg [(mv 41 0),(mv 42 7),(oL 43 3 (.ld true 8) [.t 3]),(oS 44 (.call 72) [.t 41,.t 42,.t 43,(ic 0)]),(mO 4 44),(op 5 .mv [(ic 0)])] [41,42,43,44,0,7,3]) <|
  .ret }
def F72p:AFun:=
{nargs:=4,keep:=true,res:=[.tmpD 8],body:=
  .seq (.reg false [6] [(oL 6 6 (.box 8) [.t 2]),(op 8 .mv [.c (.sl .full 8 [])])] [8,2]) <|
  .seq (rg [(mv 10 0),(mv 11 1),(o2 12 (.slc false 8 false true) 10 11),(oS 13 (.appS false 8 128) [.c (.sl .full 8 []),.t 12]),(mO 9 13)] [10,11,12,13]) <|
  .seq (rg [(mO 14 9),(oL 15 6 (.ld true 8) [.t 6]),(o1 16 (.mks 8 [.sl .full 3 [],.sl .full 3 [],.str [],.str [],.str [],.str [],.int .i64 0,.int .i64 0] 1 [0]) 15),(oS 17 (.appS false 8 128) [.t 14,.t 16]),(mO 9 17)] [14,15,16,17,6]) <|
  .seq (rg [(mO 18 9),(mv 19 0),(mv 20 1),(mv 21 3),(o2 22 (.bin .add) 20 21),(o2 23 (.slc false 8 true false) 19 22),(oS 24 (.appS false 8 128) [.t 18,.t 23]),(mO 8 24)] (rn 18 7 [9,0,1,3])) <|
  .ret }
def F27p:AFun:=
{nargs:=2,keep:=false,res:=[.tmp 4,.tmp 5],body:=
  .seq (.reg false [3] [(oL 3 3 (.box 8) [.t 1]),(op 4 .mv [.c (.sl .full 8 [])]),(op 5 .mv [(ic 0)])] [4,5,1]) <|
  .seq (rg [(mv 13 0),(oS 14 (.call 66) [.t 13]),(mv 12 14),(o1 15 (.ext 0) 12),(o1 16 (.ext 1) 12),(mO 6 15),(mv 7 16)] [13,14,12,15,16]) <|
  .seq (.seq (rg [(mv 17 7),(o1 18 (.un .not) 17)] [17,7]) <|
  .cond (.t 18) (.seq (rg [(op 4 .mv [.c (.sl .full 8 [])]),(op 5 .mv [(ic 1)])] []) <|
  .ret)
  (.skip)) <|
  .seq (.seq (rg [(oL 19 3 (.ld true 8) [.t 3]),(o1 20 (.call 23) 19),(mv 8 20)] [19,20]) <|
  .seq (rg [(mv 21 8),(op 22 (.bin .neq) [.t 21,(ic 0)])] [21]) <|
  .cond (.t 22) (.seq (rg [(mv 23 8),(op 4 .mv [.c (.sl .full 8 [])]),(mv 5 23)] [23,8]) <|
  .ret)
  (.skip)) <|
  .seq (rg [(mv 25 6),(oL 26 3 (.ld true 8) [.t 3]),(o1 27 (.call 64) 26),(o2 28 (.call 67) 25 27),(mv 24 28),(o1 29 (.ext 0) 24),(o1 30 (.ext 1) 24),(mv 9 29),(mv 10 30)] [25,26,27,28,24,29,30,6]) <|
  .seq (.seq (rg [(mv 31 10),(o1 32 (.un .not) 31),(mv 33 32),(mG 34 0 33 true),(oG 35 (.len false) [.t 34] 33 true),(oG 36 (.bin .geq) [.t 35,(ic 1024)] 33 true),(op 37 .pick [.t 33,.t 36,bF])] (rn 31 6 [])) <|
  .cond (.t 37) (.seq (rg [(op 4 .mv [.c (.sl .full 8 [])]),(op 5 .mv [(ic 3)])] []) <|
  .ret)
  (.skip)) <|
  .seq (rg [(mv 38 0),(oS 39 (.call 68) [.t 38]),(mO 11 39)] [38,39,0]) <|
  .seq (.seq (rg [(mv 40 10)] [10]) <|
  .cond (.t 40) (.seq (rg [(mv 41 11),(mv 42 9),(oL 43 3 (.ld true 8) [.t 3]),(o1 44 (.call 69) 43),(o2 45 (.ia 8) 41 42),(tS (.st 8) [.t 45,.t 44])] (rn 41 5 [9,3])) <|
  .seq (rg [(mv 46 11),(mO 4 46),(op 5 .mv [(ic 0)])] [46,11]) <|
  .ret)
  (.skip)) <|
  .seq (rg [(mv 47 11),(mv 48 9),(oL 49 3 (.ld true 8) [.t 3]),(o1 50 (.call 69) 49),(o1 51 (.mks 8 [.sl .full 3 [],.sl .full 3 [],.str [],.str [],.str [],.str [],.int .i64 0,.int .i64 0] 1 [0]) 50),(oS 52 (.call 70) [.t 47,.t 48,.t 51]),(mO 4 52),(op 5 .mv [(ic 0)])] (rn 47 6 [11,9,3])) <|
  .ret }
def F33p:AFun:=
{nargs:=2,keep:=false,res:=[.tmp 4,.tmp 5],body:=
  .seq (rg [(op 4 .mv [.c (.sl .full 8 [])]),(op 5 .mv [bF])] [4,5]) <|
  .seq (rg [(mv 7 0),(mv 8 1),(oS 9 (.callR 35) [.t 7,.t 8]),(mv 6 9)] [7,8,9,1]) <|
  .seq (.seq (rg [(mv 10 6),(op 11 (.bin .lss) [.t 10,(ic 0)])] [10]) <|
  .cond (.t 11) (.seq (rg [(op 4 .mv [.c (.sl .full 8 [])]),(op 5 .mv [bF])] []) <|
  .ret)
  (.skip)) <|
  .seq (rg [(mv 12 0),(oS 13 (.call 68) [.t 12]),(mv 14 6),(mv 15 6),(op 16 (.bin .add) [.t 15,(ic 1)]),(oS 17 (.call 73) [.t 13,.t 14,.t 16]),(mO 4 17),(op 5 .mv [bT])] (rn 12 6 [0,6])) <|
  .ret }
def L66p_0:ACode:=
  .loop (13::14::15::16::6::5::17::18::19::2::3::(rn 20 20 [])) (.seq (rg [(o2 13 (.bin .lss) 12 11)] []) <|
  .seq (.cond (.t 13) (.skip)
  (.exit 0)) <|
  .seq (.block 1 (.seq (.reg false [6] [(mv 14 12),(o2 15 (.ia 8) 10 12),(oS 16 (.ld true 8) [.t 15]),(oL 6 6 (.alloc [.sl .full 3 [],.sl .full 3 [],.str [],.str [],.str [],.str [],.int .i64 0,.int .i64 0]) []),(mv 5 14),(tL 6 (.st 8) [.t 6,.t 16])] [14,15,16]) <|
  .seq (.seq (rg [(oL 17 6 (.ld true 8) [.t 6]),(o1 18 (.call 23) 17),(op 19 (.bin .neq) [.t 18,(ic 0)])] [17,18]) <|
  .cond (.t 19) (.seq (rg [(op 2 .mv [.c (.sl .full 1 [])]),(op 3 .mv [bF])] []) <|
  .ret)
  (.skip)) <|
  .seq (rg [(mO 20 4),(oL 21 6 (.ld true 8) [.t 6]),(o1 22 (.call 64) 21),(o1 23 (.mks 1 [.str []] 1 [0]) 22),(oD 24 (.app false 1 16) [.t 20,.t 23] 20),(mO 4 24)] (rn 20 5 [6])) <|
  .seq (.reg true [] [(mv 25 5),(op 26 (.bin .gtr) [.t 25,(ic 0)]),(mv 27 26),(mG 28 4 27 true),(mG 29 5 27 true),(oG 30 (.bin .sub) [.t 29,(ic 1)] 27 true),(oG 31 (.ia 1) [.t 28,.t 30] 27 true),(oG 32 ld1 [.t 31] 27 true),(mG 33 4 27 true),(mG 34 5 27 true),(oG 35 (.ia 1) [.t 33,.t 34] 27 true),(oG 36 ld1 [.t 35] 27 true),(oG 37 (.bin .geq) [.t 32,.t 36] 27 true),(op 38 .pick [.t 27,.t 37,bF])] (rn 25 13 [5])) <|
  .cond (.t 38) (.seq (rg [(op 2 .mv [.c (.sl .full 1 [])]),(op 3 .mv [bF])] []) <|
  .ret)
  (.skip))) <|
  rg [(op 39 (.bin .add) [.t 12,(ic 1)]),(mv 12 39)] [39])
def F66p:AFun:=
{nargs:=1,keep:=false,res:=[.tmp 2,.tmp 3],body:=
  .seq (rg [(op 2 .mv [.c (.sl .full 1 [])]),(op 3 .mv [bF])] [2,3]) <|
  .seq (.seq (rg [(mv 7 0),(o1 8 (.len false) 7),(op 9 (.bin .gtr) [.t 8,(ic 1024)])] [7,8]) <|
  .cond (.t 9) (.seq (rg [(op 2 .mv [.c (.sl .full 1 [])]),(op 3 .mv [bF])] []) <|
  .ret)
  (.skip)) <|
  .seq (rg [(op 4 .mv [.c (.sl .full 1 [])])] []) <|
  .seq (.seq (rg [(mv 10 0),(o1 11 (.len false) 10),(op 12 .mv [(ic 0)])] [0]) <|
  .block 0 (L66p_0)) <|
  .seq (rg [(mv 40 4),(mO 2 40),(op 3 .mv [bT])] [40,4]) <|
  .ret }
def L68p_0:ACode:=
  .loop (13::14::15::5::(rn 16 6 [])) (.seq (rg [(o2 13 (.bin .lss) 12 11)] []) <|
  .seq (.cond (.t 13) (.skip)
  (.exit 0)) <|
  .seq (.block 1 (.seq (.reg false [5] [(o2 14 (.ia 8) 10 12),(oS 15 (.ld true 8) [.t 14]),(oL 5 5 (.alloc [.sl .full 3 [],.sl .full 3 [],.str [],.str [],.str [],.str [],.int .i64 0,.int .i64 0]) []),(tL 5 (.st 8) [.t 5,.t 15])] [14,15]) <|
  rg [(mO 16 3),(oL 17 5 (.ld true 8) [.t 5]),(o1 18 (.call 69) 17),(o1 19 (.mks 8 [.sl .full 3 [],.sl .full 3 [],.str [],.str [],.str [],.str [],.int .i64 0,.int .i64 0] 1 [0]) 18),(oS 20 (.appS false 8 128) [.t 16,.t 19]),(mO 3 20)] (rn 16 5 [5]))) <|
  rg [(op 21 (.bin .add) [.t 12,(ic 1)]),(mv 12 21)] [21])
def F68p:AFun:=
{nargs:=1,keep:=true,res:=[.tmpD 2],body:=
  .seq (rg [(op 2 .mv [.c (.sl .full 8 [])])] [2]) <|
  .seq (rg [(mv 6 0),(o1 7 (.len false) 6),(op 8 (.bin .add) [.t 7,(ic 1)]),(oS 9 (.mkl 8 [.sl .full 3 [],.sl .full 3 [],.str [],.str [],.str [],.str [],.int .i64 0,.int .i64 0] 128) [(ic 0),.t 8]),(mO 3 9)] [6,7,8,9]) <|
  .seq (.seq (rg [(mv 10 0),(o1 11 (.len false) 10),(op 12 .mv [(ic 0)])] [0]) <|
  .block 0 (L68p_0)) <|
  .seq (rg [(mv 22 3),(mO 2 22)] [22,3]) <|
  .ret }
def F34p:AFun:=
{nargs:=2,keep:=false,res:=[.tmp 4,.tmp 5],body:=
  .seq (rg [(op 4 .mv [.c (.sl .full 8 [])]),(op 5 .mv [bF])] [4,5]) <|
  .seq (rg [(mv 7 0),(mv 8 1),(oS 9 (.callR 36) [.t 7,.t 8]),(mv 6 9)] [7,8,9,1]) <|
  .seq (.seq (rg [(mv 10 6),(op 11 (.bin .lss) [.t 10,(ic 0)])] [10]) <|
  .cond (.t 11) (.seq (rg [(op 4 .mv [.c (.sl .full 8 [])]),(op 5 .mv [bF])] []) <|
  .ret)
  (.skip)) <|
  .seq (.reg true [] [(mv 12 0),(mv 13 6),(o2 14 (.slc false 8 false true) 12 13),(oS 15 (.appS false 8 128) [.c (.sl .full 8 []),.t 14]),(mv 16 0),(mv 17 6),(op 18 (.bin .add) [.t 17,(ic 1)]),(o2 19 (.slc false 8 true false) 16 18),(oS 20 (.appS false 8 128) [.t 15,.t 19]),(mO 4 20),(op 5 .mv [bT])] (rn 12 9 [0,6])) <|
  .ret }
def F70p:AFun:=
{nargs:=3,keep:=true,res:=[.tmpD 6],body:=
  .seq (rg [(op 6 .mv [.c (.sl .full 8 [])])] [6]) <|
  .seq (rg [(mv 10 0),(mv 11 1),(o2 12 (.slc false 8 true false) 10 11)] [10,11,12]) <|
  .seq (rg [(mv 13 2),(o1 14 (.len false) 13),(mv 7 14)] [13,14]) <|
  .seq (.seq (rg [(mv 15 7),(op 16 (.bin .eql) [.t 15,(ic 0)])] [15]) <|
  .cond (.t 16) (.seq (rg [(mv 17 0),(mO 6 17)] [17,0]) <|
  .ret)
  (.skip)) <|
  .seq (rg [(mv 18 0),(o1 19 (.len false) 18),(mv 8 19)] [18,19]) <|
  .seq (.seq (rg [(mv 20 1),(mv 21 8),(o2 22 (.bin .eql) 20 21)] [20,21]) <|
  .cond (.t 22) (.seq (rg [(mO 23 0),(mv 24 2),(oS 25 (.appS false 8 128) [.t 23,.t 24]),(mO 6 25)] [23,24,25,0,2]) <|
  .ret)
  (.skip)) <|
  .seq (.seq (rg [⟨none,.mv,[],.none,none,none⟩] []) <|
  .cond (.t 31) (.seq (rg [⟨none,.mv,[],.none,none,none⟩] []) <|
  .seq (rg [(mv 41 9),(mv 42 1),(o2 43 (.slc false 8 true false) 41 42),(mv 44 2),(oS 45 (.cpy 8) [.t 43,.t 44])] (rn 41 5 [2])) <|
  .seq (.reg true [] [(mv 46 9),(mv 47 1),(mv 48 7),(o2 49 (.bin .add) 47 48),(o2 50 (.slc false 8 true false) 46 49),(mv 51 0),(mv 52 1),(o2 53 (.slc false 8 true false) 51 52),(oS 54 (.cpy 8) [.t 50,.t 53])] (rn 46 9 [1,7,0])) <|
  .seq (rg [(mv 55 9),(mO 6 55)] [55,9]) <|
  .ret)
  (.skip)) <|
  .seq (rg [(mv 56 0),(mv 57 8),(mv 58 7),(o2 59 (.bin .add) 57 58),(o2 60 (.slc false 8 false true) 56 59),(mO 0 60)] (rn 56 5 [])) <|
  .seq (.seq (rg [(mv 61 2),(mv 62 0),(mv 63 1),(mv 64 7),(o2 65 (.bin .add) 63 64),(o2 66 (.slc false 8 true false) 62 65),(oS 67 (.callR 115) [.t 61,.t 66]),(o1 68 (.un .not) 67)] (rn 61 7 [])) <|
  .cond (.t 68) (.seq (.reg true [] [(mv 69 0),(mv 70 1),(mv 71 7),(o2 72 (.bin .add) 70 71),(o2 73 (.slc false 8 true false) 69 72),(mv 74 0),(mv 75 1),(o2 76 (.slc false 8 true false) 74 75),(oS 77 (.cpy 8) [.t 73,.t 76])] (rn 69 9 [7])) <|
  .seq (rg [(mv 78 0),(mv 79 1),(o2 80 (.slc false 8 true false) 78 79),(mv 81 2),(oS 82 (.cpy 8) [.t 80,.t 81])] (rn 78 5 [1,2])) <|
  .seq (rg [(mv 83 0),(mO 6 83)] [83,0]) <|
  .ret)
  (.skip)) <|
  .seq (rg [(mv 84 0),(mv 85 8),(o2 86 (.slc false 8 true false) 84 85),(mv 87 2),(oS 88 (.cpy 8) [.t 86,.t 87])] (rn 84 5 [8,2])) <|
  .seq (rg [(mv 89 0),(mv 90 1),(o2 91 (.slc false 8 true false) 89 90),(mv 92 7),(oS 93 (.callR 116) [.t 91,.t 92])] (rn 89 5 [1,7])) <|
  .seq (rg [(mv 94 0),(mO 6 94)] [94,0]) <|
  .ret }
def F73p:AFun:=
{nargs:=3,keep:=true,res:=[.tmpD 6],body:=
  .seq (rg [(op 6 .mv [.c (.sl .full 8 [])])] [6]) <|
  .seq (rg [(mv 8 0),(mv 9 1),(mv 10 2),(mv 11 0),(o1 12 (.len false) 11),(op 13 .slm [.t 8,.t 9,.t 10,.t 12])] (rn 8 6 [])) <|
  .seq (.seq (rg [(mv 14 1),(mv 15 2),(o2 16 (.bin .eql) 14 15)] [14,15]) <|
  .cond (.t 16) (.seq (rg [(mv 17 0),(mO 6 17)] [17,0]) <|
  .ret)
  (.skip)) <|
  .seq (rg [(mv 18 0),(o1 19 (.len false) 18),(mv 7 19)] [18,19]) <|
  .seq (.reg true [] [(mv 20 0),(mv 21 1),(o2 22 (.slc false 8 false true) 20 21),(mv 23 0),(mv 24 2),(o2 25 (.slc false 8 true false) 23 24),(oS 26 (.appC 8) [.t 22,.t 25]),(mO 0 26)] (rn 20 7 [1,2])) <|
  .seq (rg [(mv 27 0),(mv 28 0),(o1 29 (.len false) 28),(mv 30 7),(oS 31 (.slx 8 true) [.t 27,.t 29,.t 30]),(tS (.clr 8 [.sl .full 3 [],.sl .full 3 [],.str [],.str [],.str [],.str [],.int .i64 0,.int .i64 0]) [.t 31])] (rn 27 5 [7])) <|
  .seq (rg [(mv 32 0),(mO 6 32)] [32,0]) <|
  .ret }
def L6p_0:ACode:=
  .loop (76::77::16::(rn 78 9 [])) (.seq (rg [(o2 76 (.bin .lss) 75 74)] []) <|
  .seq (.cond (.t 76) (.skip)
  (.exit 0)) <|
  .seq (.block 1 (.seq (rg [(mv 77 75),(mv 16 77)] [77]) <|
  rg [(mO 78 15),(mv 79 13),(mv 80 16),(o2 81 (.ia 8) 79 80),(oS 82 (.ld true 8) [.t 81]),(o1 83 (.call 26) 82),(o1 84 (.mks 1 [.str []] 1 [0]) 83),(oD 85 (.app false 1 16) [.t 78,.t 84] 78),(mO 15 85)] (rn 78 8 [16]))) <|
  rg [(op 86 (.bin .add) [.t 75,(ic 1)]),(mv 75 86)] [86])
def L6p_1:ACode:=
  .loop (91::92::18::94::95::96::93::97::98::19::20::100::101::102::99::103::104::21::22::(rn 105 18 [12,123])) (.seq (rg [(op 91 (.bin .lss) [.t 90,(ic 2)])] []) <|
  .seq (.cond (.t 91) (.skip)
  (.exit 2)) <|
  .seq (.block 3 (.seq (.reg false [18] [(o2 92 (.ixA true 8 2) 89 90),(oL 18 18 (.alloc [.sl .full 3 [],.sl .full 3 [],.str [],.str [],.str [],.str [],.int .i64 0,.int .i64 0]) []),(tL 18 (.st 8) [.t 18,.t 92])] [92]) <|
  .seq (rg [(mv 94 13),(oL 95 18 (.ld true 8) [.t 18]),(oS 96 (.call 27) [.t 94,.t 95]),(mv 93 96),(o1 97 (.ext 0) 93),(o1 98 (.ext 1) 93),(mO 19 97),(mv 20 98)] [94,95,96,93,97,98]) <|
  .seq (rg [(mv 100 13),(oL 101 18 (.ld true 8) [.t 18]),(oS 102 (.call 30) [.t 100,.t 101]),(mv 99 102),(o1 103 (.ext 0) 99),(o1 104 (.ext 1) 99),(mO 21 103),(mv 22 104)] [100,101,102,99,103,104]) <|
  .seq (.reg true [] [(mv 105 20),(mv 106 22),(o2 107 (.bin .neq) 105 106),(mv 108 107),(mG 109 19 108 false),(mG 110 21 108 false),
  ⟨(some 111),(.callR 28),[.t 109,.t 110],.sh,none,(some (108,false))⟩,
  (oG 112 (.un .not) [.t 111] 108 false),(op 113 .pick [.t 108,bT,.t 112]),(mv 114 113),(oH 115 18 (.ld true 8) [.t 18] 114 false),(oG 116 (.mks 8 [.sl .full 3 [],.sl .full 3 [],.str [],.str [],.str [],.str [],.int .i64 0,.int .i64 0] 1 [0]) [.t 115] 114 false),(oG 117 (.call 31) [.t 116] 114 false),(oH 118 18 (.ld true 8) [.t 18] 114 false),(oG 119 (.mks 8 [.sl .full 3 [],.sl .full 3 [],.str [],.str [],.str [],.str [],.int .i64 0,.int .i64 0] 1 [0]) [.t 118] 114 false),(oG 120 (.call 32) [.t 119] 114 false),(oG 121 (.beq true) [.t 117,.t 120] 114 false),(op 122 .pick [.t 114,bT,.t 121])] (rn 105 17 [20,22,19,21,18])) <|
  .cond (.t 122) (.seq (rg [(op 12 .mv [bF])] []) <|
  .ret)
  (.skip))) <|
  rg [(op 123 (.bin .add) [.t 90,(ic 1)]),(mv 90 123)] [123])
def L6p_2:ACode:=
  .loop (127::128::129::24::131::132::133::130::134::135::25::26::137::138::139::136::140::141::27::28::(rn 142 18 [12,160])) (.seq (rg [(o2 127 (.bin .lss) 126 125)] []) <|
  .seq (.cond (.t 127) (.skip)
  (.exit 4)) <|
  .seq (.block 5 (.seq (rg [(o2 128 (.ia 1) 124 126),(o1 129 ld1 128),(mv 24 129)] [128,129]) <|
  .seq (rg [(mv 131 13),(mv 132 24),(oS 133 (.call 33) [.t 131,.t 132]),(mv 130 133),(o1 134 (.ext 0) 130),(o1 135 (.ext 1) 130),(mO 25 134),(mv 26 135)] [131,132,133,130,134,135]) <|
  .seq (rg [(mv 137 13),(mv 138 24),(oS 139 (.call 34) [.t 137,.t 138]),(mv 136 139),(o1 140 (.ext 0) 136),(o1 141 (.ext 1) 136),(mO 27 140),(mv 28 141)] [137,138,139,136,140,141]) <|
  .seq (rg [(mv 142 13),(mv 143 24),(oS 144 (.callR 35) [.t 142,.t 143]),(mv 145 13),(mv 146 24),(oS 147 (.callR 36) [.t 145,.t 146]),(o2 148 (.bin .neq) 144 147),(mv 149 148),(mG 150 26 149 false),(mG 151 28 149 false),(oG 152 (.beq true) [.t 150,.t 151] 149 false),(op 153 .pick [.t 149,bT,.t 152]),(mv 154 153),(mG 155 25 154 false),(mG 156 27 154 false),(oG 157 (.call 28) [.t 155,.t 156] 154 false),(oG 158 (.un .not) [.t 157] 154 false),(op 159 .pick [.t 154,bT,.t 158])] (rn 142 17 [24,26,28,25,27])) <|
  .cond (.t 159) (.seq (rg [(op 12 .mv [bF])] []) <|
  .ret)
  (.skip))) <|
  rg [(op 160 (.bin .add) [.t 126,(ic 1)]),(mv 126 160)] [160])
def F6p:AFun:=
{nargs:=6,keep:=false,res:=[.tmp 12],body:=
  .seq (.reg false [9] [(oL 9 9 (.box 8) [.t 3]),(op 12 .mv [bF])] [12,3]) <|
  .seq (.seq (rg [(mv 29 0),(o1 30 (.len false) 29),(op 31 (.bin .gtr) [.t 30,(ic 200)]),(mv 32 31),(mG 33 1 32 false),(oG 34 (.len false) [.t 33] 32 false),(oG 35 (.bin .gtr) [.t 34,(ic 80)] 32 false),(op 36 .pick [.t 32,bT,.t 35]),(mv 37 36),(oH 38 9 (.ld true 8) [.t 9] 37 false),(oG 39 (.call 29) [.t 38] 37 false),(oG 40 (.un .not) [.t 39] 37 false),(op 41 .pick [.t 37,bT,.t 40]),(mv 42 41),(mG 43 4 42 false),(oG 44 (.len true) [.t 43] 42 false),(oG 45 (.bin .gtr) [.t 44,(ic 200)] 42 false),(op 46 .pick [.t 42,bT,.t 45])] (rn 29 17 [])) <|
  .cond (.t 46) (.seq (rg [(op 47 (.call 20) []),(mv 12 47)] [47]) <|
  .ret)
  (.skip)) <|
  .seq (rg [(mv 48 0),(oS 49 (.call 25) [.t 48,(ic 6)]),(mO 13 49)] [48,49,0]) <|
  .seq (.seq (rg [(mv 50 5),(mv 51 50),(mG 52 13 51 true),(oG 53 (.len false) [.t 52] 51 true),(oG 54 (.bin .gtr) [.t 53,(ic 1)] 51 true),(op 55 .pick [.t 51,.t 54,bF])] (rn 50 5 [5])) <|
  .cond (.t 55) (.reg true [] [(mv 56 13),(mv 57 13),(mv 58 13),(op 59 (.ia 8) [.t 58,(ic 1)]),(oS 60 (.ld true 8) [.t 59]),(mv 61 13),(op 62 (.ia 8) [.t 61,(ic 0)]),(oS 63 (.ld true 8) [.t 62]),(op 64 (.ia 8) [.t 56,(ic 0)]),(tS (.st 8) [.t 64,.t 60]),(op 65 (.ia 8) [.t 57,(ic 1)]),(tS (.st 8) [.t 65,.t 63])] (rn 56 10 []))
  (.skip)) <|
  .seq (.reg false [14] [(mv 66 1),(mv 67 2),(o2 68 (.call 21) 66 67),(oL 14 14 (.alloc [.sl .full 3 [],.sl .full 3 [],.str [],.str [],.str [],.str [],.int .i64 0,.int .i64 0]) []),(tL 14 (.st 8) [.t 14,.t 68])] [66,67,68,1,2]) <|
  .seq (rg [(mv 69 4),(oL 70 14 (.ld true 8) [.t 14]),(o1 71 (.call 26) 70),(op 72 (.mks 1 [.str []] 3 [0,1,2]) [.t 69,.t 71,.c (.str [])]),(mO 15 72)] [69,70,71,72,4]) <|
  .seq (.seq (rg [(mv 73 13),(o1 74 (.len false) 73),(op 75 .mv [(ic 0)])] [73]) <|
  .block 0 (L6p_0)) <|
  .seq (.seq (rg [(oL 87 9 (.ld true 8) [.t 9]),(oL 88 14 (.ld true 8) [.t 14]),(op 89 (.build [.sl .full 3 [],.sl .full 3 [],.str [],.str [],.str [],.str [],.int .i64 0,.int .i64 0,.sl .full 3 [],.sl .full 3 [],.str [],.str [],.str [],.str [],.int .i64 0,.int .i64 0] [(0,8),(8,8)]) [.t 87,.t 88]),(op 90 .mv [(ic 0)])] [87,88,9,14]) <|
  .block 2 (L6p_1)) <|
  .seq (.seq (rg [(mv 124 15),(o1 125 (.len false) 124),(op 126 .mv [(ic 0)])] [15]) <|
  .block 4 (L6p_2)) <|
  .seq (rg [(mv 161 13),(oS 162 (.callR 31) [.t 161]),(mv 163 13),(oS 164 (.callR 32) [.t 163]),(o2 165 (.beq false) 162 164),(mv 166 165),(oG 167 (.call 20) [] 166 true),(op 168 .pick [.t 166,.t 167,bF]),(mv 12 168)] (rn 161 8 [13])) <|
  .ret }
theorem ok25p:okFun Tryz.prog 25 F25p=true:=by kernel_rfl
theorem ok30p:okFun Tryz.prog 30 F30p=true:=by kernel_rfl
theorem ok72p:okFun Tryz.prog 72 F72p=true:=by kernel_rfl
theorem ok27p:okFun Tryz.prog 27 F27p=true:=by kernel_rfl
theorem ok33p:okFun Tryz.prog 33 F33p=true:=by kernel_rfl
theorem ok66p:okFun Tryz.prog 66 F66p=true:=by kernel_rfl
theorem ok68p:okFun Tryz.prog 68 F68p=true:=by kernel_rfl
theorem ok34p:okFun Tryz.prog 34 F34p=true:=by kernel_rfl
theorem ok70p:okFun Tryz.prog 70 F70p=true:=by kernel_rfl
theorem ok73p:okFun Tryz.prog 73 F73p=true:=by kernel_rfl
theorem ok6p:okFun Tryz.prog 6 F6p=true:=by kernel_rfl
def Tp:FuncId->Option AFun
 | 25=>some F25p
 | 30=>some F30p
 | 72=>some F72p
 | 27=>some F27p
 | 33=>some F33p
 | 66=>some F66p
 | 68=>some F68p
 | 34=>some F34p
 | 70=>some F70p
 | 73=>some F73p
 | 6=>some F6p
 | _=>none
theorem Tp_ok:∀ f F,Tp f=some F->okFun Tryz.prog f F=true:=by
 intro f F h;unfold Tp at h
 split at h
 ·cases h;exact ok25p
 ·cases h;exact ok30p
 ·cases h;exact ok72p
 ·cases h;exact ok27p
 ·cases h;exact ok33p
 ·cases h;exact ok66p
 ·cases h;exact ok68p
 ·cases h;exact ok34p
 ·cases h;exact ok70p
 ·cases h;exact ok73p
 ·cases h;exact ok6p
 ·cases h
noncomputable def Bp:Calls':=fun f args sh=>match f with
 | 54=>frmB G0 54 args sh
 | 55=>frmB G0 55 args sh
 | 70=>insB 8 128 args sh
 | 27=>nilB G0 27 args sh
 | 33=>nilB G0 33 args sh
 | 34=>nilB G0 34 args sh
 | 66=>nilB G0 66 args sh
 | 25=>none
 | 30=>none
 | 72=>none
 | 68=>none
 | 73=>none
 | 6=>none
 | f=>G0 f args sh
theorem Bp_good:Good Tryz.prog Bp:=by
 intro f args sh r sh' h;unfold Bp at h
 split at h
 ·exact frmB_sound G0_good h
 ·exact frmB_sound G0_good h
 ·exact .inl (insB_sound mix oki70 ov115 (by decide) (by decide) (by decide) h)
 ·exact nilB_sound G0_good h
 ·exact nilB_sound G0_good h
 ·exact nilB_sound G0_good h
 ·exact nilB_sound G0_good h
 ·cases h
 ·cases h
 ·cases h
 ·cases h
 ·cases h
 ·cases h
 ·exact G0_good _ _ _ _ _ h
noncomputable abbrev Gp:Calls':=Gx Bp Tp
theorem Gp_good:Good Tryz.prog Gp:=Gx_good mix Bp_good Tp_ok
theorem upp {f:FuncId} {args:List AV} {sh:LL} {r:AV × LL} (h:G0 f args sh=some r) (hB:Bp f args sh=G0 f args sh):Gp f args sh=some r:=Gx_base (hB.trans h)
end Go.Av
