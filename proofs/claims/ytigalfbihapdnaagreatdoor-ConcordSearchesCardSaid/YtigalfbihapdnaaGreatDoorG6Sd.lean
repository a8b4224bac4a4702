/- The functions of the Concord part as abstract code, held against the program by the kernel. No conditions. -/
import Derived.Test.YtigalfbihapdnaaGreatDoorG6Sm
open List
set_option linter.unusedSimpArgs false
set_option linter.unusedVariables false
set_option linter.unusedSectionVars false
set_option maxRecDepth 100000
set_option maxHeartbeats 16000000
namespace Go.Av
open Go.Proofs
def F14:AFun:=
{nargs:=0,keep:=false,res:=[.tmp 0],body:=
  .seq (rg [(op 0 .mv [bF])] [0]) <|
  .seq (rg [(op 2 (.build [.int .i64 0,.str [],.int .i64 0] [(0,1),(1,1)]) [(ic 1),.c (.str [97,32,97,32,32,97])]),(o1 3 (.mks 3 [.int .i64 0,.str [],.int .i64 0] 1 [0]) 2),(o1 4 (.call 49) 3),(mO 1 4)] [2,3,4]) <|
  .seq (rg [(op 5 (.call 51) [.c (.str [82,69,68,44,32,99,97,114])]),(op 6 (.mks 1 [.str []] 2 [0,1]) [.c (.str [114,101,100]),.c (.str [99,97,114])]),(o2 7 (.call 50) 5 6),(mv 8 7),(oG 9 (.mks 1 [.str []] 2 [0,1]) [.c (.str [97]),.c (.str [97])] 8 true),(mG 10 1 8 true),(oG 11 (.call 53) [.t 9,.t 10] 8 true),(oG 12 (.build [.int .i64 0,.int .i64 0] [(0,1),(1,1)]) [(ic 0),(ic 3)] 8 true),(oG 13 (.build [.int .i64 0,.int .i64 0] [(0,1),(1,1)]) [(ic 2),(ic 5)] 8 true),(oG 14 (.mks 2 [.int .i64 0,.int .i64 0] 2 [0,1]) [.t 12,.t 13] 8 true),(oG 15 (.call 52) [.t 11,.t 14] 8 true),(op 16 .pick [.t 8,.t 15,bF]),(mv 0 16)] (rn 5 12 [1])) <|
  .ret }
def L15_0:ACode:=
  .loop [11,12,16,17,18,19,15,20,21,13,14] (.seq (.seq (rg [(mv 11 6),(op 12 (.bin .gtr) [.t 11,(ic 0)])] [11]) <|
  .cond (.t 12) (.skip)
  (.exit 0)) <|
  .seq (.block 1 (rg [(mv 16 5),(mv 17 0),(oS 18 (.call 55) [.t 17]),(o2 19 (.call 30) 16 18),(mv 15 19),(o1 20 (.ext 0) 15),(o1 21 (.ext 1) 15),(mO 5 20)] [16,17,18,19,15,20,21])) <|
  rg [(mv 13 6),(op 14 (.bin .sub) [.t 13,(ic 1)]),(mv 6 14)] [13,14])
def F15:AFun:=
{nargs:=2,keep:=false,res:=[.tmp 4],body:=
  .seq (rg [(op 4 .mv [.c (.sl .full 8 [])])] [4]) <|
  .seq (rg [(op 5 .mv [.c (.sl .full 8 [])])] []) <|
  .seq (.seq (rg [(mv 7 0),(mv 8 1),(op 9 (.bin .add) [.t 8,(ic 1)]),(oS 10 (.call 54) [.t 7,.t 9]),(mv 6 10)] [7,8,9,10,1]) <|
  .block 0 (L15_0)) <|
  .seq (rg [(mv 22 5),(mO 4 22)] [22,5]) <|
  .ret }
def L17_0:ACode:=
  .loop (25::26::27::28::11::10::(rn 29 8 [])) (.seq (rg [(o2 25 (.bin .lss) 24 23)] []) <|
  .seq (.cond (.t 25) (.skip)
  (.exit 0)) <|
  .seq (.block 1 (.seq (.reg false [11] [(mv 26 24),(o2 27 (.ia 8) 22 24),(o1 28 (.ld true 8) 27),(oL 11 11 (.alloc [.sl .full 3 [],.sl .full 3 [],.str [],.str [],.str [],.str [],.int .i64 0,.int .i64 0]) []),(mv 10 26),(tL 11 (.st 8) [.t 11,.t 28])] [26,27,28]) <|
  rg [(mO 29 9),(mv 30 8),(mv 31 10),(oL 32 11 (.ld true 8) [.t 11]),(mv 33 2),(op 34 (.call 56) [.t 30,.t 31,.t 32,.t 33]),(oD 35 (.app false 3 24) [.t 29,.t 34] 29),(mO 9 35)] (rn 29 7 [10,11]))) <|
  rg [(op 36 (.bin .add) [.t 24,(ic 1)]),(mv 24 36)] [36])
def F17:AFun:=
{nargs:=3,keep:=false,res:=[.tmp 6,.tmp 7],body:=
  .seq (rg [(op 6 .mv [.c (.sl .full 3 [])]),(op 7 .mv [(ic 0)])] [6,7]) <|
  .seq (rg [(mv 12 1),(o1 13 (.call 51) 12),(mO 8 13)] [12,13,1]) <|
  .seq (.seq (rg [(mv 14 0),(o1 15 (.call 31) 14),(o1 16 (.un .not) 15),(mv 17 16),(mG 18 8 17 false),(oG 19 (.len false) [.t 18] 17 false),(oG 20 (.bin .eql) [.t 19,(ic 0)] 17 false),(op 21 .pick [.t 17,bT,.t 20])] (rn 14 7 [])) <|
  .cond (.t 21) (.seq (rg [(op 6 .mv [.c (.sl .full 3 [])]),(op 7 .mv [(ic 1)])] []) <|
  .ret)
  (.skip)) <|
  .seq (rg [(op 9 .mv [.c (.sl .full 3 [])])] []) <|
  .seq (.seq (rg [(mv 22 0),(o1 23 (.len false) 22),(op 24 .mv [(ic 0)])] [0]) <|
  .block 0 (L17_0)) <|
  .seq (rg [(mv 37 9),(mO 6 37),(op 7 .mv [(ic 0)])] [37,9]) <|
  .ret }
def F18:AFun:=
{nargs:=0,keep:=true,res:=[.tmp 0],body:=
  .seq (rg [(op 0 .mv [.c (.nilp)])] [0]) <|
  .seq (rg [(op 1 (.build [.sl .full 9 []] []) []),(oS 2 (.boxS 1) [.t 1]),(mv 0 2)] [1,2]) <|
  .ret }
def L19_0:ACode:=
  .loop (23::24::25::26::11::10::(rn 27 9 [])) (.seq (rg [(o2 23 (.bin .lss) 22 21)] []) <|
  .seq (.cond (.t 23) (.skip)
  (.exit 0)) <|
  .seq (.block 1 (.seq (.reg false [11] [(mv 24 22),(o2 25 (.ia 9) 20 22),(o1 26 (.ld true 9) 25),(oL 11 11 (.alloc [.str [],.sl .full 3 [],.sl .full 3 [],.str [],.str [],.str [],.str [],.int .i64 0,.int .i64 0]) []),(mv 10 24),(tL 11 (.st 9) [.t 11,.t 26])] [24,25,26]) <|
  rg [(mO 27 9),(mv 28 8),(mv 29 10),(o1 30 (.fa 1) 11),(oL 31 11 (.ld true 8) [.t 30]),(mv 32 2),(op 33 (.call 56) [.t 28,.t 29,.t 31,.t 32]),(oD 34 (.app false 3 24) [.t 27,.t 33] 27),(mO 9 34)] (rn 27 8 [10,11]))) <|
  rg [(op 35 (.bin .add) [.t 22,(ic 1)]),(mv 22 35)] [35])
def F19:AFun:=
{nargs:=3,keep:=false,res:=[.tmp 6,.tmp 7],body:=
  .seq (rg [(op 6 .mv [.c (.sl .full 3 [])]),(op 7 .mv [(ic 0)])] [6,7]) <|
  .seq (rg [(mv 12 1),(o1 13 (.call 51) 12),(mO 8 13)] [12,13,1]) <|
  .seq (.seq (rg [(mv 14 8),(o1 15 (.len false) 14),(op 16 (.bin .eql) [.t 15,(ic 0)])] [14,15]) <|
  .cond (.t 16) (.seq (rg [(op 6 .mv [.c (.sl .full 3 [])]),(op 7 .mv [(ic 1)])] []) <|
  .ret)
  (.skip)) <|
  .seq (rg [(op 9 .mv [.c (.sl .full 3 [])])] []) <|
  .seq (.seq (rg [(mv 17 0),(o1 18 .nilc 17),(o1 19 (.fa 0) 18),(oS 20 ld1 [.t 19]),(o1 21 (.len false) 20),(op 22 .mv [(ic 0)])] [17,18,19,0]) <|
  .block 0 (L19_0)) <|
  .seq (rg [(mv 36 9),(mO 6 36),(op 7 .mv [(ic 0)])] [36,9]) <|
  .ret }
def F46:AFun:=
{nargs:=1,keep:=false,res:=[.tmp 2],body:=
  .seq (rg [(op 2 .mv [.c (.str [])])] [2]) <|
  .seq (rg [(mv 3 0),(op 4 (.build [.sl .full 1 [],.int .i64 0] [(0,1)]) [.t 3]),(oS 5 (.boxS 2) [.t 4]),(oS 6 (.call 89) [.t 5,(ic 3)]),(mv 2 6)] [3,4,5,6,0]) <|
  .ret }
def L47_0:ACode:=
  .loop (43::44::45::14::(rn 46 10 [])) (.seq (rg [(o2 43 (.bin .lss) 42 41)] []) <|
  .seq (.cond (.t 43) (.skip)
  (.exit 2)) <|
  .seq (.block 3 (.seq (.reg false [14] [(o2 44 (.ia 2) 40 42),(o1 45 (.ld true 2) 44),(oL 14 14 (.alloc [.int .i64 0,.int .i64 0]) []),(tL 14 (.st 2) [.t 14,.t 45])] [44,45]) <|
  rg [(mO 46 9),(mv 47 10),(o1 48 (.fa 0) 14),(oL 49 14 ld1 [.t 48]),(o1 50 (.fa 1) 14),(oL 51 14 ld1 [.t 50]),(op 52 (.build [.int .i64 0,.int .i64 0,.int .i64 0] [(0,1),(1,1),(2,1)]) [.t 47,.t 49,.t 51]),(o1 53 (.mks 3 [.int .i64 0,.int .i64 0,.int .i64 0] 1 [0]) 52),(oD 54 (.app false 3 24) [.t 46,.t 53] 46),(mO 9 54)] (rn 46 9 [14]))) <|
  rg [(op 55 (.bin .add) [.t 42,(ic 1)]),(mv 42 55)] [55])
def L47_1:ACode:=
  .loop (28::29::30::31::11::10::32::33::12::(rn 34 12 (14::(rn 46 11 [])))) (.seq (rg [(o2 28 (.bin .lss) 27 26)] []) <|
  .seq (.cond (.t 28) (.skip)
  (.exit 0)) <|
  .seq (.block 1 (.seq (.reg false [11] [(mv 29 27),(o2 30 (.ia 8) 25 27),(o1 31 (.ld true 8) 30),(oL 11 11 (.alloc [.sl .full 3 [],.sl .full 3 [],.str [],.str [],.str [],.str [],.int .i64 0,.int .i64 0]) []),(mv 10 29),(tL 11 (.st 8) [.t 11,.t 31])] [29,30,31]) <|
  .seq (rg [(o1 32 (.fa 0) 11),(oL 33 11 ld1 [.t 32]),(mO 12 33)] [32,33]) <|
  .seq (.seq (rg [(mv 34 2)] []) <|
  .cond (.t 34) (rg [(o1 35 (.fa 1) 11),(oL 36 11 ld1 [.t 35]),(mO 12 36)] [35,36,11])
  (.skip)) <|
  .seq (rg [(mv 37 8),(mv 38 12),(o1 39 (.call 49) 38),(o2 40 (.call 91) 37 39),(o1 41 (.len false) 40),(op 42 .mv [(ic 0)])] [37,38,39,12]) <|
  .block 2 (L47_0))) <|
  rg [(op 56 (.bin .add) [.t 27,(ic 1)]),(mv 27 56)] [56])
def F47:AFun:=
{nargs:=3,keep:=false,res:=[.tmp 6,.tmp 7],body:=
  .seq (rg [(op 6 .mv [.c (.sl .full 3 [])]),(op 7 .mv [(ic 0)])] [6,7]) <|
  .seq (rg [(mv 15 1),(o1 16 (.call 90) 15),(mO 8 16)] [15,16,1]) <|
  .seq (.seq (rg [(mv 17 0),(o1 18 (.call 32) 17),(o1 19 (.un .not) 18),(mv 20 19),(mG 21 8 20 false),(oG 22 (.len false) [.t 21] 20 false),(oG 23 (.bin .eql) [.t 22,(ic 0)] 20 false),(op 24 .pick [.t 20,bT,.t 23])] (rn 17 7 [])) <|
  .cond (.t 24) (.seq (rg [(op 6 .mv [.c (.sl .full 3 [])]),(op 7 .mv [(ic 1)])] []) <|
  .ret)
  (.skip)) <|
  .seq (rg [(op 9 .mv [.c (.sl .full 3 [])])] []) <|
  .seq (.seq (rg [(mv 25 0),(o1 26 (.len false) 25),(op 27 .mv [(ic 0)])] [0]) <|
  .block 0 (L47_1)) <|
  .seq (rg [(mv 57 9),(mO 6 57),(op 7 .mv [(ic 0)])] [57,9]) <|
  .ret }
def L48_0:ACode:=
  .loop (14::15::5::(rn 16 9 [4,25])) (.seq (rg [(o2 14 (.bin .lss) 13 12)] []) <|
  .seq (.cond (.t 14) (.skip)
  (.exit 0)) <|
  .seq (.block 1 (.seq (rg [(mv 15 13),(mv 5 15)] [15]) <|
  .seq (.reg true [] [(mv 16 0),(mv 17 5),(o2 18 (.ia 3) 16 17),(o1 19 (.ld true 3) 18),(mv 20 1),(mv 21 5),(o2 22 (.ia 3) 20 21),(o1 23 (.ld true 3) 22),(o2 24 (.seq true [0,0,0]) 19 23)] (rn 16 8 [5])) <|
  .cond (.t 24) (.seq (rg [(op 4 .mv [bF])] []) <|
  .ret)
  (.skip))) <|
  rg [(op 25 (.bin .add) [.t 13,(ic 1)]),(mv 13 25)] [25])
def F48:AFun:=
{nargs:=2,keep:=false,res:=[.tmp 4],body:=
  .seq (rg [(op 4 .mv [bF])] [4]) <|
  .seq (.seq (rg [(mv 6 0),(o1 7 (.len false) 6),(mv 8 1),(o1 9 (.len false) 8),(o2 10 (.bin .neq) 7 9)] [6,7,8,9]) <|
  .cond (.t 10) (.seq (rg [(op 4 .mv [bF])] []) <|
  .ret)
  (.skip)) <|
  .seq (.seq (rg [(mv 11 0),(o1 12 (.len false) 11),(op 13 .mv [(ic 0)])] [11]) <|
  .block 0 (L48_0)) <|
  .seq (rg [(op 4 .mv [bT])] []) <|
  .ret }
def L49_0:ACode:=
  .loop (9::10::11::5::12::13::15::14::(rn 16 5 (22::21::(rn 23 14 [])))) (.seq (rg [(o2 9 (.bin .lss) 8 7)] []) <|
  .seq (.cond (.t 9) (.skip)
  (.exit 0)) <|
  .seq (.block 1 (.seq (.reg false [5] [(o2 10 (.ia 3) 6 8),(o1 11 (.ld true 3) 10),(oL 5 5 (.alloc [.int .i64 0,.str [],.int .i64 0]) []),(tL 5 (.st 3) [.t 5,.t 11])] [10,11]) <|
  .seq (rg [(o1 12 (.fa 0) 5),(oL 13 5 ld1 [.t 12])] [12]) <|
  .block 2 (.seq (rg [(op 15 (.bin .eql) [.t 13,(ic 1)]),(mv 14 15)] [15]) <|
  .cond (.t 14) (rg [(mO 16 3),(o1 17 (.fa 1) 5),(oL 18 5 ld1 [.t 17]),(o1 19 (.call 92) 18),(oD 20 (.app false 3 32) [.t 16,.t 19] 16),(mO 3 20)] (rn 16 5 [5]))
  (.seq (.seq (rg [(op 22 (.bin .eql) [.t 13,(ic 2)]),(mv 21 22)] [22]) <|
  .cond (.t 21) (.skip)
  (.seq (rg [(op 23 (.bin .eql) [.t 13,(ic 3)]),(mv 21 23)] [23]) <|
  .cond (.t 21) (.skip)
  (.seq (rg [(op 24 (.bin .eql) [.t 13,(ic 4)]),(mv 21 24)] [24]) <|
  .cond (.t 21) (.skip)
  (rg [(op 25 (.bin .eql) [.t 13,(ic 5)]),(mv 21 25)] [25,13])))) <|
  .cond (.t 21) (rg [(mO 26 3),(o1 27 (.fa 0) 5),(oL 28 5 ld1 [.t 27]),(o1 29 (.fa 1) 5),(oL 30 5 ld1 [.t 29]),(o1 31 (.fa 2) 5),(oL 32 5 ld1 [.t 31]),(op 33 (.build [.int .i64 0,.str [],.int .i64 0] [(0,1),(1,1),(2,1)]) [.t 28,.t 30,.t 32]),(o1 34 (.mks 3 [.int .i64 0,.str [],.int .i64 0] 1 [0]) 33),(oD 35 (.app false 3 32) [.t 26,.t 34] 26),(mO 3 35)] (rn 26 10 [5]))
  (.skip))))) <|
  rg [(op 36 (.bin .add) [.t 8,(ic 1)]),(mv 8 36)] [36])
def F49:AFun:=
{nargs:=1,keep:=false,res:=[.tmp 2],body:=
  .seq (rg [(op 2 .mv [.c (.sl .full 3 [])])] [2]) <|
  .seq (rg [(op 3 .mv [.c (.sl .full 3 [])])] []) <|
  .seq (.seq (rg [(mv 6 0),(o1 7 (.len false) 6),(op 8 .mv [(ic 0)])] [0]) <|
  .block 0 (L49_0)) <|
  .seq (rg [(mv 37 3),(mO 2 37)] [37,3]) <|
  .ret }
def L50_0:ACode:=
  .loop (14::15::5::(rn 16 9 [4,25])) (.seq (rg [(o2 14 (.bin .lss) 13 12)] []) <|
  .seq (.cond (.t 14) (.skip)
  (.exit 0)) <|
  .seq (.block 1 (.seq (rg [(mv 15 13),(mv 5 15)] [15]) <|
  .seq (.reg true [] [(mv 16 0),(mv 17 5),(o2 18 (.ia 1) 16 17),(o1 19 ld1 18),(mv 20 1),(mv 21 5),(o2 22 (.ia 1) 20 21),(o1 23 ld1 22),(o2 24 (.bin .neq) 19 23)] (rn 16 8 [5])) <|
  .cond (.t 24) (.seq (rg [(op 4 .mv [bF])] []) <|
  .ret)
  (.skip))) <|
  rg [(op 25 (.bin .add) [.t 13,(ic 1)]),(mv 13 25)] [25])
def F50:AFun:=
{nargs:=2,keep:=false,res:=[.tmp 4],body:=
  .seq (rg [(op 4 .mv [bF])] [4]) <|
  .seq (.seq (rg [(mv 6 0),(o1 7 (.len false) 6),(mv 8 1),(o1 9 (.len false) 8),(o2 10 (.bin .neq) 7 9)] [6,7,8,9]) <|
  .cond (.t 10) (.seq (rg [(op 4 .mv [bF])] []) <|
  .ret)
  (.skip)) <|
  .seq (.seq (rg [(mv 11 0),(o1 12 (.len false) 11),(op 13 .mv [(ic 0)])] [11]) <|
  .block 0 (L50_0)) <|
  .seq (rg [(op 4 .mv [bT])] []) <|
  .ret }
def L51_0:ACode:=
  .loop (14::15::16::5::(rn 17 8 [])) (.seq (rg [(o2 14 (.bin .lss) 13 12)] []) <|
  .seq (.cond (.t 14) (.skip)
  (.exit 0)) <|
  .seq (.block 1 (.seq (.reg false [5] [(o2 15 (.ia 3) 11 13),(o1 16 (.ld true 3) 15),(oL 5 5 (.alloc [.int .i64 0,.str [],.int .i64 0]) []),(tL 5 (.st 3) [.t 5,.t 16])] [15,16]) <|
  .seq (rg [(oL 17 5 (.ld true 3) [.t 5]),(o1 18 (.call 94) 17)] [17]) <|
  .cond (.t 18) (rg [(mO 19 3),(oL 20 5 (.ld true 3) [.t 5]),(o1 21 (.call 95) 20),(o1 22 (.mks 1 [.str []] 1 [0]) 21),(oD 23 (.app false 1 16) [.t 19,.t 22] 19),(mO 3 23)] (rn 19 5 [5]))
  (.skip))) <|
  rg [(op 24 (.bin .add) [.t 13,(ic 1)]),(mv 13 24)] [24])
def F51:AFun:=
{nargs:=1,keep:=false,res:=[.tmp 2],body:=
  .seq (rg [(op 2 .mv [.c (.sl .full 1 [])])] [2]) <|
  .seq (.seq (rg [(mv 6 0),(op 7 (.bin .eql) [.t 6,.c (.str [])])] [6]) <|
  .cond (.t 7) (.seq (rg [(op 2 .mv [.c (.sl .full 1 [])])] []) <|
  .ret)
  (.skip)) <|
  .seq (rg [(op 3 .mv [.c (.sl .full 1 [])])] []) <|
  .seq (.seq (rg [(mv 8 0),(op 9 (.build [.int .i64 0,.str [],.int .i64 0] [(0,1),(1,1)]) [(ic 1),.t 8]),(o1 10 (.mks 3 [.int .i64 0,.str [],.int .i64 0] 1 [0]) 9),(o1 11 (.call 93) 10),(o1 12 (.len false) 11),(op 13 .mv [(ic 0)])] [8,9,10,0]) <|
  .block 0 (L51_0)) <|
  .seq (rg [(mv 25 3),(mO 2 25)] [25,3]) <|
  .ret }
def L52_0:ACode:=
  .loop (14::15::5::(rn 16 9 [4,25])) (.seq (rg [(o2 14 (.bin .lss) 13 12)] []) <|
  .seq (.cond (.t 14) (.skip)
  (.exit 0)) <|
  .seq (.block 1 (.seq (rg [(mv 15 13),(mv 5 15)] [15]) <|
  .seq (.reg true [] [(mv 16 0),(mv 17 5),(o2 18 (.ia 2) 16 17),(o1 19 (.ld true 2) 18),(mv 20 1),(mv 21 5),(o2 22 (.ia 2) 20 21),(o1 23 (.ld true 2) 22),(o2 24 (.seq true [0,0]) 19 23)] (rn 16 8 [5])) <|
  .cond (.t 24) (.seq (rg [(op 4 .mv [bF])] []) <|
  .ret)
  (.skip))) <|
  rg [(op 25 (.bin .add) [.t 13,(ic 1)]),(mv 13 25)] [25])
def F52:AFun:=
{nargs:=2,keep:=false,res:=[.tmp 4],body:=
  .seq (rg [(op 4 .mv [bF])] [4]) <|
  .seq (.seq (rg [(mv 6 0),(o1 7 (.len false) 6),(mv 8 1),(o1 9 (.len false) 8),(o2 10 (.bin .neq) 7 9)] [6,7,8,9]) <|
  .cond (.t 10) (.seq (rg [(op 4 .mv [bF])] []) <|
  .ret)
  (.skip)) <|
  .seq (.seq (rg [(mv 11 0),(o1 12 (.len false) 11),(op 13 .mv [(ic 0)])] [11]) <|
  .block 0 (L52_0)) <|
  .seq (rg [(op 4 .mv [bT])] []) <|
  .ret }
def L53_0:ACode:=
  .loop (17::18::19::20::8::7::(rn 21 12 [])) (.seq (rg [(o2 17 (.bin .lss) 16 15)] []) <|
  .seq (.cond (.t 17) (.skip)
  (.exit 0)) <|
  .seq (.block 1 (.seq (.reg false [8] [(mv 18 16),(o2 19 (.ia 3) 14 16),(o1 20 (.ld true 3) 19),(oL 8 8 (.alloc [.int .i64 0,.str [],.int .i64 0]) []),(mv 7 18),(tL 8 (.st 3) [.t 8,.t 20])] [18,19,20]) <|
  .seq (rg [(oL 21 8 (.ld true 3) [.t 8]),(o1 22 (.call 94) 21)] [21]) <|
  .cond (.t 22) (.seq (rg [(mO 23 5),(mv 24 7),(o1 25 (.mks 1 [.int .i64 0] 1 [0]) 24),(oD 26 (.app false 1 8) [.t 23,.t 25] 23),(mO 5 26)] [23,24,25,26,7]) <|
  rg [(mO 27 6),(oL 28 8 (.ld true 3) [.t 8]),(o1 29 (.call 95) 28),(o1 30 (.mks 1 [.str []] 1 [0]) 29),(oD 31 (.app false 1 16) [.t 27,.t 30] 27),(mO 6 31)] (rn 27 5 [8]))
  (.skip))) <|
  rg [(op 32 (.bin .add) [.t 16,(ic 1)]),(mv 16 32)] [32])
def L53_1:ACode:=
  .loop (rn 33 7 (rn 42 26 [40,41])) (.seq (.seq (rg [(mv 33 10),(mv 34 0),(o1 35 (.len false) 34),(o2 36 (.bin .add) 33 35),(mv 37 6),(o1 38 (.len false) 37),(o2 39 (.bin .leq) 36 38)] (rn 33 6 [])) <|
  .cond (.t 39) (.skip)
  (.exit 2)) <|
  .seq (.block 3 (.seq (rg [(mv 42 6),(mv 43 10),(mv 44 10),(mv 45 0),(o1 46 (.len false) 45),(o2 47 (.bin .add) 44 46),(op 48 (.slc false 1 true true) [.t 42,.t 43,.t 47]),(mv 49 0),(o2 50 (.call 96) 48 49)] (rn 42 8 [])) <|
  .cond (.t 50) (.reg true [] [(mO 51 9),(mv 52 5),(mv 53 10),(o2 54 (.ia 1) 52 53),(o1 55 ld1 54),(mv 56 5),(mv 57 10),(mv 58 0),(o1 59 (.len false) 58),(o2 60 (.bin .add) 57 59),(op 61 (.bin .sub) [.t 60,(ic 1)]),(o2 62 (.ia 1) 56 61),(o1 63 ld1 62),(op 64 (.bin .add) [.t 63,(ic 1)]),(op 65 (.build [.int .i64 0,.int .i64 0] [(0,1),(1,1)]) [.t 55,.t 64]),(o1 66 (.mks 2 [.int .i64 0,.int .i64 0] 1 [0]) 65),(oD 67 (.app false 2 16) [.t 51,.t 66] 51),(mO 9 67)] (rn 51 17 []))
  (.skip))) <|
  rg [(mv 40 10),(op 41 (.bin .add) [.t 40,(ic 1)]),(mv 10 41)] [40,41])
def F53:AFun:=
{nargs:=2,keep:=false,res:=[.tmp 4],body:=
  .seq (rg [(op 4 .mv [.c (.sl .full 2 [])])] [4]) <|
  .seq (.seq (rg [(mv 11 0),(o1 12 (.len false) 11),(op 13 (.bin .eql) [.t 12,(ic 0)])] [11,12]) <|
  .cond (.t 13) (.seq (rg [(op 4 .mv [.c (.sl .full 2 [])])] []) <|
  .ret)
  (.skip)) <|
  .seq (rg [(op 5 .mv [.c (.sl .full 1 [])])] []) <|
  .seq (rg [(op 6 .mv [.c (.sl .full 1 [])])] []) <|
  .seq (.seq (rg [(mv 14 1),(o1 15 (.len false) 14),(op 16 .mv [(ic 0)])] [1]) <|
  .block 0 (L53_0)) <|
  .seq (rg [(op 9 .mv [.c (.sl .full 2 [])])] []) <|
  .seq (.seq (rg [(op 10 .mv [(ic 0)])] []) <|
  .block 2 (L53_1)) <|
  .seq (rg [(mv 68 9),(mO 4 68)] [68,9]) <|
  .ret }
def L56_0:ACode:=
  .loop (24::25::26::12::(rn 27 10 [])) (.seq (rg [(o2 24 (.bin .lss) 23 22)] []) <|
  .seq (.cond (.t 24) (.skip)
  (.exit 0)) <|
  .seq (.block 1 (.seq (.reg false [12] [(o2 25 (.ia 2) 21 23),(o1 26 (.ld true 2) 25),(oL 12 12 (.alloc [.int .i64 0,.int .i64 0]) []),(tL 12 (.st 2) [.t 12,.t 26])] [25,26]) <|
  rg [(mO 27 10),(mv 28 1),(o1 29 (.fa 0) 12),(oL 30 12 ld1 [.t 29]),(o1 31 (.fa 1) 12),(oL 32 12 ld1 [.t 31]),(op 33 (.build [.int .i64 0,.int .i64 0,.int .i64 0] [(0,1),(1,1),(2,1)]) [.t 28,.t 30,.t 32]),(o1 34 (.mks 3 [.int .i64 0,.int .i64 0,.int .i64 0] 1 [0]) 33),(oD 35 (.app false 3 24) [.t 27,.t 34] 27),(mO 10 35)] (rn 27 9 [12]))) <|
  rg [(op 36 (.bin .add) [.t 23,(ic 1)]),(mv 23 36)] [36])
def F56:AFun:=
{nargs:=4,keep:=false,res:=[.tmp 8],body:=
  .seq (.reg false [6] [(oL 6 6 (.box 8) [.t 2]),(op 8 .mv [.c (.sl .full 3 [])])] [8,2]) <|
  .seq (rg [(o1 13 (.fa 0) 6),(oL 14 6 ld1 [.t 13]),(mO 9 14)] [13,14]) <|
  .seq (.seq (rg [(mv 15 3)] [3]) <|
  .cond (.t 15) (rg [(o1 16 (.fa 1) 6),(oL 17 6 ld1 [.t 16]),(mO 9 17)] [16,17,6])
  (.skip)) <|
  .seq (rg [(op 10 .mv [.c (.sl .full 3 [])])] []) <|
  .seq (.seq (rg [(mv 18 0),(mv 19 9),(o1 20 (.call 93) 19),(o2 21 (.call 53) 18 20),(o1 22 (.len false) 21),(op 23 .mv [(ic 0)])] [18,19,20,0,9]) <|
  .block 0 (L56_0)) <|
  .seq (rg [(mv 37 10),(mO 8 37)] [37,10]) <|
  .ret }
def L90_0:ACode:=
  .loop (10::11::12::5::(rn 13 8 [])) (.seq (rg [(o2 10 (.bin .lss) 9 8)] []) <|
  .seq (.cond (.t 10) (.skip)
  (.exit 0)) <|
  .seq (.block 1 (.seq (.reg false [5] [(o2 11 (.ia 3) 7 9),(o1 12 (.ld true 3) 11),(oL 5 5 (.alloc [.int .i64 0,.str [],.int .i64 0]) []),(tL 5 (.st 3) [.t 5,.t 12])] [11,12]) <|
  .seq (rg [(oL 13 5 (.ld true 3) [.t 5]),(o1 14 (.call 135) 13)] [13]) <|
  .cond (.t 14) (rg [(mO 15 3),(oL 16 5 (.ld true 3) [.t 5]),(o1 17 (.call 136) 16),(o1 18 (.mks 1 [.str []] 1 [0]) 17),(oD 19 (.app false 1 16) [.t 15,.t 18] 15),(mO 3 19)] (rn 15 5 [5]))
  (.skip))) <|
  rg [(op 20 (.bin .add) [.t 9,(ic 1)]),(mv 9 20)] [20])
def F90:AFun:=
{nargs:=1,keep:=false,res:=[.tmp 2],body:=
  .seq (rg [(op 2 .mv [.c (.sl .full 1 [])])] [2]) <|
  .seq (rg [(op 3 .mv [.c (.sl .full 1 [])])] []) <|
  .seq (.seq (rg [(mv 6 0),(o1 7 (.call 92) 6),(o1 8 (.len false) 7),(op 9 .mv [(ic 0)])] [6,0]) <|
  .block 0 (L90_0)) <|
  .seq (rg [(mv 21 3),(mO 2 21)] [21,3]) <|
  .ret }
def L91_0:ACode:=
  .loop (rn 18 11 (rn 31 29 [29,30])) (.seq (.seq (rg [(mv 18 8),(mv 19 1),(o1 20 (.len false) 19),(o2 21 (.bin .lss) 18 20),(mv 22 21),(mG 23 1 22 true),(mG 24 6 22 true),(oG 25 (.ia 3) [.t 23,.t 24] 22 true),(oG 26 (.ld true 3) [.t 25] 22 true),(oG 27 (.call 135) [.t 26] 22 true),(op 28 .pick [.t 22,.t 27,bF])] (rn 18 10 [])) <|
  .cond (.t 28) (.skip)
  (.exit 2)) <|
  .seq (.block 3 (.seq (.seq (rg [(mv 31 1),(mv 32 8),(o2 33 (.ia 3) 31 32),(o1 34 (.ld true 3) 33),(o1 35 (.call 135) 34),(o1 36 (.un .not) 35)] (rn 31 5 [])) <|
  .cond (.t 36) (.exit 3)
  (.skip)) <|
  .seq (.seq (.reg true [] [(mv 37 1),(mv 38 8),(o2 39 (.ia 3) 37 38),(o1 40 (.ld true 3) 39),(o1 41 (.call 136) 40),(mv 42 0),(mv 43 7),(o2 44 (.ia 1) 42 43),(o1 45 ld1 44),(o2 46 (.bin .neq) 41 45)] (rn 37 9 [])) <|
  .cond (.t 46) (.exit 2)
  (.skip)) <|
  .seq (rg [(mv 47 7),(op 48 (.bin .add) [.t 47,(ic 1)]),(mv 7 48)] [47,48]) <|
  .seq (rg [(mv 49 7),(mv 50 0),(o1 51 (.len false) 50),(o2 52 (.bin .eql) 49 51)] [49,50,51]) <|
  .cond (.t 52) (.seq (rg [(mO 53 5),(mv 54 6),(mv 55 8),(op 56 (.bin .add) [.t 55,(ic 1)]),(op 57 (.build [.int .i64 0,.int .i64 0] [(0,1),(1,1)]) [.t 54,.t 56]),(o1 58 (.mks 2 [.int .i64 0,.int .i64 0] 1 [0]) 57),(oD 59 (.app false 2 16) [.t 53,.t 58] 53),(mO 5 59)] (rn 53 7 [6,8])) <|
  .exit 2)
  (.skip))) <|
  rg [(mv 29 8),(op 30 (.bin .add) [.t 29,(ic 1)]),(mv 8 30)] [29,30])
def L91_1:ACode:=
  .loop (15::16::6::7::17::8::(rn 18 11 (rn 31 29 [29,30,60]))) (.seq (rg [(o2 15 (.bin .lss) 14 13)] []) <|
  .seq (.cond (.t 15) (.skip)
  (.exit 0)) <|
  .seq (.block 1 (.seq (rg [(mv 16 14),(mv 6 16)] [16]) <|
  .seq (rg [(op 7 .mv [(ic 0)])] []) <|
  .seq (rg [(mv 17 6),(mv 8 17)] [17]) <|
  .block 2 (L91_0))) <|
  rg [(op 60 (.bin .add) [.t 14,(ic 1)]),(mv 14 60)] [60])
def F91:AFun:=
{nargs:=2,keep:=false,res:=[.tmp 4],body:=
  .seq (rg [(op 4 .mv [.c (.sl .full 2 [])])] [4]) <|
  .seq (rg [(op 5 .mv [.c (.sl .full 2 [])])] []) <|
  .seq (.seq (rg [(mv 9 0),(o1 10 (.len false) 9),(op 11 (.bin .eql) [.t 10,(ic 0)])] [9,10]) <|
  .cond (.t 11) (.seq (rg [(op 4 .mv [.c (.sl .full 2 [])])] []) <|
  .ret)
  (.skip)) <|
  .seq (.seq (rg [(mv 12 1),(o1 13 (.len false) 12),(op 14 .mv [(ic 0)])] [12]) <|
  .block 0 (L91_1)) <|
  .seq (rg [(mv 61 5),(mO 4 61)] [61,5]) <|
  .ret }
def L92_0:ACode:=
  .loop (9::10::11::4::5::12::13::6::(rn 14 5 (7::(rn 19 5 (8::(rn 24 14 [])))))) (.seq (.seq (rg [(mv 9 0),(o1 10 (.len true) 9),(op 11 (.bin .gtr) [.t 10,(ic 0)])] [9,10]) <|
  .cond (.t 11) (.skip)
  (.exit 0)) <|
  .block 1 (.seq (rg [(op 4 .mv [(ic 9)]),(op 5 .mv [(ic 1)])] []) <|
  .seq (.seq (rg [(mv 12 0),(o1 13 (.call 137) 12),(mv 6 13)] [12,13]) <|
  .seq (rg [(mv 14 6),(op 15 (.bin .gtr) [.t 14,(ic 0)])] [14]) <|
  .cond (.t 15) (rg [(mv 16 6),(op 4 .mv [(ic 6)]),(mv 5 16)] [16,6])
  (.skip)) <|
  .seq (.seq (rg [(mv 17 0),(o1 18 (.call 138) 17),(mv 7 18)] [17,18]) <|
  .seq (rg [(mv 19 7),(op 20 (.bin .gtr) [.t 19,(ic 0)])] [19]) <|
  .cond (.t 20) (rg [(mv 21 7),(op 4 .mv [(ic 7)]),(mv 5 21)] [21,7])
  (.skip)) <|
  .seq (.seq (rg [(mv 22 0),(o1 23 (.call 139) 22),(mv 8 23)] [22,23]) <|
  .seq (rg [(mv 24 8),(op 25 (.bin .gtr) [.t 24,(ic 0)])] [24]) <|
  .cond (.t 25) (rg [(mv 26 8),(op 4 .mv [(ic 8)]),(mv 5 26)] [26,8])
  (.skip)) <|
  .seq (rg [(mO 27 3),(mv 28 4),(mv 29 0),(mv 30 5),(o2 31 (.slc true 0 false true) 29 30),(op 32 (.build [.int .i64 0,.str [],.int .i64 0] [(0,1),(1,1)]) [.t 28,.t 31]),(o1 33 (.mks 3 [.int .i64 0,.str [],.int .i64 0] 1 [0]) 32),(oD 34 (.app false 3 32) [.t 27,.t 33] 27),(mO 3 34)] (rn 27 8 [4])) <|
  rg [(mv 35 0),(mv 36 5),(o2 37 (.slc true 0 true false) 35 36),(mv 0 37)] [35,36,37,5]))
def F92:AFun:=
{nargs:=1,keep:=false,res:=[.tmp 2],body:=
  .seq (rg [(op 2 .mv [.c (.sl .full 3 [])])] [2]) <|
  .seq (rg [(op 3 .mv [.c (.sl .full 3 [])])] []) <|
  .seq (.block 0 (L92_0)) <|
  .seq (rg [(mv 38 3),(mO 2 38)] [38,3]) <|
  .ret }
def L93_0:ACode:=
  .loop (30::31::33::34::32::35::36::7::8::(rn 37 11 [])) (.seq (.seq (rg [(mv 30 6),(op 31 (.bin .neq) [.t 30,.c (.str [])])] [30]) <|
  .cond (.t 31) (.skip)
  (.exit 3)) <|
  .block 4 (.seq (rg [(mv 33 6),(o1 34 (.call 140) 33),(mv 32 34),(o1 35 (.ext 0) 32),(o1 36 (.ext 1) 32),(mv 7 35),(mv 8 36)] [33,34,32,35,36]) <|
  .seq (rg [(mO 37 3),(mv 38 7),(mv 39 6),(mv 40 8),(o2 41 (.slc true 0 false true) 39 40),(op 42 (.build [.int .i64 0,.str [],.int .i64 0] [(0,1),(1,1)]) [.t 38,.t 41]),(o1 43 (.mks 3 [.int .i64 0,.str [],.int .i64 0] 1 [0]) 42),(oD 44 (.app false 3 32) [.t 37,.t 43] 37),(mO 3 44)] (rn 37 8 [7])) <|
  rg [(mv 45 6),(mv 46 8),(o2 47 (.slc true 0 true false) 45 46),(mv 6 47)] [45,46,47,8]))
def L93_1:ACode:=
  .loop (12::13::14::5::15::16::18::17::(rn 19 7 (27::26::28::29::6::30::31::33::34::32::35::36::7::8::(rn 37 12 [])))) (.seq (rg [(o2 12 (.bin .lss) 11 10)] []) <|
  .seq (.cond (.t 12) (.skip)
  (.exit 0)) <|
  .seq (.block 1 (.seq (.reg false [5] [(o2 13 (.ia 3) 9 11),(o1 14 (.ld true 3) 13),(oL 5 5 (.alloc [.int .i64 0,.str [],.int .i64 0]) []),(tL 5 (.st 3) [.t 5,.t 14])] [13,14]) <|
  .seq (rg [(o1 15 (.fa 0) 5),(oL 16 5 ld1 [.t 15])] [15]) <|
  .block 2 (.seq (.seq (rg [(op 18 (.bin .eql) [.t 16,(ic 2)]),(mv 17 18)] [18]) <|
  .cond (.t 17) (.skip)
  (.seq (rg [(op 19 (.bin .eql) [.t 16,(ic 3)]),(mv 17 19)] [19]) <|
  .cond (.t 17) (.skip)
  (.seq (rg [(op 20 (.bin .eql) [.t 16,(ic 4)]),(mv 17 20)] [20]) <|
  .cond (.t 17) (.skip)
  (rg [(op 21 (.bin .eql) [.t 16,(ic 5)]),(mv 17 21)] [21])))) <|
  .cond (.t 17) (rg [(mO 22 3),(oL 23 5 (.ld true 3) [.t 5]),(o1 24 (.mks 3 [.int .i64 0,.str [],.int .i64 0] 1 [0]) 23),(oD 25 (.app false 3 32) [.t 22,.t 24] 22),(mO 3 25)] [22,23,24,25,5])
  (.seq (rg [(op 27 (.bin .eql) [.t 16,(ic 1)]),(mv 26 27)] [27,16]) <|
  .cond (.t 26) (.seq (rg [(o1 28 (.fa 1) 5),(oL 29 5 ld1 [.t 28]),(mv 6 29)] [28,29,5]) <|
  .block 3 (L93_0))
  (.skip))))) <|
  rg [(op 48 (.bin .add) [.t 11,(ic 1)]),(mv 11 48)] [48])
def F93:AFun:=
{nargs:=1,keep:=false,res:=[.tmp 2],body:=
  .seq (rg [(op 2 .mv [.c (.sl .full 3 [])])] [2]) <|
  .seq (rg [(op 3 .mv [.c (.sl .full 3 [])])] []) <|
  .seq (.seq (rg [(mv 9 0),(o1 10 (.len false) 9),(op 11 .mv [(ic 0)])] [0]) <|
  .block 0 (L93_1)) <|
  .seq (rg [(mv 49 3),(mO 2 49)] [49,3]) <|
  .ret }
def F94:AFun:=
{nargs:=1,keep:=false,res:=[.tmp 2],body:=
  .seq (.reg false [1] [(oL 1 1 (.box 3) [.t 0]),(op 2 .mv [bF])] [2,0]) <|
  .seq (rg [(o1 3 (.fa 0) 1),(oL 4 1 ld1 [.t 3]),(op 5 (.bin .eql) [.t 4,(ic 6)]),(mv 6 5),(oG 7 (.fa 0) [.t 1] 6 false),(oH 8 1 ld1 [.t 7] 6 false),(oG 9 (.bin .eql) [.t 8,(ic 7)] 6 false),(op 10 .pick [.t 6,bT,.t 9]),(mv 2 10)] (rn 3 8 [1])) <|
  .ret }
def F95:AFun:=
{nargs:=1,keep:=false,res:=[.tmp 2],body:=
  .seq (.reg false [1] [(oL 1 1 (.box 3) [.t 0]),(op 2 .mv [.c (.str [])])] [2,0]) <|
  .seq (.seq (rg [(o1 3 (.fa 0) 1),(oL 4 1 ld1 [.t 3]),(op 5 (.bin .eql) [.t 4,(ic 6)])] [3,4]) <|
  .cond (.t 5) (.seq (rg [(o1 6 (.fa 1) 1),(oL 7 1 ld1 [.t 6]),(o1 8 (.call 141) 7),(mv 2 8)] [6,7,8,1]) <|
  .ret)
  (.skip)) <|
  .seq (rg [(o1 9 (.fa 1) 1),(oL 10 1 ld1 [.t 9]),(mv 2 10)] [9,10,1]) <|
  .ret }
def L96_0:ACode:=
  .loop (14::15::5::(rn 16 9 [4,25])) (.seq (rg [(o2 14 (.bin .lss) 13 12)] []) <|
  .seq (.cond (.t 14) (.skip)
  (.exit 0)) <|
  .seq (.block 1 (.seq (rg [(mv 15 13),(mv 5 15)] [15]) <|
  .seq (.reg true [] [(mv 16 0),(mv 17 5),(o2 18 (.ia 1) 16 17),(o1 19 ld1 18),(mv 20 1),(mv 21 5),(o2 22 (.ia 1) 20 21),(o1 23 ld1 22),(o2 24 (.bin .neq) 19 23)] (rn 16 8 [5])) <|
  .cond (.t 24) (.seq (rg [(op 4 .mv [bF])] []) <|
  .ret)
  (.skip))) <|
  rg [(op 25 (.bin .add) [.t 13,(ic 1)]),(mv 13 25)] [25])
def F96:AFun:=
{nargs:=2,keep:=false,res:=[.tmp 4],body:=
  .seq (rg [(op 4 .mv [bF])] [4]) <|
  .seq (.seq (rg [(mv 6 0),(o1 7 (.len false) 6),(mv 8 1),(o1 9 (.len false) 8),(o2 10 (.bin .neq) 7 9)] [6,7,8,9]) <|
  .cond (.t 10) (.seq (rg [(op 4 .mv [bF])] []) <|
  .ret)
  (.skip)) <|
  .seq (.seq (rg [(mv 11 0),(o1 12 (.len false) 11),(op 13 .mv [(ic 0)])] [11]) <|
  .block 0 (L96_0)) <|
  .seq (rg [(op 4 .mv [bT])] []) <|
  .ret }
def F135:AFun:=
{nargs:=1,keep:=false,res:=[.tmp 2],body:=
  .seq (.reg false [1] [(oL 1 1 (.box 3) [.t 0]),(op 2 .mv [bF])] [2,0]) <|
  .seq (rg [(o1 3 (.fa 0) 1),(oL 4 1 ld1 [.t 3]),(op 5 (.bin .eql) [.t 4,(ic 6)]),(mv 6 5),(oG 7 (.fa 0) [.t 1] 6 false),(oH 8 1 ld1 [.t 7] 6 false),(oG 9 (.bin .eql) [.t 8,(ic 7)] 6 false),(op 10 .pick [.t 6,bT,.t 9]),(mv 2 10)] (rn 3 8 [1])) <|
  .ret }
def F136:AFun:=
{nargs:=1,keep:=false,res:=[.tmp 2],body:=
  .seq (.reg false [1] [(oL 1 1 (.box 3) [.t 0]),(op 2 .mv [.c (.str [])])] [2,0]) <|
  .seq (.seq (rg [(o1 3 (.fa 0) 1),(oL 4 1 ld1 [.t 3]),(op 5 (.bin .eql) [.t 4,(ic 6)])] [3,4]) <|
  .cond (.t 5) (.seq (rg [(o1 6 (.fa 1) 1),(oL 7 1 ld1 [.t 6]),(o1 8 (.call 162) 7),(mv 2 8)] [6,7,8,1]) <|
  .ret)
  (.skip)) <|
  .seq (rg [(o1 9 (.fa 1) 1),(oL 10 1 ld1 [.t 9]),(mv 2 10)] [9,10,1]) <|
  .ret }
def L137_0:ACode:=
  .loop (rn 14 8 (4::(rn 22 30 (5::(rn 52 8 []))))) (.seq (.seq (rg [(mv 14 3),(mv 15 0),(o1 16 (.len true) 15),(o2 17 (.bin .lss) 14 16)] [14,15,16]) <|
  .cond (.t 17) (.skip)
  (.exit 0)) <|
  .block 1 (.seq (rg [(mv 18 0),(mv 19 3),(o2 20 .ixs 18 19),(o1 21 (.call 163) 20),(mv 4 21)] [18,19,20,21]) <|
  .seq (.seq (rg [(mv 22 4),(op 23 (.bin .eql) [.t 22,(ic 4)]),(mv 24 23),(mG 25 4 24 false),(oG 26 (.bin .eql) [.t 25,(ic 3)] 24 false),(op 27 .pick [.t 24,bT,.t 26])] (rn 22 5 [4])) <|
  .cond (.t 27) (.seq (rg [(mv 28 3),(op 29 (.bin .add) [.t 28,(ic 1)]),(mv 3 29)] [28,29]) <|
  .exit 1)
  (.skip)) <|
  .seq (.seq (rg [(mv 30 0),(mv 31 3),(o2 32 .ixs 30 31),(op 33 (.bin .eql) [.t 32,.c (.int .u8 39)]),(mv 34 33),(mG 35 0 34 false),(mG 36 3 34 false),(oG 37 .ixs [.t 35,.t 36] 34 false),(oG 38 (.bin .eql) [.t 37,.c (.int .u8 45)] 34 false),(op 39 .pick [.t 34,bT,.t 38]),(mv 40 39),(mG 41 3 40 true),(oG 42 (.bin .add) [.t 41,(ic 1)] 40 true),(mG 43 0 40 true),(oG 44 (.len true) [.t 43] 40 true),(oG 45 (.bin .lss) [.t 42,.t 44] 40 true),(op 46 .pick [.t 40,.t 45,bF])] (rn 30 16 [])) <|
  .cond (.t 46) (.seq (rg [(mv 47 0),(mv 48 3),(op 49 (.bin .add) [.t 48,(ic 1)]),(o2 50 .ixs 47 49),(o1 51 (.call 163) 50),(mv 5 51)] (rn 47 5 [])) <|
  .seq (rg [(mv 52 5),(op 53 (.bin .eql) [.t 52,(ic 4)]),(mv 54 53),(mG 55 5 54 false),(oG 56 (.bin .eql) [.t 55,(ic 3)] 54 false),(op 57 .pick [.t 54,bT,.t 56])] (rn 52 5 [5])) <|
  .cond (.t 57) (.seq (rg [(mv 58 3),(op 59 (.bin .add) [.t 58,(ic 2)]),(mv 3 59)] [58,59]) <|
  .exit 1)
  (.skip))
  (.skip)) <|
  .exit 0))
def F137:AFun:=
{nargs:=1,keep:=false,res:=[.tmp 2],body:=
  .seq (rg [(op 2 .mv [(ic 0)])] [2]) <|
  .seq (.seq (rg [(mv 6 0),(op 7 (.bin .eql) [.t 6,.c (.str [])]),(mv 8 7),(mG 9 0 8 false),(oG 10 .ixs [.t 9,(ic 0)] 8 false),(oG 11 (.call 163) [.t 10] 8 false),(oG 12 (.bin .neq) [.t 11,(ic 4)] 8 false),(op 13 .pick [.t 8,bT,.t 12])] (rn 6 7 [])) <|
  .cond (.t 13) (.seq (rg [(op 2 .mv [(ic 0)])] []) <|
  .ret)
  (.skip)) <|
  .seq (rg [(op 3 .mv [(ic 1)])] []) <|
  .seq (.block 0 (L137_0)) <|
  .seq (rg [(mv 60 3),(mv 2 60)] [60,3]) <|
  .ret }
def L138_0:ACode:=
  .loop (rn 12 38 []) (.seq (.seq (rg [(mv 12 3),(mv 13 0),(o1 14 (.len true) 13),(o2 15 (.bin .lss) 12 14)] [12,13,14]) <|
  .cond (.t 15) (.skip)
  (.exit 0)) <|
  .block 1 (.seq (.seq (rg [(mv 16 0),(mv 17 3),(o2 18 .ixs 16 17),(o1 19 (.call 163) 18),(op 20 (.bin .eql) [.t 19,(ic 3)])] [16,17,18,19]) <|
  .cond (.t 20) (.seq (rg [(mv 21 3),(op 22 (.bin .add) [.t 21,(ic 1)]),(mv 3 22)] [21,22]) <|
  .exit 1)
  (.skip)) <|
  .seq (.seq (rg [(mv 23 0),(mv 24 3),(o2 25 .ixs 23 24),(op 26 (.bin .eql) [.t 25,.c (.int .u8 46)]),(mv 27 26),(mG 28 0 27 false),(mG 29 3 27 false),(oG 30 .ixs [.t 28,.t 29] 27 false),(oG 31 (.bin .eql) [.t 30,.c (.int .u8 44)] 27 false),(op 32 .pick [.t 27,bT,.t 31]),(mv 33 32),(mG 34 3 33 true),(oG 35 (.bin .add) [.t 34,(ic 1)] 33 true),(mG 36 0 33 true),(oG 37 (.len true) [.t 36] 33 true),(oG 38 (.bin .lss) [.t 35,.t 37] 33 true),(op 39 .pick [.t 33,.t 38,bF]),(mv 40 39),(mG 41 0 40 true),(mG 42 3 40 true),(oG 43 (.bin .add) [.t 42,(ic 1)] 40 true),(oG 44 .ixs [.t 41,.t 43] 40 true),(oG 45 (.call 163) [.t 44] 40 true),(oG 46 (.bin .eql) [.t 45,(ic 3)] 40 true),(op 47 .pick [.t 40,.t 46,bF])] (rn 23 24 [])) <|
  .cond (.t 47) (.seq (rg [(mv 48 3),(op 49 (.bin .add) [.t 48,(ic 2)]),(mv 3 49)] [48,49]) <|
  .exit 1)
  (.skip)) <|
  .exit 0))
def F138:AFun:=
{nargs:=1,keep:=false,res:=[.tmp 2],body:=
  .seq (rg [(op 2 .mv [(ic 0)])] [2]) <|
  .seq (.seq (rg [(mv 4 0),(op 5 (.bin .eql) [.t 4,.c (.str [])]),(mv 6 5),(mG 7 0 6 false),(oG 8 .ixs [.t 7,(ic 0)] 6 false),(oG 9 (.call 163) [.t 8] 6 false),(oG 10 (.bin .neq) [.t 9,(ic 3)] 6 false),(op 11 .pick [.t 6,bT,.t 10])] (rn 4 7 [])) <|
  .cond (.t 11) (.seq (rg [(op 2 .mv [(ic 0)])] []) <|
  .ret)
  (.skip)) <|
  .seq (rg [(op 3 .mv [(ic 1)])] []) <|
  .seq (.block 0 (L138_0)) <|
  .seq (rg [(mv 50 3),(mv 2 50)] [50,3]) <|
  .ret }
def L139_0:ACode:=
  .loop (rn 4 13 []) (.seq (.seq (rg [(mv 4 3),(mv 5 0),(o1 6 (.len true) 5),(o2 7 (.bin .lss) 4 6),(mv 8 7),(mG 9 0 8 true),(mG 10 3 8 true),(oG 11 .ixs [.t 9,.t 10] 8 true),(oG 12 (.call 163) [.t 11] 8 true),(oG 13 (.bin .eql) [.t 12,(ic 2)] 8 true),(op 14 .pick [.t 8,.t 13,bF])] (rn 4 10 [])) <|
  .cond (.t 14) (.skip)
  (.exit 0)) <|
  .block 1 (rg [(mv 15 3),(op 16 (.bin .add) [.t 15,(ic 1)]),(mv 3 16)] [15,16]))
def F139:AFun:=
{nargs:=1,keep:=false,res:=[.tmp 2],body:=
  .seq (rg [(op 2 .mv [(ic 0)])] [2]) <|
  .seq (rg [(op 3 .mv [(ic 0)])] []) <|
  .seq (.block 0 (L139_0)) <|
  .seq (rg [(mv 17 3),(mv 2 17)] [17,3]) <|
  .ret }
def L140_0:ACode:=
  .loop (rn 18 13 []) (.seq (.seq (rg [(mv 18 4),(mv 19 0),(o1 20 (.len true) 19),(o2 21 (.bin .lss) 18 20),(mv 22 21),(mG 23 0 22 true),(mG 24 4 22 true),(oG 25 .ixs [.t 23,.t 24] 22 true),(oG 26 (.call 164) [.t 25] 22 true),(oG 27 (.bin .eql) [.t 26,(ic 2)] 22 true),(op 28 .pick [.t 22,.t 27,bF])] (rn 18 10 [])) <|
  .cond (.t 28) (.skip)
  (.exit 1)) <|
  .block 2 (rg [(mv 29 4),(op 30 (.bin .add) [.t 29,(ic 1)]),(mv 4 30)] [29,30]))
def F140:AFun:=
{nargs:=1,keep:=false,res:=[.tmp 2,.tmp 3],body:=
  .seq (rg [(op 2 .mv [(ic 0)]),(op 3 .mv [(ic 0)])] [2,3]) <|
  .seq (.seq (rg [(mv 5 0),(op 6 .ixs [.t 5,(ic 0)]),(o1 7 (.call 164) 6)] [5,6]) <|
  .block 0 (.seq (rg [(op 9 (.bin .eql) [.t 7,(ic 4)]),(mv 8 9)] [9]) <|
  .cond (.t 8) (.seq (rg [(mv 10 0),(op 11 (.call 165) [.t 10,.c (.str [39,45]),.c (.fn 166 [])]),(op 2 .mv [(ic 6)]),(mv 3 11)] [10,11,0]) <|
  .ret)
  (.seq (rg [(op 13 (.bin .eql) [.t 7,(ic 3)]),(mv 12 13)] [13]) <|
  .cond (.t 12) (.seq (rg [(mv 14 0),(op 15 (.call 165) [.t 14,.c (.str [46,44]),.c (.fn 167 [])]),(op 2 .mv [(ic 7)]),(mv 3 15)] [14,15,0]) <|
  .ret)
  (.seq (rg [(op 17 (.bin .eql) [.t 7,(ic 2)]),(mv 16 17)] [17,7]) <|
  .cond (.t 16) (.seq (rg [(op 4 .mv [(ic 1)])] []) <|
  .seq (.block 1 (L140_0)) <|
  .seq (rg [(mv 31 4),(op 2 .mv [(ic 8)]),(mv 3 31)] [31,4]) <|
  .ret)
  (.skip))))) <|
  .seq (rg [(op 2 .mv [(ic 9)]),(op 3 .mv [(ic 1)])] []) <|
  .ret }
def L141_0:ACode:=
  .loop (11::12::13::14::4::5::(rn 15 13 [])) (.seq (rg [(o2 11 (.bin .lss) 10 9)] []) <|
  .seq (.cond (.t 11) (.skip)
  (.exit 0)) <|
  .seq (.block 1 (.seq (rg [(mv 12 10),(o2 13 (.ia 1) 8 10),(oS 14 ld1 [.t 13]),(mv 4 12),(mv 5 14)] [12,13,14]) <|
  .seq (rg [(mv 15 5),(op 16 (.bin .geq) [.t 15,.c (.int .u8 65)]),(mv 17 16),(mG 18 5 17 true),(oG 19 (.bin .leq) [.t 18,.c (.int .u8 90)] 17 true),(op 20 .pick [.t 17,.t 19,bF])] (rn 15 5 [])) <|
  .cond (.t 20) (rg [(mv 21 3),(mv 22 4),(mv 23 5),(op 24 (.bin .add) [.t 23,.c (.int .u8 97)]),(op 25 (.bin .sub) [.t 24,.c (.int .u8 65)]),(o2 26 (.ia 1) 21 22),(tS (.st 1) [.t 26,.t 25])] (rn 21 6 [4,5]))
  (.skip))) <|
  rg [(op 27 (.bin .add) [.t 10,(ic 1)]),(mv 10 27)] [27])
def F141:AFun:=
{nargs:=1,keep:=false,res:=[.tmp 2],body:=
  .seq (rg [(op 2 .mv [.c (.str [])])] [2]) <|
  .seq (rg [(mv 6 0),(oS 7 .s2b [.t 6]),(mO 3 7)] [6,7,0]) <|
  .seq (.seq (rg [(mv 8 3),(o1 9 (.len false) 8),(op 10 .mv [(ic 0)])] []) <|
  .block 0 (L141_0)) <|
  .seq (rg [(mv 28 3),(oS 29 .b2s [.t 28]),(mv 2 29)] [28,29,3]) <|
  .ret }
def L162_0:ACode:=
  .loop (10::11::4::(rn 12 19 [])) (.seq (rg [(o2 10 (.bin .lss) 9 8)] []) <|
  .seq (.cond (.t 10) (.skip)
  (.exit 0)) <|
  .seq (.block 1 (.seq (rg [(mv 11 9),(mv 4 11)] [11]) <|
  .seq (rg [(mv 12 3),(mv 13 4),(o2 14 (.ia 1) 12 13),(oS 15 ld1 [.t 14]),(op 16 (.bin .geq) [.t 15,.c (.int .u8 65)]),(mv 17 16),(mG 18 3 17 true),(mG 19 4 17 true),(oG 20 (.ia 1) [.t 18,.t 19] 17 true),
  ⟨(some 21),ld1,[.t 20],.sh,none,(some (17,true))⟩,
  (oG 22 (.bin .leq) [.t 21,.c (.int .u8 90)] 17 true),(op 23 .pick [.t 17,.t 22,bF])] (rn 12 11 [])) <|
  .cond (.t 23) (rg [(mv 24 3),(mv 25 4),(o2 26 (.ia 1) 24 25),(oS 27 ld1 [.t 26]),(op 28 (.bin .add) [.t 27,.c (.int .u8 32)]),(o2 29 (.ia 1) 24 25),(tS (.st 1) [.t 29,.t 28])] (rn 24 6 [4]))
  (.skip))) <|
  rg [(op 30 (.bin .add) [.t 9,(ic 1)]),(mv 9 30)] [30])
def F162:AFun:=
{nargs:=1,keep:=false,res:=[.tmp 2],body:=
  .seq (rg [(op 2 .mv [.c (.str [])])] [2]) <|
  .seq (rg [(mv 5 0),(oS 6 .s2b [.t 5]),(mO 3 6)] [5,6,0]) <|
  .seq (.seq (rg [(mv 7 3),(o1 8 (.len false) 7),(op 9 .mv [(ic 0)])] [7]) <|
  .block 0 (L162_0)) <|
  .seq (rg [(mv 31 3),(oS 32 .b2s [.t 31]),(mv 2 32)] [31,32,3]) <|
  .ret }
def L165_0:ACode:=
  .loop (8::9::10::11::(rn 14 5 (13::19::20::(rn 22 29 [21,51,52,12,6])))) (.seq (.seq (rg [(mv 8 7),(mv 9 0),(o1 10 (.len true) 9),(o2 11 (.bin .lss) 8 10)] [8,9,10]) <|
  .cond (.t 11) (.skip)
  (.exit 0)) <|
  .block 1 (.block 2 (.seq (rg [(mv 14 2),(mv 15 0),(mv 16 7),(o2 17 .ixs 15 16),(o2 18 .callv 14 17),(mv 13 18)] (rn 14 5 [])) <|
  .cond (.t 13) (rg [(mv 19 7),(op 20 (.bin .add) [.t 19,(ic 1)]),(mv 7 20)] [19,20])
  (.seq (.reg true [] [(mv 22 0),(mv 23 7),(o2 24 .ixs 22 23),(mv 25 1),(op 26 .ixs [.t 25,(ic 0)]),(o2 27 (.bin .eql) 24 26),(mv 28 27),(mG 29 0 28 false),(mG 30 7 28 false),(oG 31 .ixs [.t 29,.t 30] 28 false),(mG 32 1 28 false),(oG 33 .ixs [.t 32,(ic 1)] 28 false),(oG 34 (.bin .eql) [.t 31,.t 33] 28 false),(op 35 .pick [.t 28,bT,.t 34]),(mv 36 35),(mG 37 7 36 true),(oG 38 (.bin .add) [.t 37,(ic 1)] 36 true),(mG 39 0 36 true),(oG 40 (.len true) [.t 39] 36 true),(oG 41 (.bin .lss) [.t 38,.t 40] 36 true),(op 42 .pick [.t 36,.t 41,bF]),(mv 43 42),(mG 44 2 43 true),(mG 45 0 43 true),(mG 46 7 43 true),(oG 47 (.bin .add) [.t 46,(ic 1)] 43 true),(oG 48 .ixs [.t 45,.t 47] 43 true),(oG 49 .callv [.t 44,.t 48] 43 true),(op 50 .pick [.t 43,.t 49,bF]),(mv 21 50)] (rn 22 29 [])) <|
  .cond (.t 21) (rg [(mv 51 7),(op 52 (.bin .add) [.t 51,(ic 2)]),(mv 7 52)] [51,52])
  (.seq (rg [(mv 12 7),(mv 6 12)] [12,7]) <|
  .ret)))))
def F165:AFun:=
{nargs:=3,keep:=false,res:=[.tmp 6],body:=
  .seq (rg [(op 6 .mv [(ic 0)])] [6]) <|
  .seq (rg [(op 7 .mv [(ic 1)])] []) <|
  .seq (.block 0 (L165_0)) <|
  .seq (rg [(mv 53 7),(mv 6 53)] [53,7]) <|
  .ret }
def F166:AFun:=
{nargs:=1,keep:=false,res:=[.tmp 2],body:=
  .seq (rg [(op 2 .mv [bF])] [2]) <|
  .seq (rg [(mv 4 0),(o1 5 (.call 164) 4),(mv 3 5)] [4,5,0]) <|
  .seq (rg [(mv 6 3),(op 7 (.bin .eql) [.t 6,(ic 4)]),(mv 8 7),(mG 9 3 8 false),(oG 10 (.bin .eql) [.t 9,(ic 3)] 8 false),(op 11 .pick [.t 8,bT,.t 10]),(mv 2 11)] (rn 6 6 [3])) <|
  .ret }
def F167:AFun:=
{nargs:=1,keep:=false,res:=[.tmp 2],body:=
  .seq (rg [(op 2 .mv [bF])] [2]) <|
  .seq (rg [(mv 3 0),(o1 4 (.call 164) 3),(op 5 (.bin .eql) [.t 4,(ic 3)]),(mv 2 5)] [3,4,5,0]) <|
  .ret }
theorem ok14:okFun Tryz.prog 14 F14=true:=by kernel_rfl
theorem ok15:okFun Tryz.prog 15 F15=true:=by kernel_rfl
theorem ok17:okFun Tryz.prog 17 F17=true:=by kernel_rfl
theorem ok18:okFun Tryz.prog 18 F18=true:=by kernel_rfl
theorem ok19:okFun Tryz.prog 19 F19=true:=by kernel_rfl
theorem ok46:okFun Tryz.prog 46 F46=true:=by kernel_rfl
theorem ok47:okFun Tryz.prog 47 F47=true:=by kernel_rfl
theorem ok48:okFun Tryz.prog 48 F48=true:=by kernel_rfl
theorem ok49:okFun Tryz.prog 49 F49=true:=by kernel_rfl
theorem ok50:okFun Tryz.prog 50 F50=true:=by kernel_rfl
theorem ok51:okFun Tryz.prog 51 F51=true:=by kernel_rfl
theorem ok52:okFun Tryz.prog 52 F52=true:=by kernel_rfl
theorem ok53:okFun Tryz.prog 53 F53=true:=by kernel_rfl
theorem ok56:okFun Tryz.prog 56 F56=true:=by kernel_rfl
theorem ok90:okFun Tryz.prog 90 F90=true:=by kernel_rfl
theorem ok91:okFun Tryz.prog 91 F91=true:=by kernel_rfl
theorem ok92:okFun Tryz.prog 92 F92=true:=by kernel_rfl
theorem ok93:okFun Tryz.prog 93 F93=true:=by kernel_rfl
theorem ok94:okFun Tryz.prog 94 F94=true:=by kernel_rfl
theorem ok95:okFun Tryz.prog 95 F95=true:=by kernel_rfl
theorem ok96:okFun Tryz.prog 96 F96=true:=by kernel_rfl
theorem ok135:okFun Tryz.prog 135 F135=true:=by kernel_rfl
theorem ok136:okFun Tryz.prog 136 F136=true:=by kernel_rfl
theorem ok137:okFun Tryz.prog 137 F137=true:=by kernel_rfl
theorem ok138:okFun Tryz.prog 138 F138=true:=by kernel_rfl
theorem ok139:okFun Tryz.prog 139 F139=true:=by kernel_rfl
theorem ok140:okFun Tryz.prog 140 F140=true:=by kernel_rfl
theorem ok141:okFun Tryz.prog 141 F141=true:=by kernel_rfl
theorem ok162:okFun Tryz.prog 162 F162=true:=by kernel_rfl
theorem ok165:okFun Tryz.prog 165 F165=true:=by kernel_rfl
theorem ok166:okFun Tryz.prog 166 F166=true:=by kernel_rfl
theorem ok167:okFun Tryz.prog 167 F167=true:=by kernel_rfl
def T3:FuncId->Option AFun
 | 14=>some F14
 | 15=>some F15
 | 17=>some F17
 | 18=>some F18
 | 19=>some F19
 | 46=>some F46
 | 47=>some F47
 | 48=>some F48
 | 49=>some F49
 | 50=>some F50
 | 51=>some F51
 | 52=>some F52
 | 53=>some F53
 | 56=>some F56
 | 90=>some F90
 | 91=>some F91
 | 92=>some F92
 | 93=>some F93
 | 94=>some F94
 | 95=>some F95
 | 96=>some F96
 | 135=>some F135
 | 136=>some F136
 | 137=>some F137
 | 138=>some F138
 | 139=>some F139
 | 140=>some F140
 | 141=>some F141
 | 162=>some F162
 | 165=>some F165
 | 166=>some F166
 | 167=>some F167
 | _=>none
theorem T3_ok:∀ f F,T3 f=some F->okFun Tryz.prog f F=true:=by
 intro f F h;unfold T3 at h
 split at h
 ·cases h;exact ok14
 ·cases h;exact ok15
 ·cases h;exact ok17
 ·cases h;exact ok18
 ·cases h;exact ok19
 ·cases h;exact ok46
 ·cases h;exact ok47
 ·cases h;exact ok48
 ·cases h;exact ok49
 ·cases h;exact ok50
 ·cases h;exact ok51
 ·cases h;exact ok52
 ·cases h;exact ok53
 ·cases h;exact ok56
 ·cases h;exact ok90
 ·cases h;exact ok91
 ·cases h;exact ok92
 ·cases h;exact ok93
 ·cases h;exact ok94
 ·cases h;exact ok95
 ·cases h;exact ok96
 ·cases h;exact ok135
 ·cases h;exact ok136
 ·cases h;exact ok137
 ·cases h;exact ok138
 ·cases h;exact ok139
 ·cases h;exact ok140
 ·cases h;exact ok141
 ·cases h;exact ok162
 ·cases h;exact ok165
 ·cases h;exact ok166
 ·cases h;exact ok167
 ·cases h
noncomputable def B3:Calls':=fun f args sh=>match f with
 | 3=>none
 | 14=>none
 | 15=>none
 | 17=>none
 | 18=>none
 | 19=>none
 | 46=>none
 | 47=>none
 | 48=>none
 | 49=>none
 | 50=>none
 | 51=>none
 | 52=>none
 | 53=>none
 | 56=>none
 | 90=>none
 | 91=>none
 | 92=>none
 | 93=>none
 | 94=>none
 | 95=>none
 | 96=>none
 | 135=>none
 | 136=>none
 | 137=>none
 | 138=>none
 | 139=>none
 | 140=>none
 | 141=>none
 | 162=>none
 | 165=>none
 | 166=>none
 | 167=>none
 | f=>G0 f args sh
theorem B3_good:Good Tryz.prog B3:=by
 intro f args sh r sh' h;unfold B3 at h
 split at h
 ·cases h
 ·cases h
 ·cases h
 ·cases h
 ·cases h
 ·cases h
 ·cases h
 ·cases h
 ·cases h
 ·cases h
 ·cases h
 ·cases h
 ·cases h
 ·cases h
 ·cases h
 ·cases h
 ·cases h
 ·cases h
 ·cases h
 ·cases h
 ·cases h
 ·cases h
 ·cases h
 ·cases h
 ·cases h
 ·cases h
 ·cases h
 ·cases h
 ·cases h
 ·cases h
 ·cases h
 ·cases h
 ·cases h
 ·exact G0_good _ _ _ _ _ h
noncomputable abbrev G3:Calls':=Gx B3 T3
theorem G3_good:Good Tryz.prog G3:=Gx_good mix B3_good T3_ok
theorem up {f:FuncId} {args:List AV} {sh:LL} {r:AV × LL} (h:G0 f args sh=some r) (hB:B3 f args sh=G0 f args sh):G3 f args sh=some r:=Gx_base (hB.trans h)
end Go.Av
