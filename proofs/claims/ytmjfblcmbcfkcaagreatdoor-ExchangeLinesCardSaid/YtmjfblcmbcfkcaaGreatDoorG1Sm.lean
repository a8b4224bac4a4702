/- The functions' bodies as abstract code, held against the program by the kernel. No conditions. -/
import Derived.Test.YtmjfblcmbcfkcaaGreatDoorProg
import Derived.Test.YtmjfblcmbcfkcaaGreatDoorG1Ev22to30
import Derived.KernelRfl
open List
set_option linter.unusedSimpArgs false
set_option linter.unusedVariables false
set_option linter.unusedSectionVars false
set_option maxRecDepth 100000
set_option maxHeartbeats 16000000
namespace Go.Av
open Go.Proofs
def op (d:Nat) (k:AK) (a:List AR):AOper:=⟨some d,k,a,.none,none,none⟩
def mv (d s:Nat):AOper:=⟨some d,.mv,[.t s],.none,none,none⟩
def mO (d s:Nat):AOper:=⟨some d,.mvo,[.t s],.none,some s,none⟩
def oD (d:Nat) (k:AK) (a:List AR) (s:Nat):AOper:=⟨some d,k,a,.none,some s,none⟩
def mG (d s g:Nat) (b:Bool):AOper:=⟨some d,.mv,[.t s],.none,none,some (g,b)⟩
def oG (d:Nat) (k:AK) (a:List AR) (g:Nat) (b:Bool):AOper:=⟨some d,k,a,.none,none,some (g,b)⟩
def oS (d:Nat) (k:AK) (a:List AR):AOper:=⟨some d,k,a,.sh,none,none⟩
def oL (d s:Nat) (k:AK) (a:List AR):AOper:=⟨some d,k,a,.lo s,none,none⟩
def oH (d s:Nat) (k:AK) (a:List AR) (g:Nat) (b:Bool):AOper:=⟨some d,k,a,.lo s,none,some (g,b)⟩
def tL (s:Nat) (k:AK) (a:List AR):AOper:=⟨none,k,a,.lo s,none,none⟩
def tS (k:AK) (a:List AR):AOper:=⟨none,k,a,.sh,none,none⟩
attribute [go_sem] op mv mO oD mG oG oS oL oH tL tS
attribute [go_sem ↓] reduceIte
attribute [go_sem] Nat.reduceAdd Nat.reduceEqDiff Nat.reduceLT Int.reduceNeg Int.cast_ofNat_Int Int.reduceLT Int.reduceAdd Int.reduceSub Int.reduceLE Int.reduceEq Int.reduceToNat Nat.reduceSub Nat.reduceMul Nat.reduceLeDiff
def rg (o:List AOper) (k:List Nat):ACode:=.reg false [] o k
def ic (n:Int):AR:=.c (.int .i64 n)
def bT:AR:=.c (.bool true)
def bF:AR:=.c (.bool false)
def ld1:AK:=.ld false 1
def o1 (d:Nat) (k:AK) (a:Nat):AOper:=⟨some d,k,[.t a],.none,none,none⟩
def o2 (d:Nat) (k:AK) (a b:Nat):AOper:=⟨some d,k,[.t a,.t b],.none,none,none⟩
attribute [go_sem] rg ic bT bF ld1 o1 o2
def rn (a:Nat):Nat→List Nat→List Nat
 |0,l=>l
 |n+1,l=>a::rn (a+1) n l
@[go_sem] theorem rn_0 (a:Nat) (l:List Nat):rn a 0 l=l:=(rfl)
@[go_sem] theorem rn_s (a n:Nat) (l:List Nat):rn a (n+1) l=a::rn (a+1) n l:=(rfl)
abbrev ze8:List AV:=[.sl .no 3 [],.sl .no 3 [],.str [],.str [],.str [],.str [],.int .i64 0,.int .i64 0]
instance seatTabs:Gtab:=⟨fun i=>match i with
 | 1=>some (.u64,[1,10,100,1000,10000,100000,1000000,10000000,100000000,1000000000,10000000000,100000000000,1000000000000,10000000000000,100000000000000,1000000000000000,10000000000000000,100000000000000000,1000000000000000000,10000000000000000000])
 | _=>none⟩
def L11_0:ACode:=
  .loop [9,10,11,5,12,13,14,15,16] (.seq (rg [(o2 9 (.bin .lss) 8 7)] []) <|
  .seq (.cond (.t 9) (.skip)
  (.exit 0)) <|
  .seq (.block 1 (.seq (rg [(o2 10 (.ia 1) 6 8),(o1 11 ld1 10),(mO 5 11)] [10,11]) <|
  rg [(mv 12 3),(mv 13 5),(o1 14 (.len false) 13),(o2 15 (.bin .add) 12 14),(mv 3 15)] [12,13,14,15,5])) <|
  rg [(op 16 (.bin .add) [.t 8,(ic 1)]),(mv 8 16)] [16])
def F11:AFun:=
{nargs:=1,keep:=false,res:=[.tmp 2],body:=
  .seq (rg [(op 2 .mv [bF])] [2]) <|
  .seq (rg [(op 3 .mv [(ic 0)])] []) <|
  .seq (.seq (rg [(mv 6 0),(o1 7 (.len false) 6),(op 8 .mv [(ic 0)])] [0]) <|
  .block 0 (L11_0)) <|
  .seq (rg [(mv 17 3),(op 18 (.bin .gtr) [.t 17,(ic 160)]),(mv 2 18)] [17,18,3]) <|
  .ret }
def F12:AFun:=
{nargs:=0,keep:=false,res:=[.tmp 0],body:=
  .seq (rg [(op 0 .mv [bF])] [0]) <|
  .seq (.reg false [1] [(op 7 (.build [.int .i64 0,.str [],.int .i64 0] [(0,1),(1,1)]) [(ic 1),.c (.str [97])]),(o1 8 (.mks 3 [.int .i64 0,.str [],.int .i64 0] 1 [0]) 7),(op 9 (.build [.int .i64 0,.str [],.int .i64 0] [(0,1),(1,1)]) [(ic 1),.c (.str [98])]),(o1 10 (.mks 3 [.int .i64 0,.str [],.int .i64 0] 1 [0]) 9),(op 11 (.build ze8 [(0,1),(1,1),(7,1)]) [.t 8,.t 10,(ic 1)]),(oL 1 1 (.alloc [.sl .full 3 [],.sl .full 3 [],.str [],.str [],.str [],.str [],.int .i64 0,.int .i64 0]) []),(tL 1 (.st 8) [.t 1,.t 11])] (rn 7 5 [])) <|
  .seq (rg [(oL 13 1 (.ld true 8) [.t 1]),(o1 14 (.mks 8 [.sl .full 3 [],.sl .full 3 [],.str [],.str [],.str [],.str [],.int .i64 0,.int .i64 0] 1 [0]) 13),(o1 15 (.call 17) 14),(mv 12 15),(o1 16 (.ext 0) 12),(o1 17 (.ext 1) 12),(mv 2 16),(mv 3 17)] [13,14,15,12,16,17]) <|
  .seq (rg [(mv 19 2),(o1 20 (.call 21) 19),(mv 18 20),(o1 21 (.ext 0) 18),(o1 22 (.ext 1) 18),(o1 23 (.ext 2) 18),(mO 4 21),(mv 5 22),(mv 6 23)] [19,20,18,21,22,23]) <|
  .seq (rg [(mv 24 3),(op 25 (.bin .eql) [.t 24,(ic 0)]),(mv 26 25),(mG 27 2 26 true),(oG 28 (.bin .eql) [.t 27,.c (.str [98,105,116,101,120,116,45,109,101,109,111,114,121,32,49,10,115,111,117,114,99,101,32,97,10,116,97,114,103,101,116,32,98,10,111,114,105,103,105,110,32,104,117,109,97,110,10])] 26 true),(op 29 .pick [.t 26,.t 28,bF]),(mv 30 29),(mG 31 6 30 true),(oG 32 (.bin .eql) [.t 31,(ic 0)] 30 true),(op 33 .pick [.t 30,.t 32,bF]),(mv 34 33),(mG 35 5 34 true),(oG 36 (.bin .eql) [.t 35,(ic 0)] 34 true),(op 37 .pick [.t 34,.t 36,bF]),(mv 38 37),(mG 39 4 38 true),(oH 40 1 (.ld true 8) [.t 1] 38 true),(oG 41 (.mks 8 [.sl .full 3 [],.sl .full 3 [],.str [],.str [],.str [],.str [],.int .i64 0,.int .i64 0] 1 [0]) [.t 40] 38 true),(oG 42 (.call 24) [.t 39,.t 41] 38 true),(op 43 .pick [.t 38,.t 42,bF]),(mv 0 43)] (rn 24 20 [3,2,6,5,4,1])) <|
  .ret }
def L13_0:ACode:=
  .loop [13,14,18,19,20,21,17,22,23,7,8,24,25,26,15,16] (.seq (.seq (rg [(mv 13 6),(op 14 (.bin .gtr) [.t 13,(ic 0)])] [13]) <|
  .cond (.t 14) (.skip)
  (.exit 0)) <|
  .seq (.block 1 (.seq (rg [(mv 18 5),(mv 19 0),(oS 20 (.call 16) [.t 19]),(o2 21 (.call 28) 18 20),(mv 17 21),(o1 22 (.ext 0) 17),(o1 23 (.ext 1) 17),(mO 7 22),(mv 8 23)] [18,19,20,21,17,22,23]) <|
  .seq (rg [(mv 24 8),(op 25 (.bin .eql) [.t 24,(ic 0)])] [24,8]) <|
  .cond (.t 25) (rg [(mv 26 7),(mO 5 26)] [26,7])
  (.skip))) <|
  rg [(mv 15 6),(op 16 (.bin .sub) [.t 15,(ic 1)]),(mv 6 16)] [15,16])
def F13:AFun:=
{nargs:=2,keep:=false,res:=[.tmp 4],body:=
  .seq (rg [(op 4 .mv [.c (.sl .full 8 [])])] [4]) <|
  .seq (rg [(op 5 .mv [.c (.sl .full 8 [])])] []) <|
  .seq (.seq (rg [(mv 9 0),(mv 10 1),(op 11 (.bin .add) [.t 10,(ic 1)]),(oS 12 (.call 27) [.t 9,.t 11]),(mv 6 12)] [9,10,11,12,1]) <|
  .block 0 (L13_0)) <|
  .seq (rg [(mv 27 5),(mO 4 27)] [27,5]) <|
  .ret }
def F15:AFun:=
{nargs:=2,keep:=false,res:=[.tmp 4],body:=
  .seq (rg [(op 4 .mv [(ic 0)])] [4]) <|
  .seq (rg [(mv 5 0),(mv 6 1),(o2 7 (.bin .rem) 5 6),(mv 0 7)] [5,6,7]) <|
  .seq (.seq (rg [(mv 8 0),(op 9 (.bin .lss) [.t 8,(ic 0)])] [8]) <|
  .cond (.t 9) (rg [(mv 10 0),(mv 11 1),(o2 12 (.bin .add) 10 11),(mv 0 12)] [10,11,12,1])
  (.skip)) <|
  .seq (rg [(mv 13 0),(mv 4 13)] [13,0]) <|
  .ret }
def F16:AFun:=
{nargs:=1,keep:=false,res:=[.cell 2 true 8],body:=
  .seq (.reg false [2] [(oL 2 2 (.alloc [.sl .full 3 [],.sl .full 3 [],.str [],.str [],.str [],.str [],.int .i64 0,.int .i64 0]) [])] []) <|
  .seq (rg [(mv 7 0),(oS 8 (.call 29) [.t 7,(ic 4),bT,bT]),(mO 3 8)] [7,8]) <|
  .seq (.seq (rg [(mv 9 3),(o1 10 (.len false) 9),(op 11 (.bin .eql) [.t 10,(ic 0)])] [9,10]) <|
  .cond (.t 11) (rg [(op 12 (.mks 1 [.str []] 3 [0,1,2]) [.c (.str [83,97,118,101]),.c (.str [114,101,100,32,99,97,114]),.c (.str [82,101,100,32,99,97,114,115])]),(mv 13 0),(oS 14 (.call 27) [.t 13,(ic 3)]),(o2 15 (.ia 1) 12 14),(o1 16 ld1 15),(op 17 (.build [.int .i64 0,.str [],.int .i64 0] [(0,1),(1,1)]) [(ic 1),.t 16]),(o1 18 (.mks 3 [.int .i64 0,.str [],.int .i64 0] 1 [0]) 17),(mO 3 18)] (rn 12 7 []))
  (.skip)) <|
  .seq (rg [(mv 19 0),(mv 20 3),(oS 21 (.call 30) [.t 19,.t 20]),(mO 4 21)] [19,20,21]) <|
  .seq (rg [(mv 23 3),(mv 24 4),(o2 25 (.call 31) 23 24),(mv 22 25),(o1 26 (.ext 0) 22),(o1 27 (.ext 1) 22),(mO 5 26),(mO 6 27)] [23,24,25,22,26,27,3,4]) <|
  .seq (.reg true [] [(mv 28 5),(mv 29 6),(op 30 (.mks 1 [.str []] 4 [0,1,2,3]) [.c (.str []),.c (.str []),.c (.str [83,97,118,101]),.c (.str [114,101,100,32,99,97,114])]),(mv 31 0),(oS 32 (.call 27) [.t 31,(ic 4)]),(o2 33 (.ia 1) 30 32),(o1 34 ld1 33),(op 35 (.mks 1 [.str []] 4 [0,1,2,3]) [.c (.str []),.c (.str []),.c (.str [120]),.c (.str [83,97,118,101])]),(mv 36 0),(oS 37 (.call 27) [.t 36,(ic 4)]),(o2 38 (.ia 1) 35 37),(o1 39 ld1 38),(op 40 (.mks 1 [.str []] 3 [0,1,2]) [.c (.str []),.c (.str [97,110,110]),.c (.str [98,111,98])]),(mv 41 0),(oS 42 (.call 27) [.t 41,(ic 3)]),(o2 43 (.ia 1) 40 42),(o1 44 ld1 43),(op 45 (.mks 1 [.str []] 3 [0,1,2]) [.c (.str []),.c (.str [112]),.c (.str [113])]),(mv 46 0),(oS 47 (.call 27) [.t 46,(ic 3)]),(o2 48 (.ia 1) 45 47),(o1 49 ld1 48),(mv 50 0),(oS 51 (.call 27) [.t 50,(ic 50)]),(mv 52 0),(oS 53 (.call 27) [.t 52,(ic 3)]),(op 54 (.bin .add) [(ic 1),.t 53]),(op 55 (.build ze8 [(0,1),(1,1),(2,1),(3,1),(4,1),(5,1),(6,1),(7,1)]) [.t 28,.t 29,.t 34,.t 39,.t 44,.t 49,.t 51,.t 54]),(tL 2 (.st 8) [.t 2,.t 55])] (rn 28 28 [5,6,0])) <|
  .ret }
def L18_0:ACode:=
  .loop (32::33::34::35::7::8::(rn 36 17 [])) (.seq (rg [(o2 32 (.bin .lss) 31 30)] []) <|
  .seq (.cond (.t 32) (.skip)
  (.exit 2)) <|
  .seq (.block 3 (.seq (rg [(mv 33 31),(o2 34 (.ia 1) 29 31),(o1 35 ld1 34),(mv 7 33),(mv 8 35)] [33,34,35]) <|
  .seq (rg [(mv 36 7),(op 37 (.bin .lss) [.t 36,(ic 2)]),(mv 38 37),(mG 39 8 38 false),(oG 40 (.bin .neq) [.t 39,.c (.str [])] 38 false),(op 41 .pick [.t 38,bT,.t 40])] (rn 36 5 [])) <|
  .cond (.t 41) (rg [(mv 42 5),(op 43 (.call 40) []),(mv 44 7),(o2 45 (.ia 1) 43 44),(o1 46 ld1 45),(op 47 (.bin .add) [.t 46,.c (.str [32])]),(mv 48 8),(o2 49 (.bin .add) 47 48),(op 50 (.bin .add) [.t 49,.c (.str [10])]),(o2 51 (.bin .add) 42 50),(mv 5 51)] (rn 42 10 [7,8]))
  (.skip))) <|
  rg [(op 52 (.bin .add) [.t 31,(ic 1)]),(mv 31 52)] [52])
def L18_1:ACode:=
  .loop (19::20::21::22::(rn 25 11 (7::8::(rn 36 17 [23,24])))) (.seq (.seq (rg [(mv 19 6),(mv 20 0),(o1 21 (.len false) 20),(o2 22 (.bin .lss) 19 21)] [19,20,21]) <|
  .cond (.t 22) (.skip)
  (.exit 0)) <|
  .seq (.block 1 (.seq (rg [(mv 25 0),(mv 26 6),(o2 27 (.ia 8) 25 26),(o1 28 (.ld true 8) 27),(o1 29 (.call 39) 28),(o1 30 (.len false) 29),(op 31 .mv [(ic 0)])] [25,26,27,28]) <|
  .block 2 (L18_0))) <|
  rg [(mv 23 6),(op 24 (.bin .add) [.t 23,(ic 1)]),(mv 6 24)] [23,24])
def F18:AFun:=
{nargs:=1,keep:=false,res:=[.tmp 2,.tmp 3],body:=
  .seq (rg [(op 2 .mv [.c (.str [])]),(op 3 .mv [(ic 0)])] [2,3]) <|
  .seq (.seq (rg [(mv 9 0),(o1 10 (.call 38) 9),(mv 4 10)] [9,10]) <|
  .seq (rg [(mv 11 4),(op 12 (.bin .neq) [.t 11,(ic 0)])] [11]) <|
  .cond (.t 12) (.seq (rg [(mv 13 4),(op 2 .mv [.c (.str [])]),(mv 3 13)] [13,4]) <|
  .ret)
  (.skip)) <|
  .seq (rg [(mv 14 0),(o1 15 (.len false) 14),(o1 16 (.call 23) 15),(op 17 (.bin .add) [.c (.str [98,105,116,101,120,116,45,109,101,109,111,114,121,32]),.t 16]),(op 18 (.bin .add) [.t 17,.c (.str [10])]),(mv 5 18)] (rn 14 5 [])) <|
  .seq (.seq (rg [(op 6 .mv [(ic 0)])] []) <|
  .block 0 (L18_1)) <|
  .seq (.seq (rg [(mv 53 5),(o1 54 (.len true) 53),(op 55 (.bin .gtr) [.t 54,(ic 1048576)])] [53,54]) <|
  .cond (.t 55) (.seq (rg [(op 2 .mv [.c (.str [])]),(op 3 .mv [(ic 3)])] []) <|
  .ret)
  (.skip)) <|
  .seq (rg [(mv 56 5),(mv 2 56),(op 3 .mv [(ic 0)])] [56,5]) <|
  .ret }
def F19:AFun:=
{nargs:=1,keep:=false,res:=[.tmp 2],body:=
  .seq (rg [(op 2 .mv [bF])] [2]) <|
  .seq (rg [(mv 10 0),(o1 11 (.call 21) 10),(mv 9 11),(o1 12 (.ext 0) 9),(o1 13 (.ext 1) 9),(o1 14 (.ext 2) 9),(mO 3 12),(mv 4 13),(mv 5 14)] [10,11,9,12,13,14]) <|
  .seq (rg [(mv 16 0),(o1 17 (.call 41) 16),(mv 15 17),(o1 18 (.ext 0) 15),(o1 19 (.ext 1) 15),(o1 20 (.ext 2) 15),(mO 6 18),(mv 7 19),(mv 8 20)] [16,17,15,18,19,20,0]) <|
  .seq (rg [(mv 21 5),(mv 22 8),(o2 23 (.bin .eql) 21 22),(mv 24 23),(mG 25 4 24 true),(mG 26 7 24 true),(oG 27 (.bin .eql) [.t 25,.t 26] 24 true),(op 28 .pick [.t 24,.t 27,bF]),(mv 29 28),(mG 30 3 29 true),(mG 31 6 29 true),(oG 32 (.call 24) [.t 30,.t 31] 29 true),(op 33 .pick [.t 29,.t 32,bF]),(mv 2 33)] (rn 21 13 [5,8,4,7,3,6])) <|
  .ret }
def L20_0:ACode:=
  .loop (6::7::8::9::(rn 12 13 [10,11])) (.seq (.seq (rg [(mv 6 5),(mv 7 0),(o1 8 (.len true) 7),(o2 9 (.bin .lss) 6 8)] [6,7,8]) <|
  .cond (.t 9) (.skip)
  (.exit 0)) <|
  .seq (.block 1 (.seq (rg [(mv 12 0),(mv 13 5),(o2 14 .ixs 12 13),(op 15 (.bin .eql) [.t 14,.c (.int .u8 10)])] [12,13,14]) <|
  .cond (.t 15) (.seq (rg [(mO 16 2),(mv 17 0),(mv 18 4),(mv 19 5),(op 20 (.slc true 0 true true) [.t 17,.t 18,.t 19]),(o1 21 (.mks 1 [.str []] 1 [0]) 20),(oD 22 (.app false 1 16) [.t 16,.t 21] 16),(mO 2 22)] (rn 16 7 [4])) <|
  rg [(mv 23 5),(op 24 (.bin .add) [.t 23,(ic 1)]),(mv 4 24)] [23,24])
  (.skip))) <|
  rg [(mv 10 5),(op 11 (.bin .add) [.t 10,(ic 1)]),(mv 5 11)] [10,11])
def F20:AFun:=
{nargs:=1,keep:=false,res:=[.tmp 2,.tmp 3],body:=
  .seq (rg [(op 2 .mv [.c (.sl .full 1 [])]),(op 3 .mv [bF])] [3]) <|
  .seq (rg [(op 4 .mv [(ic 0)])] []) <|
  .seq (.seq (rg [(op 5 .mv [(ic 0)])] []) <|
  .block 0 (L20_0)) <|
  .seq (.seq (rg [(mv 25 4),(mv 26 0),(o1 27 (.len true) 26),(o2 28 (.bin .lss) 25 27)] [25,26,27]) <|
  .cond (.t 28) (.seq (rg [(mO 29 2),(mv 30 0),(mv 31 4),(o2 32 (.slc true 0 true false) 30 31),(o1 33 (.mks 1 [.str []] 1 [0]) 32),(oD 34 (.app false 1 16) [.t 29,.t 33] 29),(mO 2 34),(op 3 .mv [bF])] (rn 29 6 [0,4])) <|
  .ret)
  (.skip)) <|
  .seq (rg [(mv 35 2),(mO 2 35),(op 3 .mv [bT])] [35]) <|
  .ret }
def L21_0:ACode:=
  .loop [46,47,48,49,13,51,52,50,53,54,55,7,56,57,58,2,4,59,60,61,14,62,63,64,65] (.seq (.seq (rg [(mv 46 6),(op 47 (.bin .neq) [.t 46,.c (.str [])])] [46]) <|
  .cond (.t 47) (.skip)
  (.exit 0)) <|
  .block 1 (.seq (rg [(mv 48 3),(op 49 (.bin .add) [.t 48,(ic 1)]),(mv 3 49)] [48,49]) <|
  .seq (rg [(op 13 .mv [.c (.str [])])] [13]) <|
  .seq (rg [(mv 51 6),(op 52 (.call 42) [.t 51,.c (.str [10])]),(mv 50 52),(o1 53 (.ext 0) 50),(o1 54 (.ext 1) 50),(o1 55 (.ext 2) 50),(mv 13 53),(mv 6 54),(mv 7 55)] [51,52,50,53,54,55]) <|
  .seq (.seq (rg [(mv 56 7),(o1 57 (.un .not) 56)] [56,7]) <|
  .cond (.t 57) (.seq (rg [(mv 58 3),(op 2 .mv [.c (.sl .full 8 [])]),(mv 3 58),(op 4 .mv [(ic 2)])] [58]) <|
  .ret)
  (.skip)) <|
  .seq (rg [(mv 59 12),(mv 60 13),(oS 61 (.call 45) [.t 59,.t 60]),(mv 14 61)] [59,60,61,13]) <|
  .seq (rg [(mv 62 14),(op 63 (.bin .neq) [.t 62,(ic 0)])] [62]) <|
  .cond (.t 63) (.seq (rg [(mv 64 3),(mv 65 14),(op 2 .mv [.c (.sl .full 8 [])]),(mv 3 64),(mv 4 65)] [64,65,14]) <|
  .ret)
  (.skip)))
def F21:AFun:=
{nargs:=1,keep:=false,res:=[.tmp 2,.tmp 3,.tmp 4],body:=
  .seq (rg [(op 2 .mv [.c (.sl .full 8 [])]),(op 3 .mv [(ic 0)]),(op 4 .mv [(ic 0)])] [2,3,4]) <|
  .seq (.seq (rg [(mv 15 0),(o1 16 (.len true) 15),(op 17 (.bin .gtr) [.t 16,(ic 1048576)])] [15,16]) <|
  .cond (.t 17) (.seq (rg [(op 2 .mv [.c (.sl .full 8 [])]),(op 3 .mv [(ic 0)]),(op 4 .mv [(ic 3)])] []) <|
  .ret)
  (.skip)) <|
  .seq (rg [(mv 19 0),(op 20 (.call 42) [.t 19,.c (.str [10])]),(mv 18 20),(o1 21 (.ext 0) 18),(o1 22 (.ext 1) 18),(o1 23 (.ext 2) 18),(mv 5 21),(mv 6 22),(mv 7 23)] [19,20,18,21,22,23,0]) <|
  .seq (rg [(mv 25 5),(op 26 (.call 43) [.t 25,.c (.str [98,105,116,101,120,116,45,109,101,109,111,114,121,32])]),(mv 24 26),(o1 27 (.ext 0) 24),(o1 28 (.ext 1) 24),(mv 8 27),(mv 9 28)] [25,26,24,27,28,5]) <|
  .seq (rg [(mv 30 8),(op 31 (.call 44) [.t 30,(ic 1024)]),(mv 29 31),(o1 32 (.ext 0) 29),(o1 33 (.ext 1) 29),(mv 10 32),(mv 11 33)] [30,31,29,32,33,8]) <|
  .seq (.seq (rg [(mv 34 7),(o1 35 (.un .not) 34),(mv 36 35),(mG 37 9 36 false),(oG 38 (.un .not) [.t 37] 36 false),(op 39 .pick [.t 36,bT,.t 38]),(mv 40 39),(mG 41 11 40 false),(oG 42 (.un .not) [.t 41] 40 false),(op 43 .pick [.t 40,bT,.t 42])] (rn 34 9 [7,9,11])) <|
  .cond (.t 43) (.seq (rg [(op 2 .mv [.c (.sl .full 8 [])]),(op 3 .mv [(ic 1)]),(op 4 .mv [(ic 2)])] []) <|
  .ret)
  (.skip)) <|
  .seq (rg [(op 44 (.build [.sl .full 8 [],.sl .full 3 [],.sl .full 3 [],.str [],.str [],.str [],.str [],.int .i64 0,.int .i64 0,.str [],.int .i64 0] []) []),(oS 45 (.boxS 11) [.t 44]),(mv 12 45)] [44,45]) <|
  .seq (rg [(op 3 .mv [(ic 1)])] []) <|
  .seq (.block 0 (L21_0)) <|
  .seq (.seq (rg [(mv 66 12),(o1 67 .nilc 66),(o1 68 (.fa 10) 67),(oS 69 ld1 [.t 68]),(op 70 (.bin .neq) [.t 69,(ic 0)])] [66,67,68,69]) <|
  .cond (.t 70) (.seq (rg [(mv 71 3),(op 72 (.bin .add) [.t 71,(ic 1)]),(op 2 .mv [.c (.sl .full 8 [])]),(mv 3 72),(op 4 .mv [(ic 2)])] [71,72]) <|
  .ret)
  (.skip)) <|
  .seq (.seq (rg [(mv 73 12),(o1 74 .nilc 73),(o1 75 (.fa 0) 74),(oS 76 ld1 [.t 75]),(o1 77 (.len false) 76),(mv 78 10),(o2 79 (.bin .neq) 77 78)] (rn 73 6 [10])) <|
  .cond (.t 79) (.seq (rg [(op 2 .mv [.c (.sl .full 8 [])]),(op 3 .mv [(ic 1)]),(op 4 .mv [(ic 2)])] []) <|
  .ret)
  (.skip)) <|
  .seq (rg [(mv 80 12),(o1 81 .nilc 80),(o1 82 (.fa 0) 81),(oS 83 ld1 [.t 82]),(mO 2 83),(op 3 .mv [(ic 0)]),(op 4 .mv [(ic 0)])] [80,81,82,83,12]) <|
  .ret }
def F22:AFun:=
{nargs:=2,keep:=false,res:=[.tmp 4,.tmp 5],body:=
  .seq (rg [(op 4 .mv [.c (.str [])]),(op 5 .mv [bF])] [4,5]) <|
  .seq (.seq (rg [(mv 6 0),(o1 7 (.len true) 6),(mv 8 1),(o1 9 (.len true) 8),(o2 10 (.bin .lss) 7 9),(mv 11 10),(mG 12 0 11 false),(mG 13 1 11 false),(oG 14 (.len true) [.t 13] 11 false),(oG 15 (.slc true 0 false true) [.t 12,.t 14] 11 false),(mG 16 1 11 false),(oG 17 (.bin .neq) [.t 15,.t 16] 11 false),(op 18 .pick [.t 11,bT,.t 17])] (rn 6 12 [])) <|
  .cond (.t 18) (.seq (rg [(op 4 .mv [.c (.str [])]),(op 5 .mv [bF])] []) <|
  .ret)
  (.skip)) <|
  .seq (rg [(mv 19 0),(mv 20 1),(o1 21 (.len true) 20),(o2 22 (.slc true 0 true false) 19 21),(mv 4 22),(op 5 .mv [bT])] [19,20,21,22,0,1]) <|
  .ret }
def F23:AFun:=
{nargs:=1,keep:=false,res:=[.tmp 2],body:=
  .seq (rg [(op 2 .mv [.c (.str [])])] [2]) <|
  .seq (.seq (rg [(mv 3 0),(op 4 (.bin .lss) [.t 3,(ic 0)]),(mv 5 4),(mG 6 0 5 true),(oG 7 (.bin .gtr) [.t 6,(ic (-4611686018427387904))] 5 true),(op 8 .pick [.t 5,.t 7,bF])] [3,4,5,6,7]) <|
  .cond (.t 8) (.seq (rg [(mv 9 0),(o1 10 (.un .neg) 9),(o1 11 (.call 46) 10),(op 12 (.bin .add) [.c (.str [45]),.t 11]),(mv 2 12)] [9,10,11,12,0]) <|
  .ret)
  (.skip)) <|
  .seq (rg [(mv 13 0),(op 14 (.mm true) [.t 13,(ic 0)]),(o1 15 (.call 46) 14),(mv 2 15)] [13,14,15,0]) <|
  .ret }
def L24_0:ACode:=
  .loop (14::15::5::(rn 16 10 [4,26])) (.seq (rg [(o2 14 (.bin .lss) 13 12)] []) <|
  .seq (.cond (.t 14) (.skip)
  (.exit 0)) <|
  .seq (.block 1 (.seq (rg [(mv 15 13),(mv 5 15)] [15]) <|
  .seq (.reg true [] [(mv 16 0),(mv 17 5),(o2 18 (.ia 8) 16 17),(o1 19 (.ld true 8) 18),(mv 20 1),(mv 21 5),(o2 22 (.ia 8) 20 21),(o1 23 (.ld true 8) 22),(o2 24 (.call 47) 19 23),(o1 25 (.un .not) 24)] (rn 16 9 [5])) <|
  .cond (.t 25) (.seq (rg [(op 4 .mv [bF])] []) <|
  .ret)
  (.skip))) <|
  rg [(op 26 (.bin .add) [.t 13,(ic 1)]),(mv 13 26)] [26])
def F24:AFun:=
{nargs:=2,keep:=false,res:=[.tmp 4],body:=
  .seq (rg [(op 4 .mv [bF])] [4]) <|
  .seq (.seq (rg [(mv 6 0),(o1 7 (.len false) 6),(mv 8 1),(o1 9 (.len false) 8),(o2 10 (.bin .neq) 7 9)] [6,7,8,9]) <|
  .cond (.t 10) (.seq (rg [(op 4 .mv [bF])] []) <|
  .ret)
  (.skip)) <|
  .seq (.seq (rg [(mv 11 0),(o1 12 (.len false) 11),(op 13 .mv [(ic 0)])] [11]) <|
  .block 0 (L24_0)) <|
  .seq (rg [(op 4 .mv [bT])] []) <|
  .ret }
def F27:AFun:=
{nargs:=2,keep:=false,res:=[.tmp 4],body:=
  .seq (rg [(op 4 .mv [(ic 0)])] [4]) <|
  .seq (rg [(op 5 .mv [(ic 0)])] []) <|
  .seq (.seq (.reg true [] [(mv 6 0),(o1 7 .nilc 6),(o1 8 (.fa 1) 7),(oS 9 ld1 [.t 8]),(mv 10 0),(o1 11 .nilc 10),(o1 12 (.fa 0) 11),(oS 13 ld1 [.t 12]),(o1 14 (.len false) 13),(o2 15 (.bin .lss) 9 14)] (rn 6 9 [])) <|
  .cond (.t 15) (.reg true [] [(mv 16 0),(o1 17 .nilc 16),(o1 18 (.fa 0) 17),(oS 19 ld1 [.t 18]),(mv 20 0),(o1 21 .nilc 20),(o1 22 (.fa 1) 21),(oS 23 ld1 [.t 22]),(o2 24 (.ia 1) 19 23),(o1 25 ld1 24),(mv 5 25)] (rn 16 10 []))
  (.skip)) <|
  .seq (rg [(mv 26 0),(o1 27 .nilc 26),(o1 28 (.fa 1) 27),(oS 29 ld1 [.t 28]),(op 30 (.bin .add) [.t 29,(ic 1)]),(o1 31 .nilc 26),(o1 32 (.fa 1) 31),(tS (.st 1) [.t 32,.t 30])] (rn 26 7 [0])) <|
  .seq (rg [(mv 33 5),(mv 34 1),(o2 35 (.call 15) 33 34),(mv 4 35)] [33,34,35,5,1]) <|
  .ret }
def F28:AFun:=
{nargs:=2,keep:=false,res:=[.tmp 4,.tmp 5],body:=
  .seq (.reg false [3] [(oL 3 3 (.box 8) [.t 1]),(op 4 .mv [.c (.sl .full 8 [])]),(op 5 .mv [(ic 0)])] [4,5,1]) <|
  .seq (.seq (rg [(mv 8 0),(o1 9 (.call 50) 8),(o1 10 (.un .not) 9)] [8,9]) <|
  .cond (.t 10) (.seq (rg [(op 4 .mv [.c (.sl .full 8 [])]),(op 5 .mv [(ic 1)])] []) <|
  .ret)
  (.skip)) <|
  .seq (.seq (rg [(oL 11 3 (.ld true 8) [.t 3]),(o1 12 (.call 51) 11),(mv 6 12)] [11,12]) <|
  .seq (rg [(mv 13 6),(op 14 (.bin .neq) [.t 13,(ic 0)])] [13]) <|
  .cond (.t 14) (.seq (rg [(mv 15 6),(op 4 .mv [.c (.sl .full 8 [])]),(mv 5 15)] [15,6]) <|
  .ret)
  (.skip)) <|
  .seq (rg [(mv 16 0),(oL 17 3 (.ld true 8) [.t 3]),(o1 18 (.call 53) 17),(o2 19 (.call 52) 16 18),(mv 7 19)] [16,17,18,19]) <|
  .seq (.seq (.reg true [] [(mv 20 7),(mv 21 0),(o1 22 (.len false) 21),(o2 23 (.bin .lss) 20 22),(mv 24 23),(mG 25 0 24 true),(mG 26 7 24 true),(oG 27 (.ia 8) [.t 25,.t 26] 24 true),(oG 28 (.ld true 8) [.t 27] 24 true),(oG 29 (.call 53) [.t 28] 24 true),(oH 30 3 (.ld true 8) [.t 3] 24 true),(oG 31 (.call 53) [.t 30] 24 true),(oG 32 (.bin .eql) [.t 29,.t 31] 24 true),(op 33 .pick [.t 24,.t 32,bF])] (rn 20 13 [])) <|
  .cond (.t 33) (.seq (rg [(mv 34 0),(mv 35 7),(oL 36 3 (.ld true 8) [.t 3]),(op 37 (.call 54) [.t 34,.t 35,.t 36,(ic 1)]),(mO 4 37),(op 5 .mv [(ic 0)])] [34,35,36,37,0,7,3]) <|
  .ret)
  (.skip)) <|
  .seq (.seq (rg [(mv 38 0),(o1 39 (.len false) 38),(op 40 (.bin .geq) [.t 39,(ic 1024)])] [38,39]) <|
  .cond (.t 40) (.seq (rg [(op 4 .mv [.c (.sl .full 8 [])]),(op 5 .mv [(ic 3)])] []) <|
  .ret)
  (.skip)) <|
  .seq (rg [(mv 41 0),(mv 42 7),(oL 43 3 (.ld true 8) [.t 3]),(op 44 (.call 54) [.t 41,.t 42,.t 43,(ic 0)]),(mO 4 44),(op 5 .mv [(ic 0)])] [41,42,43,44,0,7,3]) <|
  .ret }
def L29_0:ACode:=
  .loop (20::21::24::25::26::13::27::28::30::29::(rn 31 7 (39::38::(rn 40 10 (51::50::(rn 52 15 (68::67::69::70::71::72::14::(rn 73 42 [22,23])))))))) (.seq (.seq (rg [(mv 20 12),(op 21 (.bin .gtr) [.t 20,(ic 0)])] [20]) <|
  .cond (.t 21) (.skip)
  (.exit 0)) <|
  .seq (.block 1 (.seq (.reg false [13] [(mv 24 0),(oS 25 (.call 55) [.t 24,(ic 3)]),(op 26 (.build [.int .i64 0,.str [],.int .i64 0] [(0,1),(1,1)]) [(ic 1),.t 25]),(oL 13 13 (.alloc [.int .i64 0,.str [],.int .i64 0]) []),(tL 13 (.st 3) [.t 13,.t 26])] [24,25,26]) <|
  .seq (.seq (rg [(mv 27 0),(oS 28 (.call 27) [.t 27,(ic 8)])] [27]) <|
  .block 2 (.seq (.seq (rg [(op 30 (.bin .eql) [.t 28,(ic 0)]),(mv 29 30)] [30]) <|
  .cond (.t 29) (.skip)
  (rg [(op 31 (.bin .eql) [.t 28,(ic 1)]),(mv 29 31)] [31])) <|
  .cond (.t 29) (rg [(op 32 (.mks 1 [.str []] 3 [0,1,2]) [.c (.str [110]),.c (.str [110,97,109,101]),.c (.str [120,49])]),(mv 33 0),(oS 34 (.call 27) [.t 33,(ic 3)]),(o2 35 (.ia 1) 32 34),(o1 36 ld1 35),(op 37 (.build [.int .i64 0,.str [],.int .i64 0] [(0,1),(1,1)]) [(ic 5),.t 36]),(tL 13 (.st 3) [.t 13,.t 37])] (rn 32 6 []))
  (.seq (rg [(op 39 (.bin .eql) [.t 28,(ic 2)]),(mv 38 39)] [39]) <|
  .cond (.t 38) (.seq (rg [(mv 40 2)] []) <|
  .cond (.t 40) (.seq (rg [(mv 41 11),(op 42 (.bin .add) [.t 41,(ic 1)]),(mv 11 42)] [41,42]) <|
  rg [(op 43 (.mks 1 [.str []] 2 [0,1]) [.c (.str [98,114]),.c (.str [105,109,103,32,97])]),(mv 44 0),(oS 45 (.call 27) [.t 44,(ic 2)]),(o2 46 (.ia 1) 43 45),(o1 47 ld1 46),(mv 48 11),(op 49 (.build [.int .i64 0,.str [],.int .i64 0] [(0,1),(1,1),(2,1)]) [(ic 4),.t 47,.t 48]),(tL 13 (.st 3) [.t 13,.t 49])] (rn 43 7 []))
  (.skip))
  (.seq (.seq (rg [(op 51 (.bin .eql) [.t 28,(ic 3)]),(mv 50 51)] [51]) <|
  .cond (.t 50) (.skip)
  (rg [(op 52 (.bin .eql) [.t 28,(ic 4)]),(mv 50 52)] [52])) <|
  .cond (.t 50) (.seq (rg [(mv 53 2)] []) <|
  .cond (.t 53) (.seq (rg [(mv 54 11),(op 55 (.bin .add) [.t 54,(ic 1)]),(mv 11 55)] [54,55]) <|
  .seq (rg [(op 56 (.mks 1 [.str []] 3 [0,1,2]) [.c (.str [98]),.c (.str [105]),.c (.str [97,32,104,61,49])]),(mv 57 0),(oS 58 (.call 27) [.t 57,(ic 3)]),(o2 59 (.ia 1) 56 58),(o1 60 ld1 59),(mv 61 11),(op 62 (.build [.int .i64 0,.str [],.int .i64 0] [(0,1),(1,1),(2,1)]) [(ic 2),.t 60,.t 61]),(tL 13 (.st 3) [.t 13,.t 62])] (rn 56 7 [])) <|
  rg [(mO 63 10),(oL 64 13 (.ld true 3) [.t 13]),(o1 65 (.mks 3 [.int .i64 0,.str [],.int .i64 0] 1 [0]) 64),(oD 66 (.app false 3 32) [.t 63,.t 65] 63),(mO 10 66)] [63,64,65,66])
  (.skip))
  (.seq (.seq (rg [(op 68 (.bin .eql) [.t 28,(ic 5)]),(mv 67 68)] [68]) <|
  .cond (.t 67) (.skip)
  (rg [(op 69 (.bin .eql) [.t 28,(ic 6)]),(mv 67 69)] [69,28])) <|
  .cond (.t 67) (.seq (rg [(mv 70 10),(o1 71 (.len false) 70),(op 72 (.bin .sub) [.t 71,(ic 1)]),(mv 14 72)] [70,71,72]) <|
  .seq (rg [(mv 73 14),(op 74 (.bin .geq) [.t 73,(ic 0)])] [73]) <|
  .cond (.t 74) (.seq (.seq (rg [(mv 75 3),(o1 76 (.un .not) 75)] [75]) <|
  .cond (.t 76) (rg [(mv 77 0),(mv 78 14),(op 79 (.bin .add) [.t 78,(ic 1)]),(oS 80 (.call 27) [.t 77,.t 79]),(mv 14 80)] [77,78,79,80])
  (.skip)) <|
  .seq (.reg true [] [(mv 81 10),(mv 82 14),(o2 83 (.ia 3) 81 82),(o1 84 (.fa 1) 83),(o1 85 ld1 84),(o1 86 (.call 56) 85),(mv 87 10),(mv 88 14),(o2 89 (.ia 3) 87 88),(o1 90 (.fa 2) 89),(o1 91 ld1 90),(op 92 (.build [.int .i64 0,.str [],.int .i64 0] [(0,1),(1,1),(2,1)]) [(ic 3),.t 86,.t 91]),(tL 13 (.st 3) [.t 13,.t 92])] (rn 81 12 [])) <|
  .reg true [] [(mv 93 10),(mv 94 14),(o2 95 (.slc false 3 false true) 93 94),(op 96 (.app false 3 32) [.c (.sl .full 3 []),.t 95]),(mv 97 10),(mv 98 14),(op 99 (.bin .add) [.t 98,(ic 1)]),(o2 100 (.slc false 3 true false) 97 99),(oD 101 (.app false 3 32) [.t 96,.t 100] 96),(mO 10 101)] (rn 93 9 [14]))
  (.seq (rg [(mv 102 2),(mv 103 102),(mG 104 3 103 true),(oG 105 (.un .not) [.t 104] 103 true),(op 106 .pick [.t 103,.t 105,bF])] [102,103,104,105]) <|
  .cond (.t 106) (.seq (rg [(mv 107 11),(op 108 (.bin .add) [.t 107,(ic 1)]),(mv 11 108)] [107,108]) <|
  rg [(mv 109 11),(op 110 (.build [.int .i64 0,.str [],.int .i64 0] [(0,1),(1,1),(2,1)]) [(ic 3),.c (.str [98]),.t 109]),(tL 13 (.st 3) [.t 13,.t 110])] [109,110])
  (.skip)))
  (.skip)))))) <|
  rg [(mv 111 9),(oL 112 13 (.ld true 3) [.t 13]),(o1 113 (.mks 3 [.int .i64 0,.str [],.int .i64 0] 1 [0]) 112),(oS 114 (.call 57) [.t 111,.t 113]),(mO 9 114)] [111,112,113,114,13])) <|
  rg [(mv 22 12),(op 23 (.bin .sub) [.t 22,(ic 1)]),(mv 12 23)] [22,23])
def L29_1:ACode:=
  .loop (rn 118 5 (rn 125 15 [123,124])) (.seq (.seq (rg [(mv 118 15),(op 119 (.bin .geq) [.t 118,(ic 0)]),(mv 120 119),(mG 121 3 120 true),(op 122 .pick [.t 120,.t 121,bF])] [118,119,120,121]) <|
  .cond (.t 122) (.skip)
  (.exit 3)) <|
  .seq (.block 4 (.reg true [] [(mO 125 9),(mv 126 10),(mv 127 15),(o2 128 (.ia 3) 126 127),(o1 129 (.fa 1) 128),(o1 130 ld1 129),(o1 131 (.call 56) 130),(mv 132 10),(mv 133 15),(o2 134 (.ia 3) 132 133),(o1 135 (.fa 2) 134),(o1 136 ld1 135),(op 137 (.build [.int .i64 0,.str [],.int .i64 0] [(0,1),(1,1),(2,1)]) [(ic 3),.t 131,.t 136]),(o1 138 (.mks 3 [.int .i64 0,.str [],.int .i64 0] 1 [0]) 137),(oS 139 (.appS false 3 32) [.t 125,.t 138]),(mO 9 139)] (rn 125 15 []))) <|
  rg [(mv 123 15),(op 124 (.bin .sub) [.t 123,(ic 1)]),(mv 15 124)] [123,124])
def F29:AFun:=
{nargs:=4,keep:=false,res:=[.tmp 8],body:=
  .seq (rg [(op 8 .mv [.c (.sl .full 3 [])])] [8]) <|
  .seq (rg [(op 9 .mv [.c (.sl .full 3 [])]),(op 10 .mv [.c (.sl .full 3 [])])] []) <|
  .seq (rg [(op 11 .mv [(ic 0)])] []) <|
  .seq (.seq (rg [(mv 16 0),(mv 17 1),(op 18 (.bin .add) [.t 17,(ic 1)]),(oS 19 (.call 27) [.t 16,.t 18]),(mv 12 19)] [16,17,18,19,1]) <|
  .block 0 (L29_0)) <|
  .seq (.seq (rg [(mv 115 10),(o1 116 (.len false) 115),(op 117 (.bin .sub) [.t 116,(ic 1)]),(mv 15 117)] [115,116,117]) <|
  .block 3 (L29_1)) <|
  .seq (rg [(mv 140 9),(mO 8 140)] [140,9]) <|
  .ret }
def L30_0:ACode:=
  .loop (11::12::6::13::14::15::16::7::(rn 17 28 [])) (.seq (rg [(o2 11 (.bin .lss) 10 9)] []) <|
  .seq (.cond (.t 11) (.skip)
  (.exit 0)) <|
  .seq (.block 1 (.seq (rg [(mv 12 10),(mv 6 12)] [12]) <|
  .seq (.reg false [7] [(mv 13 1),(mv 14 6),(o2 15 (.ia 3) 13 14),(o1 16 (.ld true 3) 15),(oL 7 7 (.alloc [.int .i64 0,.str [],.int .i64 0]) []),(tL 7 (.st 3) [.t 7,.t 16])] [13,14,15,16,6]) <|
  .seq (.seq (rg [(o1 17 (.fa 0) 7),(oL 18 7 ld1 [.t 17]),(op 19 (.bin .eql) [.t 18,(ic 1)])] [17,18]) <|
  .cond (.t 19) (.reg true [] [(o1 20 (.fa 1) 7),(oL 21 7 ld1 [.t 20]),(op 22 (.bin .add) [.c (.str [101,105,110,32]),.t 21]),(o1 23 (.fa 1) 7),(oL 24 7 ld1 [.t 23]),(op 25 (.mks 1 [.str []] 5 [0,1,2,3,4]) [.c (.str [114,111,116]),.c (.str [100,97,115,32,65,117,116,111]),.c (.str []),.t 22,.t 24]),(mv 26 0),(oS 27 (.call 27) [.t 26,(ic 5)]),(o2 28 (.ia 1) 25 27),(o1 29 ld1 28),(o1 30 (.fa 1) 7),(tL 7 (.st 1) [.t 30,.t 29])] (rn 20 11 []))
  (.seq (rg [(mv 31 0),(oS 32 (.call 27) [.t 31,(ic 3)]),(op 33 (.bin .eql) [.t 32,(ic 0)])] [31,32]) <|
  .cond (.t 33) (rg [(mv 34 5),(mv 35 0),(oS 36 (.call 55) [.t 35,(ic 2)]),(op 37 (.build [.int .i64 0,.str [],.int .i64 0] [(0,1),(1,1)]) [(ic 1),.t 36]),(o1 38 (.mks 3 [.int .i64 0,.str [],.int .i64 0] 1 [0]) 37),(o2 39 (.call 57) 34 38),(mO 5 39)] (rn 34 6 []))
  (.skip))) <|
  rg [(mv 40 5),(oL 41 7 (.ld true 3) [.t 7]),(o1 42 (.mks 3 [.int .i64 0,.str [],.int .i64 0] 1 [0]) 41),(o2 43 (.call 57) 40 42),(mO 5 43)] [40,41,42,43,7])) <|
  rg [(op 44 (.bin .add) [.t 10,(ic 1)]),(mv 10 44)] [44])
def F30:AFun:=
{nargs:=2,keep:=false,res:=[.tmp 4],body:=
  .seq (rg [(op 4 .mv [.c (.sl .full 3 [])])] [4]) <|
  .seq (rg [(op 5 .mv [.c (.sl .full 3 [])])] []) <|
  .seq (.seq (rg [(mv 8 1),(o1 9 (.len false) 8),(op 10 .mv [(ic 0)])] [8]) <|
  .block 0 (L30_0)) <|
  .seq (rg [(mv 45 5),(mO 4 45)] [45,5]) <|
  .ret }
def F31:AFun:=
{nargs:=2,keep:=false,res:=[.tmp 4,.tmp 5],body:=
  .seq (rg [(op 4 .mv [.c (.sl .full 3 [])]),(op 5 .mv [.c (.sl .full 3 [])])] [4,5]) <|
  .seq (rg [(mv 8 0),(op 9 (.app false 3 32) [.c (.sl .full 3 []),.t 8]),(mv 10 1),(oD 11 (.app false 3 32) [.t 9,.t 10] 9),(o1 12 (.call 58) 11),(mO 6 12)] (rn 8 5 [])) <|
  .seq (rg [(mv 13 6),(o1 14 (.len false) 13),(o1 15 (.call 59) 14),(mO 7 15)] [13,14,15]) <|
  .seq (rg [(mv 16 0),(mv 17 6),(mv 18 7),(op 19 (.call 60) [.t 16,.t 17,.t 18]),(mv 20 1),(mv 21 6),(mv 22 7),(op 23 (.call 60) [.t 20,.t 21,.t 22]),(mO 4 19),(mO 5 23)] (rn 16 8 [0,6,7,1])) <|
  .ret }
def L32_0:ACode:=
  .loop [15,16,17,18,5,4,19,20,6,21,22,23,2,24,25,7,26,27,28,29,30,8,31,32,33,34,35] (.seq (rg [(o2 15 (.bin .lss) 14 13)] []) <|
  .seq (.cond (.t 15) (.skip)
  (.exit 0)) <|
  .seq (.block 1 (.seq (.reg false [5] [(mv 16 14),(o2 17 (.ia 8) 12 14),(o1 18 (.ld true 8) 17),(oL 5 5 (.alloc [.sl .full 3 [],.sl .full 3 [],.str [],.str [],.str [],.str [],.int .i64 0,.int .i64 0]) []),(mv 4 16),(tL 5 (.st 8) [.t 5,.t 18])] [16,17,18]) <|
  .seq (.seq (rg [(oL 19 5 (.ld true 8) [.t 5]),(o1 20 (.call 61) 19),(mv 6 20)] [19,20]) <|
  .seq (rg [(mv 21 6),(op 22 (.bin .neq) [.t 21,(ic 0)])] [21]) <|
  .cond (.t 22) (.seq (rg [(mv 23 6),(mv 2 23)] [23,6]) <|
  .ret)
  (.skip)) <|
  .seq (rg [(oL 24 5 (.ld true 8) [.t 5]),(o1 25 (.call 62) 24),(mv 7 25)] [24,25,5]) <|
  .seq (.seq (rg [(mv 26 4),(op 27 (.bin .gtr) [.t 26,(ic 0)])] [26,4]) <|
  .cond (.t 27) (.seq (rg [(mv 28 3),(mv 29 7),(o2 30 (.call 63) 28 29),(mv 8 30)] [28,29,30,3]) <|
  .seq (rg [(mv 31 8),(op 32 (.bin .neq) [.t 31,(ic 0)])] [31]) <|
  .cond (.t 32) (.seq (rg [(mv 33 8),(mv 2 33)] [33,8]) <|
  .ret)
  (.skip))
  (.skip)) <|
  rg [(mv 34 7),(mv 3 34)] [34,7])) <|
  rg [(op 35 (.bin .add) [.t 14,(ic 1)]),(mv 14 35)] [35])
def F32:AFun:=
{nargs:=1,keep:=false,res:=[.tmp 2],body:=
  .seq (rg [(op 2 .mv [(ic 0)])] [2]) <|
  .seq (.seq (rg [(mv 9 0),(o1 10 (.len false) 9),(op 11 (.bin .gtr) [.t 10,(ic 1024)])] [9,10]) <|
  .cond (.t 11) (.seq (rg [(op 2 .mv [(ic 3)])] []) <|
  .ret)
  (.skip)) <|
  .seq (rg [(op 3 .mv [.c (.str [])])] []) <|
  .seq (.seq (rg [(mv 12 0),(o1 13 (.len false) 12),(op 14 .mv [(ic 0)])] [0]) <|
  .block 0 (L32_0)) <|
  .seq (rg [(op 2 .mv [(ic 0)])] []) <|
  .ret }
def F34:AFun:=
{nargs:=1,keep:=false,res:=[.tmp 2],body:=
  .seq (rg [(op 2 .mv [.c (.str [])])] [2]) <|
  .seq (rg [(mv 3 0),(o1 4 (.call 65) 3),(mv 2 4)] [3,4,0]) <|
  .ret }
def L38_0:ACode:=
  .loop (8::9::10::11::(rn 14 8 [4,22,23,24,2,12,13])) (.seq (.seq (rg [(mv 8 3),(mv 9 0),(o1 10 (.len false) 9),(o2 11 (.bin .lss) 8 10)] [8,9,10]) <|
  .cond (.t 11) (.skip)
  (.exit 0)) <|
  .seq (.block 1 (.seq (.reg true [] [(mv 14 0),(mv 15 3),(o2 16 (.slc false 8 false true) 14 15),(mv 17 0),(mv 18 3),(o2 19 (.ia 8) 17 18),(o1 20 (.ld true 8) 19),(o2 21 (.call 69) 16 20),(mv 4 21)] (rn 14 8 [])) <|
  .seq (rg [(mv 22 4),(op 23 (.bin .neq) [.t 22,(ic 0)])] [22]) <|
  .cond (.t 23) (.seq (rg [(mv 24 4),(mv 2 24)] [24,4]) <|
  .ret)
  (.skip))) <|
  rg [(mv 12 3),(op 13 (.bin .add) [.t 12,(ic 1)]),(mv 3 13)] [12,13])
def F38:AFun:=
{nargs:=1,keep:=false,res:=[.tmp 2],body:=
  .seq (rg [(op 2 .mv [(ic 0)])] [2]) <|
  .seq (.seq (rg [(mv 5 0),(o1 6 (.len false) 5),(op 7 (.bin .gtr) [.t 6,(ic 1024)])] [5,6]) <|
  .cond (.t 7) (.seq (rg [(op 2 .mv [(ic 3)])] []) <|
  .ret)
  (.skip)) <|
  .seq (.seq (rg [(op 3 .mv [(ic 0)])] []) <|
  .block 0 (L38_0)) <|
  .seq (rg [(op 2 .mv [(ic 0)])] []) <|
  .ret }
def F39:AFun:=
{nargs:=1,keep:=false,res:=[.tmp 2],body:=
  .seq (.reg false [1] [(oL 1 1 (.box 8) [.t 0]),(op 2 .mv [.c (.sl .full 1 [])])] [2,0]) <|
  .seq (rg [(o1 9 (.fa 0) 1),(oL 10 1 ld1 [.t 9]),(o1 11 (.call 70) 10),(mv 8 11),(o1 12 (.ext 0) 8),(o1 13 (.ext 1) 8),(mv 3 12),(mv 4 13)] [9,10,11,8,12,13,4]) <|
  .seq (rg [(o1 15 (.fa 1) 1),(oL 16 1 ld1 [.t 15]),(o1 17 (.call 70) 16),(mv 14 17),(o1 18 (.ext 0) 14),(o1 19 (.ext 1) 14),(mv 5 18),(mv 6 19)] [15,16,17,14,18,19,6]) <|
  .seq (rg [(op 7 .mv [.c (.str [])])] []) <|
  .seq (.seq (rg [(o1 20 (.fa 6) 1),(oL 21 1 ld1 [.t 20]),(op 22 (.bin .gtr) [.t 21,(ic 0)])] [20,21]) <|
  .cond (.t 22) (rg [(o1 23 (.fa 6) 1),(oL 24 1 ld1 [.t 23]),(o1 25 (.call 23) 24),(mv 7 25)] [23,24,25])
  (.skip)) <|
  .seq (.reg true [] [(mv 26 3),(mv 27 5),(o1 28 (.fa 2) 1),(oL 29 1 ld1 [.t 28]),(o1 30 (.fa 3) 1),(oL 31 1 ld1 [.t 30]),(o1 32 (.fa 4) 1),(oL 33 1 ld1 [.t 32]),(o1 34 (.fa 5) 1),(oL 35 1 ld1 [.t 34]),(mv 36 7),(op 37 (.call 71) []),(o1 38 (.fa 7) 1),(oL 39 1 ld1 [.t 38]),(op 40 (.bin .sub) [.t 39,(ic 1)]),(o2 41 (.ia 1) 37 40),(o1 42 ld1 41),(op 43 (.mks 1 [.str []] 8 [0,1,2,3,4,5,6,7]) [.t 26,.t 27,.t 29,.t 31,.t 33,.t 35,.t 36,.t 42]),(mO 2 43)] (rn 26 18 [3,5,1,7])) <|
  .ret }
def F40:AFun:=
{nargs:=0,keep:=false,res:=[.tmp 0],body:=
  .seq (rg [(op 0 .mv [.c (.sl .full 1 [])])] [0]) <|
  .seq (rg [(op 1 (.mks 1 [.str []] 8 [0,1,2,3,4,5,6,7]) [.c (.str [115,111,117,114,99,101]),.c (.str [116,97,114,103,101,116]),.c (.str [112,114,101,118,105,111,117,115]),.c (.str [110,101,120,116]),.c (.str [97,117,116,104,111,114]),.c (.str [112,114,111,106,101,99,116]),.c (.str [99,114,101,97,116,101,100]),.c (.str [111,114,105,103,105,110])]),(mO 0 1)] [1]) <|
  .ret }
def L41_0:ACode:=
  .loop (81::82::83::84::17::18::(rn 86 7 [85,93,94,19,20,95,96,97,98])) (.seq (rg [(o2 81 (.bin .lss) 80 79)] []) <|
  .seq (.cond (.t 81) (.skip)
  (.exit 2)) <|
  .seq (.block 3 (.seq (rg [(mv 82 80),(o2 83 (.ia 1) 78 80),(o1 84 ld1 83),(mv 17 82),(mv 18 84)] [82,83,84]) <|
  .seq (rg [(mv 86 5),(mv 87 14),(o2 88 (.ia 1) 86 87),(o1 89 ld1 88),(mv 90 18),(op 91 (.bin .add) [.t 90,.c (.str [32])]),(o2 92 (.call 22) 89 91),(mv 85 92),(o1 93 (.ext 0) 85),(o1 94 (.ext 1) 85),(mv 19 93),(mv 20 94)] (rn 86 7 [85,93,94,18])) <|
  .seq (rg [(mv 95 20)] [20]) <|
  .cond (.t 95) (rg [(mv 96 17),(mv 97 19),(mv 15 96),(mv 16 97)] [96,97,17,19])
  (.skip))) <|
  rg [(op 98 (.bin .add) [.t 80,(ic 1)]),(mv 80 98)] [98])
def L41_1:ACode:=
  .loop (61::62::63::64::(rn 67 11 (2::3::4::15::16::(rn 78 7 (17::18::(rn 86 7 (85::93::94::19::20::(rn 95 33 (21::(rn 128 11 (22::(rn 139 9 [65,66])))))))))))) (.seq (.seq (rg [(mv 61 14),(mv 62 5),(o1 63 (.len false) 62),(o2 64 (.bin .lss) 61 63)] [61,62,63]) <|
  .cond (.t 64) (.skip)
  (.exit 0)) <|
  .seq (.block 1 (.seq (.seq (rg [(mv 67 14),(mv 68 5),(o1 69 (.len false) 68),(op 70 (.bin .sub) [.t 69,(ic 1)]),(o2 71 (.bin .eql) 67 70),(mv 72 71),(mG 73 6 72 true),(oG 74 (.un .not) [.t 73] 72 true),(op 75 .pick [.t 72,.t 74,bF])] (rn 67 8 [])) <|
  .cond (.t 75) (.seq (rg [(mv 76 14),(op 77 (.bin .add) [.t 76,(ic 1)]),(op 2 .mv [.c (.sl .full 8 [])]),(mv 3 77),(op 4 .mv [(ic 2)])] [76,77,14]) <|
  .ret)
  (.skip)) <|
  .seq (rg [(op 15 .mv [(ic (-1))]),(op 16 .mv [.c (.str [])])] []) <|
  .seq (.seq (rg [(op 78 (.call 40) []),(o1 79 (.len false) 78),(op 80 .mv [(ic 0)])] []) <|
  .block 2 (L41_0)) <|
  .seq (.seq (rg [(mv 99 15),(op 100 (.bin .lss) [.t 99,(ic 0)]),(mv 101 100),(mG 102 13 101 false),(oG 103 (.bin .lss) [.t 102,(ic 1)] 101 false),(mG 104 103 101 false),(mG 105 15 104 true),(mG 106 13 104 true),(oG 107 (.bin .add) [.t 106,(ic 1)] 104 true),(oG 108 (.bin .neq) [.t 105,.t 107] 104 true),(oG 109 .pick [.t 104,.t 108,bF] 101 false),(op 110 .pick [.t 101,bT,.t 109]),(mv 111 110),(mG 112 13 111 false),(oG 113 (.bin .geq) [.t 112,(ic 1)] 111 false),(mG 114 113 111 false),(mG 115 15 114 true),(mG 116 13 114 true),(oG 117 (.bin .leq) [.t 115,.t 116] 114 true),(oG 118 .pick [.t 114,.t 117,bF] 111 false),(op 119 .pick [.t 111,bT,.t 118])] (rn 99 20 [])) <|
  .cond (.t 119) (.seq (rg [(mv 120 14),(op 121 (.bin .add) [.t 120,(ic 1)]),(op 2 .mv [.c (.sl .full 8 [])]),(mv 3 121),(op 4 .mv [(ic 2)])] [120,121,14]) <|
  .ret)
  (.skip)) <|
  .seq (.seq (rg [(mv 122 13),(op 123 (.bin .lss) [.t 122,(ic 0)])] [122,13]) <|
  .cond (.t 123) (rg [(op 124 (.build ze8 []) []),(tS (.st 8) [.t 12,.t 124])] [124])
  (.skip)) <|
  .seq (.seq (rg [(mv 125 15),(mv 126 16),(oS 127 (.call 73) [.t 12,.t 125,.t 126]),(mv 21 127)] [125,126,127,16]) <|
  .seq (rg [(mv 128 21),(op 129 (.bin .neq) [.t 128,(ic 0)])] [128]) <|
  .cond (.t 129) (.seq (rg [(mv 130 14),(op 131 (.bin .add) [.t 130,(ic 1)]),(mv 132 21),(op 2 .mv [.c (.sl .full 8 [])]),(mv 3 131),(mv 4 132)] [130,131,132,14,21]) <|
  .ret)
  (.skip)) <|
  .seq (rg [(mv 133 15),(mv 13 133)] [133]) <|
  .seq (rg [(mv 134 15),(op 135 (.bin .eql) [.t 134,(ic 7)])] [134,15]) <|
  .cond (.t 135) (.seq (.seq (rg [(mv 136 11),(oS 137 (.ld true 8) [.t 12]),(o2 138 (.call 69) 136 137),(mv 22 138)] [136,137,138]) <|
  .seq (rg [(mv 139 22),(op 140 (.bin .neq) [.t 139,(ic 0)])] [139]) <|
  .cond (.t 140) (.seq (rg [(mv 141 14),(op 142 (.bin .add) [.t 141,(ic 1)]),(mv 143 22),(op 2 .mv [.c (.sl .full 8 [])]),(mv 3 142),(mv 4 143)] [141,142,143,14,22]) <|
  .ret)
  (.skip)) <|
  .seq (rg [(mO 144 11),(oS 145 (.ld true 8) [.t 12]),(o1 146 (.mks 8 [.sl .full 3 [],.sl .full 3 [],.str [],.str [],.str [],.str [],.int .i64 0,.int .i64 0] 1 [0]) 145),(oD 147 (.app false 8 128) [.t 144,.t 146] 144),(mO 11 147)] [144,145,146,147]) <|
  rg [(op 13 .mv [(ic (-1))])] [])
  (.skip))) <|
  rg [(mv 65 14),(op 66 (.bin .add) [.t 65,(ic 1)]),(mv 14 66)] [65,66])
def F41:AFun:=
{nargs:=1,keep:=false,res:=[.tmp 2,.tmp 3,.tmp 4],body:=
  .seq (rg [(op 2 .mv [.c (.sl .full 8 [])]),(op 3 .mv [(ic 0)]),(op 4 .mv [(ic 0)])] [2,3,4]) <|
  .seq (.seq (rg [(mv 23 0),(o1 24 (.len true) 23),(op 25 (.bin .gtr) [.t 24,(ic 1048576)])] [23,24]) <|
  .cond (.t 25) (.seq (rg [(op 2 .mv [.c (.sl .full 8 [])]),(op 3 .mv [(ic 0)]),(op 4 .mv [(ic 3)])] []) <|
  .ret)
  (.skip)) <|
  .seq (rg [(mv 27 0),(o1 28 (.call 20) 27),(mv 26 28),(o1 29 (.ext 0) 26),(o1 30 (.ext 1) 26),(mO 5 29),(mv 6 30)] [27,28,26,29,30,0]) <|
  .seq (.seq (rg [(mv 31 5),(o1 32 (.len false) 31),(op 33 (.bin .eql) [.t 32,(ic 0)]),(mv 34 33),(mG 35 5 34 false),(oG 36 (.len false) [.t 35] 34 false),(oG 37 (.bin .eql) [.t 36,(ic 1)] 34 false),(mG 38 37 34 false),(mG 39 6 38 true),(oG 40 (.un .not) [.t 39] 38 true),(oG 41 .pick [.t 38,.t 40,bF] 34 false),(op 42 .pick [.t 34,bT,.t 41])] (rn 31 11 [])) <|
  .cond (.t 42) (.seq (rg [(op 2 .mv [.c (.sl .full 8 [])]),(op 3 .mv [(ic 1)]),(op 4 .mv [(ic 2)])] []) <|
  .ret)
  (.skip)) <|
  .seq (rg [(mv 44 5),(op 45 (.ia 1) [.t 44,(ic 0)]),(o1 46 ld1 45),(op 47 (.call 22) [.t 46,.c (.str [98,105,116,101,120,116,45,109,101,109,111,114,121,32])]),(mv 43 47),(o1 48 (.ext 0) 43),(o1 49 (.ext 1) 43),(mv 7 48),(mv 8 49)] [44,45,46,47,43,48,49]) <|
  .seq (rg [(mv 51 7),(op 52 (.call 72) [.t 51,(ic 1024)]),(mv 50 52),(o1 53 (.ext 0) 50),(o1 54 (.ext 1) 50),(mv 9 53),(mv 10 54)] [51,52,50,53,54,7]) <|
  .seq (.seq (rg [(mv 55 8),(o1 56 (.un .not) 55),(mv 57 56),(mG 58 10 57 false),(oG 59 (.un .not) [.t 58] 57 false),(op 60 .pick [.t 57,bT,.t 59])] (rn 55 5 [8,10])) <|
  .cond (.t 60) (.seq (rg [(op 2 .mv [.c (.sl .full 8 [])]),(op 3 .mv [(ic 1)]),(op 4 .mv [(ic 2)])] []) <|
  .ret)
  (.skip)) <|
  .seq (rg [(op 11 .mv [.c (.sl .full 8 [])])] []) <|
  .seq (rg [(oS 12 (.allocS [.sl .full 3 [],.sl .full 3 [],.str [],.str [],.str [],.str [],.int .i64 0,.int .i64 0]) [])] []) <|
  .seq (rg [(op 13 .mv [(ic (-1))])] []) <|
  .seq (.seq (rg [(op 14 .mv [(ic 1)])] []) <|
  .block 0 (L41_1)) <|
  .seq (.seq (rg [(mv 148 13),(op 149 (.bin .geq) [.t 148,(ic 0)])] [148,13]) <|
  .cond (.t 149) (.seq (rg [(mv 150 5),(o1 151 (.len false) 150),(op 152 (.bin .add) [.t 151,(ic 1)]),(op 2 .mv [.c (.sl .full 8 [])]),(mv 3 152),(op 4 .mv [(ic 2)])] [150,151,152,5]) <|
  .ret)
  (.skip)) <|
  .seq (.seq (rg [(mv 153 11),(o1 154 (.len false) 153),(mv 155 9),(o2 156 (.bin .neq) 154 155)] [153,154,155,9]) <|
  .cond (.t 156) (.seq (rg [(op 2 .mv [.c (.sl .full 8 [])]),(op 3 .mv [(ic 1)]),(op 4 .mv [(ic 2)])] []) <|
  .ret)
  (.skip)) <|
  .seq (rg [(mv 157 11),(mO 2 157),(op 3 .mv [(ic 0)]),(op 4 .mv [(ic 0)])] [157,11]) <|
  .ret }
def F42:AFun:=
{nargs:=2,keep:=false,res:=[.tmp 4,.tmp 5,.tmp 6],body:=
  .seq (rg [(op 4 .mv [.c (.str [])]),(op 5 .mv [.c (.str [])]),(op 6 .mv [bF])] [4,5,6]) <|
  .seq (rg [(mv 7 0),(mv 8 1),(o2 9 (.call 74) 7 8),(o1 10 (.ext 0) 9),(o1 11 (.ext 1) 9),(o1 12 (.ext 2) 9),(mv 4 10),(mv 5 11),(mv 6 12)] (rn 7 6 [0,1])) <|
  .ret }
def F43:AFun:=
{nargs:=2,keep:=false,res:=[.tmp 4,.tmp 5],body:=
  .seq (rg [(op 4 .mv [.c (.str [])]),(op 5 .mv [bF])] [4,5]) <|
  .seq (rg [(mv 6 0),(mv 7 1),(o2 8 (.call 75) 6 7),(o1 9 (.ext 0) 8),(o1 10 (.ext 1) 8),(mv 4 9),(mv 5 10)] (rn 6 5 [0,1])) <|
  .ret }
def L44_0:ACode:=
  .loop (28::29::7::(rn 30 10 (4::5::(rn 40 9 [])))) (.seq (rg [(o2 28 (.bin .lss) 27 26)] []) <|
  .seq (.cond (.t 28) (.skip)
  (.exit 0)) <|
  .seq (.block 1 (.seq (rg [(mv 29 27),(mv 7 29)] [29]) <|
  .seq (.seq (rg [(mv 30 0),(mv 31 7),(o2 32 .ixs 30 31),(op 33 (.bin .lss) [.t 32,.c (.int .u8 48)]),(mv 34 33),(mG 35 0 34 false),(mG 36 7 34 false),(oG 37 .ixs [.t 35,.t 36] 34 false),(oG 38 (.bin .gtr) [.t 37,.c (.int .u8 57)] 34 false),(op 39 .pick [.t 34,bT,.t 38])] (rn 30 9 [])) <|
  .cond (.t 39) (.seq (rg [(op 4 .mv [(ic 0)]),(op 5 .mv [bF])] []) <|
  .ret)
  (.skip)) <|
  rg [(mv 40 6),(op 41 (.bin .mul) [(ic 10),.t 40]),(mv 42 0),(mv 43 7),(o2 44 .ixs 42 43),(op 45 (.bin .sub) [.t 44,.c (.int .u8 48)]),(o1 46 (.cvi .i64) 45),(o2 47 (.bin .add) 41 46),(mv 6 47)] (rn 40 8 [7]))) <|
  rg [(op 48 (.bin .add) [.t 27,(ic 1)]),(mv 27 48)] [48])
def F44:AFun:=
{nargs:=2,keep:=false,res:=[.tmp 4,.tmp 5],body:=
  .seq (rg [(op 4 .mv [(ic 0)]),(op 5 .mv [bF])] [4,5]) <|
  .seq (.seq (rg [(mv 8 0),(op 9 (.bin .eql) [.t 8,.c (.str [])]),(mv 10 9),(mG 11 0 10 false),(oG 12 (.len true) [.t 11] 10 false),(oG 13 (.bin .gtr) [.t 12,(ic 10)] 10 false),(op 14 .pick [.t 10,bT,.t 13]),(mv 15 14),(mG 16 0 15 false),(oG 17 (.len true) [.t 16] 15 false),(oG 18 (.bin .gtr) [.t 17,(ic 1)] 15 false),(mG 19 18 15 false),(mG 20 0 19 true),(oG 21 .ixs [.t 20,(ic 0)] 19 true),(oG 22 (.bin .eql) [.t 21,.c (.int .u8 48)] 19 true),(oG 23 .pick [.t 19,.t 22,bF] 15 false),(op 24 .pick [.t 15,bT,.t 23])] (rn 8 16 [])) <|
  .cond (.t 24) (.seq (rg [(op 4 .mv [(ic 0)]),(op 5 .mv [bF])] []) <|
  .ret)
  (.skip)) <|
  .seq (rg [(op 6 .mv [(ic 0)])] []) <|
  .seq (.seq (rg [(mv 25 0),(o1 26 (.len true) 25),(op 27 .mv [(ic 0)])] [25]) <|
  .block 0 (L44_0)) <|
  .seq (rg [(mv 49 6),(mv 50 6),(mv 51 1),(o2 52 (.bin .leq) 50 51),(mv 4 49),(mv 5 52)] [49,50,51,52,6,1]) <|
  .ret }
def L45_0:ACode:=
  .loop [20,21,22,9,10,23,24,25,26,27] (.seq (rg [(op 20 (.bin .lss) [.t 19,(ic 8)])] []) <|
  .seq (.cond (.t 20) (.skip)
  (.exit 0)) <|
  .seq (.block 1 (.seq (rg [(mv 21 19),(o2 22 (.ixA false 1 8) 18 19),(mv 9 21),(mv 10 22)] [21,22]) <|
  .seq (rg [(mv 23 10),(mv 24 5),(o2 25 (.bin .eql) 23 24)] [23,24,10]) <|
  .cond (.t 25) (rg [(mv 26 9),(mv 8 26)] [26,9])
  (.skip))) <|
  rg [(op 27 (.bin .add) [.t 19,(ic 1)]),(mv 19 27)] [27])
def F45:AFun:=
{nargs:=2,keep:=false,res:=[.tmp 4],body:=
  .seq (rg [(op 4 .mv [(ic 0)])] [4]) <|
  .seq (rg [(mv 13 1),(op 14 (.call 42) [.t 13,.c (.str [32])]),(mv 12 14),(o1 15 (.ext 0) 12),(o1 16 (.ext 1) 12),(o1 17 (.ext 2) 12),(mv 5 15),(mv 6 16),(mv 7 17)] [13,14,12,15,16,17,1]) <|
  .seq (rg [(op 8 .mv [(ic (-1))])] []) <|
  .seq (.seq (rg [(op 18 (.call 68) []),(op 19 .mv [(ic 0)])] []) <|
  .block 0 (L45_0)) <|
  .seq (.seq (rg [(mv 28 7),(o1 29 (.un .not) 28),(mv 30 29),(mG 31 8 30 false),(oG 32 (.bin .lss) [.t 31,(ic 0)] 30 false),(op 33 .pick [.t 30,bT,.t 32]),(mv 34 33),(mG 35 0 34 false),(mG 36 8 34 false),
  ⟨(some 37),(.call 76),[.t 35,.t 36],.sh,none,(some (34,false))⟩,
  (oG 38 (.un .not) [.t 37] 34 false),(op 39 .pick [.t 34,bT,.t 38]),(mv 40 39),(mG 41 6 40 false),(oG 42 (.bin .eql) [.t 41,.c (.str [])] 40 false),(mG 43 42 40 false),(mG 44 8 43 true),(oG 45 (.bin .geq) [.t 44,(ic 2)] 43 true),(oG 46 .pick [.t 43,.t 45,bF] 40 false),(op 47 .pick [.t 40,bT,.t 46])] (rn 28 19 [7])) <|
  .cond (.t 47) (.seq (rg [(op 4 .mv [(ic 2)])] []) <|
  .ret)
  (.skip)) <|
  .seq (.seq (rg [(mv 48 0),(mv 49 8),(mv 50 6),(oS 51 (.call 77) [.t 48,.t 49,.t 50]),(mv 11 51)] [48,49,50,51,6]) <|
  .seq (rg [(mv 52 11),(op 53 (.bin .neq) [.t 52,(ic 0)])] [52]) <|
  .cond (.t 53) (.seq (rg [(mv 54 11),(mv 4 54)] [54,11]) <|
  .ret)
  (.skip)) <|
  .seq (rg [(mv 55 0),(mv 56 8),(op 57 (.bin .add) [.t 56,(ic 1)]),(o1 58 .nilc 55),(o1 59 (.fa 10) 58),(tS (.st 1) [.t 59,.t 57])] (rn 55 5 [])) <|
  .seq (.seq (rg [(mv 60 8),(op 61 (.bin .eql) [.t 60,(ic 7)])] [60,8]) <|
  .cond (.t 61) (.seq (rg [(mv 62 0),(oS 63 (.call 78) [.t 62]),(mv 4 63)] [62,63,0]) <|
  .ret)
  (.skip)) <|
  .seq (rg [(op 4 .mv [(ic 0)])] []) <|
  .ret }
def L46_0:ACode:=
  .loop (rn 4 13 [2]) (.block 1 (.seq (rg [(mv 4 0),(op 5 (.bin .rem) [.t 4,(ic 10)]),(op 6 (.bin .add) [(ic 48),.t 5]),(o1 7 (.cvi .u8) 6),(o1 8 (.mks 1 [.int .u8 0] 1 [0]) 7),(o1 9 .b2s 8),(mv 10 3),(o2 11 (.bin .add) 9 10),(mv 3 11)] (rn 4 8 [])) <|
  .seq (rg [(mv 12 0),(op 13 (.bin .quo) [.t 12,(ic 10)]),(mv 0 13)] [12,13]) <|
  .seq (rg [(mv 14 0),(op 15 (.bin .eql) [.t 14,(ic 0)])] [14]) <|
  .cond (.t 15) (.seq (rg [(mv 16 3),(mv 2 16)] [16,3]) <|
  .ret)
  (.skip)))
def F46:AFun:=
{nargs:=1,keep:=false,res:=[.tmp 2],body:=
  .seq (rg [(op 2 .mv [.c (.str [])])] [2]) <|
  .seq (rg [(op 3 .mv [.c (.str [])])] []) <|
  .block 0 (L46_0) }
def F47:AFun:=
{nargs:=2,keep:=false,res:=[.tmp 4],body:=
  .seq (.reg false [2,3] [(oL 2 2 (.box 8) [.t 0]),(oL 3 3 (.box 8) [.t 1]),(op 4 .mv [bF])] [4,0,1]) <|
  .seq (rg [(o1 5 (.fa 0) 2),(oL 6 2 ld1 [.t 5]),(o1 7 (.fa 0) 3),(oL 8 3 ld1 [.t 7]),(o2 9 (.call 79) 6 8),(mv 10 9),(oG 11 (.fa 1) [.t 2] 10 true),(oH 12 2 ld1 [.t 11] 10 true),(oG 13 (.fa 1) [.t 3] 10 true),(oH 14 3 ld1 [.t 13] 10 true),(oG 15 (.call 79) [.t 12,.t 14] 10 true),(op 16 .pick [.t 10,.t 15,bF]),(mv 17 16),(oG 18 (.fa 2) [.t 2] 17 true),(oH 19 2 ld1 [.t 18] 17 true),(oG 20 (.fa 2) [.t 3] 17 true),(oH 21 3 ld1 [.t 20] 17 true),(oG 22 (.bin .eql) [.t 19,.t 21] 17 true),(op 23 .pick [.t 17,.t 22,bF]),(mv 24 23),(oG 25 (.fa 3) [.t 2] 24 true),(oH 26 2 ld1 [.t 25] 24 true),(oG 27 (.fa 3) [.t 3] 24 true),(oH 28 3 ld1 [.t 27] 24 true),(oG 29 (.bin .eql) [.t 26,.t 28] 24 true),(op 30 .pick [.t 24,.t 29,bF]),(mv 31 30),(oG 32 (.fa 4) [.t 2] 31 true),(oH 33 2 ld1 [.t 32] 31 true),(oG 34 (.fa 4) [.t 3] 31 true),(oH 35 3 ld1 [.t 34] 31 true),(oG 36 (.bin .eql) [.t 33,.t 35] 31 true),(op 37 .pick [.t 31,.t 36,bF]),(mv 38 37),(oG 39 (.fa 5) [.t 2] 38 true),(oH 40 2 ld1 [.t 39] 38 true),(oG 41 (.fa 5) [.t 3] 38 true),(oH 42 3 ld1 [.t 41] 38 true),(oG 43 (.bin .eql) [.t 40,.t 42] 38 true),(op 44 .pick [.t 38,.t 43,bF]),(mv 45 44),(oG 46 (.fa 6) [.t 2] 45 true),(oH 47 2 ld1 [.t 46] 45 true),(oG 48 (.fa 6) [.t 3] 45 true),(oH 49 3 ld1 [.t 48] 45 true),(oG 50 (.bin .eql) [.t 47,.t 49] 45 true),(op 51 .pick [.t 45,.t 50,bF]),(mv 52 51),(oG 53 (.fa 7) [.t 2] 52 true),(oH 54 2 ld1 [.t 53] 52 true),(oG 55 (.fa 7) [.t 3] 52 true),(oH 56 3 ld1 [.t 55] 52 true),(oG 57 (.bin .eql) [.t 54,.t 56] 52 true),(op 58 .pick [.t 52,.t 57,bF]),(mv 4 58)] (rn 5 54 [2,3])) <|
  .ret }
def L50_0:ACode:=
  .loop (12::13::4::(rn 14 5 (5::(rn 19 11 [2,30,31])))) (.seq (rg [(o2 12 (.bin .lss) 11 10)] []) <|
  .seq (.cond (.t 12) (.skip)
  (.exit 0)) <|
  .seq (.block 1 (.seq (rg [(mv 13 11),(mv 4 13)] [13]) <|
  .seq (rg [(mv 14 0),(mv 15 4),(o2 16 (.ia 8) 14 15),(o1 17 (.ld true 8) 16),(o1 18 (.call 53) 17),(mv 5 18)] (rn 14 5 [])) <|
  .seq (.seq (rg [(mv 19 5),(op 20 (.bin .eql) [.t 19,.c (.str [])]),(mv 21 20),(mG 22 4 21 false),(oG 23 (.bin .gtr) [.t 22,(ic 0)] 21 false),(mG 24 23 21 false),(mG 25 5 24 true),(mG 26 3 24 true),(oG 27 (.bin .leq) [.t 25,.t 26] 24 true),(oG 28 .pick [.t 24,.t 27,bF] 21 false),(op 29 .pick [.t 21,bT,.t 28])] (rn 19 10 [4,3])) <|
  .cond (.t 29) (.seq (rg [(op 2 .mv [bF])] []) <|
  .ret)
  (.skip)) <|
  rg [(mv 30 5),(mv 3 30)] [30,5])) <|
  rg [(op 31 (.bin .add) [.t 11,(ic 1)]),(mv 11 31)] [31])
def F50:AFun:=
{nargs:=1,keep:=false,res:=[.tmp 2],body:=
  .seq (rg [(op 2 .mv [bF])] [2]) <|
  .seq (.seq (rg [(mv 6 0),(o1 7 (.len false) 6),(op 8 (.bin .gtr) [.t 7,(ic 1024)])] [6,7]) <|
  .cond (.t 8) (.seq (rg [(op 2 .mv [bF])] []) <|
  .ret)
  (.skip)) <|
  .seq (rg [(op 3 .mv [.c (.str [])])] []) <|
  .seq (.seq (rg [(mv 9 0),(o1 10 (.len false) 9),(op 11 .mv [(ic 0)])] [9]) <|
  .block 0 (L50_0)) <|
  .seq (rg [(op 2 .mv [bT])] []) <|
  .ret }
def F51:AFun:=
{nargs:=1,keep:=false,res:=[.tmp 2],body:=
  .seq (.reg false [1] [(oL 1 1 (.box 8) [.t 0]),(op 2 .mv [(ic 0)])] [2,0]) <|
  .seq (.seq (rg [(o1 13 (.fa 0) 1),(oL 14 1 ld1 [.t 13]),(o1 15 (.call 84) 14),(mv 3 15)] [13,14,15]) <|
  .seq (rg [(mv 16 3),(op 17 (.bin .neq) [.t 16,(ic 0)])] [16]) <|
  .cond (.t 17) (.seq (rg [(mv 18 3),(mv 2 18)] [18,3]) <|
  .ret)
  (.skip)) <|
  .seq (.seq (rg [(o1 19 (.fa 1) 1),(oL 20 1 ld1 [.t 19]),(o1 21 (.call 84) 20),(mv 4 21)] [19,20,21]) <|
  .seq (rg [(mv 22 4),(op 23 (.bin .neq) [.t 22,(ic 0)])] [22]) <|
  .cond (.t 23) (.seq (rg [(mv 24 4),(mv 2 24)] [24,4]) <|
  .ret)
  (.skip)) <|
  .seq (rg [(o1 26 (.fa 0) 1),(oL 27 1 ld1 [.t 26]),(o1 28 (.fa 1) 1),(oL 29 1 ld1 [.t 28]),(o2 30 (.call 31) 27 29),(mv 25 30),(o1 31 (.ext 0) 25),(o1 32 (.ext 1) 25),(mO 5 31),(mO 6 32)] (rn 26 5 [25,31,32])) <|
  .seq (.seq (rg [(o1 33 (.fa 0) 1),(oL 34 1 ld1 [.t 33]),(o1 35 (.len false) 34),(op 36 (.bin .eql) [.t 35,(ic 0)]),(mv 37 36),(mG 38 5 37 false),(oG 39 (.fa 0) [.t 1] 37 false),(oH 40 1 ld1 [.t 39] 37 false),(oG 41 (.call 79) [.t 38,.t 40] 37 false),(oG 42 (.un .not) [.t 41] 37 false),(op 43 .pick [.t 37,bT,.t 42]),(mv 44 43),(mG 45 6 44 false),(oG 46 (.fa 1) [.t 1] 44 false),(oH 47 1 ld1 [.t 46] 44 false),(oG 48 (.call 79) [.t 45,.t 47] 44 false),(oG 49 (.un .not) [.t 48] 44 false),(op 50 .pick [.t 44,bT,.t 49])] (rn 33 17 [5,6])) <|
  .cond (.t 50) (.seq (rg [(op 2 .mv [(ic 1)])] []) <|
  .ret)
  (.skip)) <|
  .seq (.seq (rg [(o1 52 (.fa 2) 1),(oL 53 1 ld1 [.t 52]),(o1 54 (.call 85) 53),(mv 51 54),(o1 55 (.ext 0) 51),(o1 56 (.ext 1) 51),(o1 57 (.ext 2) 51),(mO 7 55),(mv 8 56),(mv 9 57)] [52,53,54,51,55,56,57,7,8]) <|
  .seq (rg [(mv 58 9),(op 59 (.bin .neq) [.t 58,(ic 0)])] [58]) <|
  .cond (.t 59) (.seq (rg [(mv 60 9),(mv 2 60)] [60,9]) <|
  .ret)
  (.skip)) <|
  .seq (.seq (rg [(o1 62 (.fa 3) 1),(oL 63 1 ld1 [.t 62]),(o1 64 (.call 85) 63),(mv 61 64),(o1 65 (.ext 0) 61),(o1 66 (.ext 1) 61),(o1 67 (.ext 2) 61),(mO 10 65),(mv 11 66),(mv 12 67)] [62,63,64,61,65,66,67,10,11]) <|
  .seq (rg [(mv 68 12),(op 69 (.bin .neq) [.t 68,(ic 0)])] [68]) <|
  .cond (.t 69) (.seq (rg [(mv 70 12),(mv 2 70)] [70,12]) <|
  .ret)
  (.skip)) <|
  .seq (.seq (rg [(o1 71 (.fa 4) 1),(oL 72 1 ld1 [.t 71]),(o1 73 (.call 86) 72),(o1 74 (.un .not) 73),(mv 75 74),(oG 76 (.fa 5) [.t 1] 75 false),(oH 77 1 ld1 [.t 76] 75 false),(oG 78 (.call 86) [.t 77] 75 false),(oG 79 (.un .not) [.t 78] 75 false),(op 80 .pick [.t 75,bT,.t 79])] (rn 71 9 [])) <|
  .cond (.t 80) (.seq (rg [(op 2 .mv [(ic 4)])] []) <|
  .ret)
  (.skip)) <|
  .seq (.seq (rg [(o1 81 (.fa 6) 1),(oL 82 1 ld1 [.t 81]),(op 83 (.bin .lss) [.t 82,(ic 0)]),(mv 84 83),(oG 85 (.fa 6) [.t 1] 84 false),(oH 86 1 ld1 [.t 85] 84 false),(oG 87 (.bin .gtr) [.t 86,(ic 1073741824)] 84 false),(op 88 .pick [.t 84,bT,.t 87]),(mv 89 88),(oG 90 (.fa 7) [.t 1] 89 false),(oH 91 1 ld1 [.t 90] 89 false),(oG 92 (.bin .lss) [.t 91,(ic 1)] 89 false),(op 93 .pick [.t 89,bT,.t 92]),(mv 94 93),(oG 95 (.fa 7) [.t 1] 94 false),(oH 96 1 ld1 [.t 95] 94 false),(oG 97 (.bin .gtr) [.t 96,(ic 3)] 94 false),(op 98 .pick [.t 94,bT,.t 97])] (rn 81 17 [1])) <|
  .cond (.t 98) (.seq (rg [(op 2 .mv [(ic 1)])] []) <|
  .ret)
  (.skip)) <|
  .seq (rg [(op 2 .mv [(ic 0)])] []) <|
  .ret }
def L52_0:ACode:=
  .loop (rn 6 15 []) (.seq (.seq (rg [(mv 6 5),(mv 7 0),(o1 8 (.len false) 7),(o2 9 (.bin .lss) 6 8),(mv 10 9),(mG 11 0 10 true),(mG 12 5 10 true),(oG 13 (.ia 8) [.t 11,.t 12] 10 true),(oG 14 (.ld true 8) [.t 13] 10 true),(oG 15 (.call 53) [.t 14] 10 true),(mG 16 1 10 true),(oG 17 (.bin .lss) [.t 15,.t 16] 10 true),(op 18 .pick [.t 10,.t 17,bF])] (rn 6 12 [])) <|
  .cond (.t 18) (.skip)
  (.exit 0)) <|
  .block 1 (rg [(mv 19 5),(op 20 (.bin .add) [.t 19,(ic 1)]),(mv 5 20)] [19,20]))
def F52:AFun:=
{nargs:=2,keep:=false,res:=[.tmp 4],body:=
  .seq (rg [(op 4 .mv [(ic 0)])] [4]) <|
  .seq (rg [(op 5 .mv [(ic 0)])] []) <|
  .seq (.block 0 (L52_0)) <|
  .seq (rg [(mv 21 5),(mv 4 21)] [21,5]) <|
  .ret }
def F53:AFun:=
{nargs:=1,keep:=false,res:=[.tmp 2],body:=
  .seq (.reg false [1] [(oL 1 1 (.box 8) [.t 0]),(op 2 .mv [.c (.str [])])] [2,0]) <|
  .seq (.seq (rg [(oL 5 1 (.ld true 8) [.t 1]),(o1 6 (.call 51) 5),(op 7 (.bin .neq) [.t 6,(ic 0)])] [5,6]) <|
  .cond (.t 7) (.seq (rg [(op 2 .mv [.c (.str [])])] []) <|
  .ret)
  (.skip)) <|
  .seq (rg [(o1 9 (.fa 0) 1),(oL 10 1 ld1 [.t 9]),(o1 11 (.call 70) 10),(mv 8 11),(o1 12 (.ext 0) 8),(o1 13 (.ext 1) 8),(mv 3 12),(mv 4 13)] [9,10,11,8,12,13,4]) <|
  .seq (rg [(mv 14 3),(op 15 (.bin .add) [.t 14,.c (.str [10])]),(o1 16 (.fa 2) 1),(oL 17 1 ld1 [.t 16]),(o2 18 (.bin .add) 15 17),(op 19 (.bin .add) [.t 18,.c (.str [10])]),(o1 20 (.fa 3) 1),(oL 21 1 ld1 [.t 20]),(o2 22 (.bin .add) 19 21),(mv 2 22)] (rn 14 9 [3,1])) <|
  .ret }
def F54:AFun:=
{nargs:=4,keep:=false,res:=[.tmp 8],body:=
  .seq (.reg false [6] [(oL 6 6 (.box 8) [.t 2]),(op 8 .mv [.c (.sl .full 8 [])])] [8,2]) <|
  .seq (rg [(mv 10 0),(mv 11 1),(o2 12 (.slc false 8 false true) 10 11),(op 13 (.app false 8 128) [.c (.sl .full 8 []),.t 12]),(mO 9 13)] [10,11,12,13]) <|
  .seq (rg [(mO 14 9),(oL 15 6 (.ld true 8) [.t 6]),(o1 16 (.mks 8 [.sl .full 3 [],.sl .full 3 [],.str [],.str [],.str [],.str [],.int .i64 0,.int .i64 0] 1 [0]) 15),(oD 17 (.app false 8 128) [.t 14,.t 16] 14),(mO 9 17)] [14,15,16,17,6]) <|
  .seq (rg [(mO 18 9),(mv 19 0),(mv 20 1),(mv 21 3),(o2 22 (.bin .add) 20 21),(o2 23 (.slc false 8 true false) 19 22),(oD 24 (.app false 8 128) [.t 18,.t 23] 18),(mO 8 24)] (rn 18 7 [9,0,1,3])) <|
  .ret }
def L55_0:ACode:=
  .loop (12::13::16::17::7::(rn 18 12 [14,15])) (.seq (.seq (rg [(mv 12 6),(op 13 (.bin .gtr) [.t 12,(ic 0)])] [12]) <|
  .cond (.t 13) (.skip)
  (.exit 0)) <|
  .seq (.block 1 (.seq (rg [(mv 16 0),(oS 17 (.call 87) [.t 16]),(mv 7 17)] [16,17]) <|
  .seq (.seq (rg [(mv 18 5),(op 19 (.bin .neq) [.t 18,.c (.str [])]),(mv 20 19),(mG 21 0 20 true),
  ⟨(some 22),(.call 27),[.t 21,(ic 3)],.sh,none,(some (20,true))⟩,
  (oG 23 (.bin .gtr) [.t 22,(ic 0)] 20 true),(op 24 .pick [.t 20,.t 23,bF])] (rn 18 6 [])) <|
  .cond (.t 24) (rg [(mv 25 5),(op 26 (.bin .add) [.t 25,.c (.str [32])]),(mv 5 26)] [25,26])
  (.skip)) <|
  rg [(mv 27 5),(mv 28 7),(o2 29 (.bin .add) 27 28),(mv 5 29)] [27,28,29,7])) <|
  rg [(mv 14 6),(op 15 (.bin .sub) [.t 14,(ic 1)]),(mv 6 15)] [14,15])
def F55:AFun:=
{nargs:=2,keep:=false,res:=[.tmp 4],body:=
  .seq (rg [(op 4 .mv [.c (.str [])])] [4]) <|
  .seq (rg [(op 5 .mv [.c (.str [])])] []) <|
  .seq (.seq (rg [(mv 8 0),(mv 9 1),(op 10 (.bin .add) [.t 9,(ic 1)]),(oS 11 (.call 27) [.t 8,.t 10]),(mv 6 11)] [8,9,10,11,1]) <|
  .block 0 (L55_0)) <|
  .seq (rg [(mv 30 5),(mv 4 30)] [30,5]) <|
  .ret }
def L56_0:ACode:=
  .loop (4::5::6::7::(rn 10 7 [2,8,9])) (.seq (.seq (rg [(mv 4 3),(mv 5 0),(o1 6 (.len true) 5),(o2 7 (.bin .lss) 4 6)] [4,5,6]) <|
  .cond (.t 7) (.skip)
  (.exit 0)) <|
  .seq (.block 1 (.seq (rg [(mv 10 0),(mv 11 3),(o2 12 .ixs 10 11),(op 13 (.bin .eql) [.t 12,.c (.int .u8 32)])] [10,11,12]) <|
  .cond (.t 13) (.seq (rg [(mv 14 0),(mv 15 3),(o2 16 (.slc true 0 false true) 14 15),(mv 2 16)] [14,15,16,0,3]) <|
  .ret)
  (.skip))) <|
  rg [(mv 8 3),(op 9 (.bin .add) [.t 8,(ic 1)]),(mv 3 9)] [8,9])
def F56:AFun:=
{nargs:=1,keep:=false,res:=[.tmp 2],body:=
  .seq (rg [(op 2 .mv [.c (.str [])])] [2]) <|
  .seq (.seq (rg [(op 3 .mv [(ic 0)])] []) <|
  .block 0 (L56_0)) <|
  .seq (rg [(mv 17 0),(mv 2 17)] [17,0]) <|
  .ret }
def F57:AFun:=
{nargs:=2,keep:=false,res:=[.tmp 4],body:=
  .seq (rg [(op 4 .mv [.c (.sl .full 3 [])])] [4]) <|
  .seq (rg [(mv 5 0),(op 6 (.app false 3 32) [.c (.sl .full 3 []),.t 5]),(mv 7 1),(oD 8 (.app false 3 32) [.t 6,.t 7] 6),(o1 9 (.call 88) 8),(mO 4 9)] (rn 5 5 [0,1])) <|
  .ret }
def L58_0:ACode:=
  .loop (8::9::4::(rn 10 24 [])) (.seq (rg [(o2 8 (.bin .lss) 7 6)] []) <|
  .seq (.cond (.t 8) (.skip)
  (.exit 0)) <|
  .seq (.block 1 (.seq (rg [(mv 9 7),(mv 4 9)] [9]) <|
  .seq (rg [(mv 10 0),(mv 11 4),(o2 12 (.ia 3) 10 11),(o1 13 (.ld true 3) 12),(o1 14 (.call 89) 13),(mv 15 14),(mG 16 3 15 true),(mG 17 0 15 true),(mG 18 4 15 true),(oG 19 (.ia 3) [.t 17,.t 18] 15 true),(oG 20 (.fa 2) [.t 19] 15 true),(oG 21 ld1 [.t 20] 15 true),(oG 22 (.call 90) [.t 16,.t 21] 15 true),(oG 23 (.un .not) [.t 22] 15 true),(op 24 .pick [.t 15,.t 23,bF])] (rn 10 14 [])) <|
  .cond (.t 24) (rg [(mO 25 3),(mv 26 0),(mv 27 4),(o2 28 (.ia 3) 26 27),(o1 29 (.fa 2) 28),(o1 30 ld1 29),(o1 31 (.mks 1 [.int .i64 0] 1 [0]) 30),(oD 32 (.app false 1 8) [.t 25,.t 31] 25),(mO 3 32)] (rn 25 8 [4]))
  (.skip))) <|
  rg [(op 33 (.bin .add) [.t 7,(ic 1)]),(mv 7 33)] [33])
def F58:AFun:=
{nargs:=1,keep:=false,res:=[.tmp 2],body:=
  .seq (rg [(op 2 .mv [.c (.sl .full 1 [])])] [2]) <|
  .seq (rg [(op 3 .mv [.c (.sl .full 1 [])])] []) <|
  .seq (.seq (rg [(mv 5 0),(o1 6 (.len false) 5),(op 7 .mv [(ic 0)])] [5]) <|
  .block 0 (L58_0)) <|
  .seq (rg [(mv 34 3),(mO 2 34)] [34,3]) <|
  .ret }
def L59_0:ACode:=
  .loop [5,6,7,10,11,12,13,8,9] (.seq (.seq (rg [(mv 5 4),(mv 6 0),(o2 7 (.bin .leq) 5 6)] [5,6]) <|
  .cond (.t 7) (.skip)
  (.exit 0)) <|
  .seq (.block 1 (rg [(mO 10 3),(mv 11 4),(o1 12 (.mks 1 [.int .i64 0] 1 [0]) 11),(oD 13 (.app false 1 8) [.t 10,.t 12] 10),(mO 3 13)] [10,11,12,13])) <|
  rg [(mv 8 4),(op 9 (.bin .add) [.t 8,(ic 1)]),(mv 4 9)] [8,9])
def F59:AFun:=
{nargs:=1,keep:=false,res:=[.tmp 2],body:=
  .seq (rg [(op 2 .mv [.c (.sl .full 1 [])])] [2]) <|
  .seq (rg [(op 3 .mv [.c (.sl .full 1 [])])] []) <|
  .seq (.seq (rg [(op 4 .mv [(ic 1)])] []) <|
  .block 0 (L59_0)) <|
  .seq (rg [(mv 14 3),(mO 2 14)] [14,3]) <|
  .ret }
def L60_0:ACode:=
  .loop (rn 27 10 (rn 39 19 [37,38])) (.seq (.seq (rg [(mv 27 10),(mv 28 1),(o1 29 (.len false) 28),(o2 30 (.bin .lss) 27 29),(mv 31 30),(mG 32 10 31 true),(mG 33 2 31 true),(oG 34 (.len false) [.t 33] 31 true),(oG 35 (.bin .lss) [.t 32,.t 34] 31 true),(op 36 .pick [.t 31,.t 35,bF])] (rn 27 9 [])) <|
  .cond (.t 36) (.skip)
  (.exit 2)) <|
  .seq (.block 3 (.seq (.reg true [] [(mv 39 1),(mv 40 10),(o2 41 (.ia 1) 39 40),(o1 42 ld1 41),(o1 43 (.fa 2) 9),(oL 44 9 ld1 [.t 43]),(o2 45 (.bin .eql) 42 44)] (rn 39 6 [])) <|
  .cond (.t 45) (.seq (.reg true [] [(mO 46 7),(o1 47 (.fa 0) 9),(oL 48 9 ld1 [.t 47]),(o1 49 (.fa 1) 9),(oL 50 9 ld1 [.t 49]),(mv 51 2),(mv 52 10),(o2 53 (.ia 1) 51 52),(o1 54 ld1 53),(op 55 (.build [.int .i64 0,.str [],.int .i64 0] [(0,1),(1,1),(2,1)]) [.t 48,.t 50,.t 54]),(o1 56 (.mks 3 [.int .i64 0,.str [],.int .i64 0] 1 [0]) 55),(oD 57 (.app false 3 32) [.t 46,.t 56] 46),(mO 7 57)] (rn 46 12 [9,10])) <|
  .exit 2)
  (.skip))) <|
  rg [(mv 37 10),(op 38 (.bin .add) [.t 37,(ic 1)]),(mv 10 38)] [37,38])
def L60_1:ACode:=
  .loop (14::15::8::16::17::18::19::9::(rn 20 7 (10::(rn 27 10 (rn 39 19 [37,38,58]))))) (.seq (rg [(o2 14 (.bin .lss) 13 12)] []) <|
  .seq (.cond (.t 14) (.skip)
  (.exit 0)) <|
  .seq (.block 1 (.seq (rg [(mv 15 13),(mv 8 15)] [15]) <|
  .seq (.reg false [9] [(mv 16 0),(mv 17 8),(o2 18 (.ia 3) 16 17),(o1 19 (.ld true 3) 18),(oL 9 9 (.alloc [.int .i64 0,.str [],.int .i64 0]) []),(tL 9 (.st 3) [.t 9,.t 19])] [16,17,18,19,8]) <|
  .seq (.seq (rg [(oL 20 9 (.ld true 3) [.t 9]),(o1 21 (.call 89) 20),(o1 22 (.un .not) 21)] [20,21]) <|
  .cond (.t 22) (.seq (rg [(mO 23 7),(oL 24 9 (.ld true 3) [.t 9]),(o1 25 (.mks 3 [.int .i64 0,.str [],.int .i64 0] 1 [0]) 24),(oD 26 (.app false 3 32) [.t 23,.t 25] 23),(mO 7 26)] [23,24,25,26,9]) <|
  .exit 1)
  (.skip)) <|
  .seq (rg [(op 10 .mv [(ic 0)])] []) <|
  .block 2 (L60_0))) <|
  rg [(op 58 (.bin .add) [.t 13,(ic 1)]),(mv 13 58)] [58])
def F60:AFun:=
{nargs:=3,keep:=false,res:=[.tmp 6],body:=
  .seq (rg [(op 6 .mv [.c (.sl .full 3 [])])] [6]) <|
  .seq (rg [(op 7 .mv [.c (.sl .full 3 [])])] []) <|
  .seq (.seq (rg [(mv 11 0),(o1 12 (.len false) 11),(op 13 .mv [(ic 0)])] [11]) <|
  .block 0 (L60_1)) <|
  .seq (rg [(mv 59 7),(o1 60 (.call 88) 59),(mO 6 60)] [59,60,7]) <|
  .ret }
def F61:AFun:=
{nargs:=1,keep:=false,res:=[.tmp 2],body:=
  .seq (.reg false [1] [(oL 1 1 (.box 8) [.t 0]),(op 2 .mv [(ic 0)])] [2,0]) <|
  .seq (.seq (rg [(o1 13 (.fa 0) 1),(oL 14 1 ld1 [.t 13]),(o1 15 (.call 91) 14),(mv 3 15)] [13,14,15]) <|
  .seq (rg [(mv 16 3),(op 17 (.bin .neq) [.t 16,(ic 0)])] [16]) <|
  .cond (.t 17) (.seq (rg [(mv 18 3),(mv 2 18)] [18,3]) <|
  .ret)
  (.skip)) <|
  .seq (.seq (rg [(o1 19 (.fa 1) 1),(oL 20 1 ld1 [.t 19]),(o1 21 (.call 91) 20),(mv 4 21)] [19,20,21]) <|
  .seq (rg [(mv 22 4),(op 23 (.bin .neq) [.t 22,(ic 0)])] [22]) <|
  .cond (.t 23) (.seq (rg [(mv 24 4),(mv 2 24)] [24,4]) <|
  .ret)
  (.skip)) <|
  .seq (rg [(o1 26 (.fa 0) 1),(oL 27 1 ld1 [.t 26]),(o1 28 (.fa 1) 1),(oL 29 1 ld1 [.t 28]),(o2 30 (.call 92) 27 29),(mv 25 30),(o1 31 (.ext 0) 25),(o1 32 (.ext 1) 25),(mO 5 31),(mO 6 32)] (rn 26 5 [25,31,32])) <|
  .seq (.seq (rg [(o1 33 (.fa 0) 1),(oL 34 1 ld1 [.t 33]),(o1 35 (.len false) 34),(op 36 (.bin .eql) [.t 35,(ic 0)]),(mv 37 36),(mG 38 5 37 false),(oG 39 (.fa 0) [.t 1] 37 false),(oH 40 1 ld1 [.t 39] 37 false),(oG 41 (.call 93) [.t 38,.t 40] 37 false),(oG 42 (.un .not) [.t 41] 37 false),(op 43 .pick [.t 37,bT,.t 42]),(mv 44 43),(mG 45 6 44 false),(oG 46 (.fa 1) [.t 1] 44 false),(oH 47 1 ld1 [.t 46] 44 false),(oG 48 (.call 93) [.t 45,.t 47] 44 false),(oG 49 (.un .not) [.t 48] 44 false),(op 50 .pick [.t 44,bT,.t 49])] (rn 33 17 [5,6])) <|
  .cond (.t 50) (.seq (rg [(op 2 .mv [(ic 1)])] []) <|
  .ret)
  (.skip)) <|
  .seq (.seq (rg [(o1 52 (.fa 2) 1),(oL 53 1 ld1 [.t 52]),(o1 54 (.call 94) 53),(mv 51 54),(o1 55 (.ext 0) 51),(o1 56 (.ext 1) 51),(o1 57 (.ext 2) 51),(mO 7 55),(mv 8 56),(mv 9 57)] [52,53,54,51,55,56,57,7,8]) <|
  .seq (rg [(mv 58 9),(op 59 (.bin .neq) [.t 58,(ic 0)])] [58]) <|
  .cond (.t 59) (.seq (rg [(mv 60 9),(mv 2 60)] [60,9]) <|
  .ret)
  (.skip)) <|
  .seq (.seq (rg [(o1 62 (.fa 3) 1),(oL 63 1 ld1 [.t 62]),(o1 64 (.call 94) 63),(mv 61 64),(o1 65 (.ext 0) 61),(o1 66 (.ext 1) 61),(o1 67 (.ext 2) 61),(mO 10 65),(mv 11 66),(mv 12 67)] [62,63,64,61,65,66,67,10,11]) <|
  .seq (rg [(mv 68 12),(op 69 (.bin .neq) [.t 68,(ic 0)])] [68]) <|
  .cond (.t 69) (.seq (rg [(mv 70 12),(mv 2 70)] [70,12]) <|
  .ret)
  (.skip)) <|
  .seq (.seq (rg [(o1 71 (.fa 4) 1),(oL 72 1 ld1 [.t 71]),(op 73 (.bin .neq) [.t 72,.c (.str [])]),(mv 74 73),(oG 75 (.fa 4) [.t 1] 74 true),(oH 76 1 ld1 [.t 75] 74 true),(oG 77 (.call 95) [.t 76] 74 true),(oG 78 (.un .not) [.t 77] 74 true),(op 79 .pick [.t 74,.t 78,bF]),(mv 80 79),(oG 81 (.fa 5) [.t 1] 80 false),(oH 82 1 ld1 [.t 81] 80 false),(oG 83 (.bin .neq) [.t 82,.c (.str [])] 80 false),(mG 84 83 80 false),(oG 85 (.fa 5) [.t 1] 84 true),(oH 86 1 ld1 [.t 85] 84 true),(oG 87 (.call 95) [.t 86] 84 true),(oG 88 (.un .not) [.t 87] 84 true),(oG 89 .pick [.t 84,.t 88,bF] 80 false),(op 90 .pick [.t 80,bT,.t 89])] (rn 71 19 [])) <|
  .cond (.t 90) (.seq (rg [(op 2 .mv [(ic 4)])] []) <|
  .ret)
  (.skip)) <|
  .seq (.seq (rg [(o1 91 (.fa 6) 1),(oL 92 1 ld1 [.t 91]),(op 93 (.bin .lss) [.t 92,(ic 0)]),(mv 94 93),(oG 95 (.fa 6) [.t 1] 94 false),(oH 96 1 ld1 [.t 95] 94 false),(oG 97 (.bin .gtr) [.t 96,(ic 1073741824)] 94 false),(op 98 .pick [.t 94,bT,.t 97]),(mv 99 98),(oG 100 (.fa 7) [.t 1] 99 false),(oH 101 1 ld1 [.t 100] 99 false),(oG 102 (.bin .lss) [.t 101,(ic 1)] 99 false),(op 103 .pick [.t 99,bT,.t 102]),(mv 104 103),(oG 105 (.fa 7) [.t 1] 104 false),(oH 106 1 ld1 [.t 105] 104 false),(oG 107 (.bin .gtr) [.t 106,(ic 3)] 104 false),(op 108 .pick [.t 104,bT,.t 107])] (rn 91 17 [1])) <|
  .cond (.t 108) (.seq (rg [(op 2 .mv [(ic 1)])] []) <|
  .ret)
  (.skip)) <|
  .seq (rg [(op 2 .mv [(ic 0)])] []) <|
  .ret }
def F62:AFun:=
{nargs:=1,keep:=false,res:=[.tmp 2],body:=
  .seq (.reg false [1] [(oL 1 1 (.box 8) [.t 0]),(op 2 .mv [.c (.str [])])] [2,0]) <|
  .seq (.seq (rg [(oL 3 1 (.ld true 8) [.t 1]),(o1 4 (.call 61) 3),(op 5 (.bin .neq) [.t 4,(ic 0)])] [3,4]) <|
  .cond (.t 5) (.seq (rg [(op 2 .mv [.c (.str [])])] []) <|
  .ret)
  (.skip)) <|
  .seq (rg [(oL 6 1 (.ld true 8) [.t 1]),(o1 7 (.call 96) 6),(mv 2 7)] [6,7,1]) <|
  .ret }
def F63:AFun:=
{nargs:=2,keep:=false,res:=[.tmp 4],body:=
  .seq (rg [(op 4 .mv [(ic 0)])] [4]) <|
  .seq (.block 0 (.seq (rg [(mv 6 1),(mv 7 0),(o2 8 (.bin .eql) 6 7),(mv 5 8)] [6,7,8]) <|
  .cond (.t 5) (.seq (rg [(op 4 .mv [(ic 5)])] []) <|
  .ret)
  (.seq (rg [(mv 10 1),(mv 11 0),(o2 12 (.bin .lss) 10 11),(mv 9 12)] [10,11,12,1,0]) <|
  .cond (.t 9) (.seq (rg [(op 4 .mv [(ic 11)])] []) <|
  .ret)
  (.skip)))) <|
  .seq (rg [(op 4 .mv [(ic 0)])] []) <|
  .ret }
def F65:AFun:=
{nargs:=1,keep:=false,res:=[.tmp 2],body:=
  .seq (rg [(op 2 .mv [.c (.str [])])] [2]) <|
  .seq (rg [(mv 3 0),(op 4 (.call 98) [.t 3,(ic 10)]),(mv 2 4)] [3,4,0]) <|
  .ret }
def L66_0:ACode:=
  .loop (17::18::19::7::20::21::22::8::23::24::26::25::27::28::29::30::32::31::(rn 33 9 (43::42::(rn 44 9 (54::53::(rn 55 9 (65::64::(rn 66 7 [])))))))) (.seq (rg [(o2 17 (.bin .lss) 16 15)] []) <|
  .seq (.cond (.t 17) (.skip)
  (.exit 0)) <|
  .seq (.block 1 (.seq (.reg false [7] [(o2 18 (.ia 3) 14 16),(o1 19 (.ld true 3) 18),(oL 7 7 (.alloc [.int .i64 0,.str [],.int .i64 0]) []),(tL 7 (.st 3) [.t 7,.t 19])] [18,19]) <|
  .seq (rg [(o1 20 (.fa 2) 7),(oL 21 7 ld1 [.t 20]),(o1 22 (.call 34) 21),(mv 8 22)] [20,21,22]) <|
  .seq (rg [(o1 23 (.fa 0) 7),(oL 24 7 ld1 [.t 23])] [23]) <|
  .block 2 (.seq (rg [(op 26 (.bin .eql) [.t 24,(ic 1)]),(mv 25 26)] [26]) <|
  .cond (.t 25) (rg [(mv 27 5),(o1 28 (.fa 1) 7),(oL 29 7 ld1 [.t 28]),(oS 30 (.call 99) [.t 27,.t 29]),(mO 5 30)] [27,28,29,30,7])
  (.seq (rg [(op 32 (.bin .eql) [.t 24,(ic 2)]),(mv 31 32)] [32]) <|
  .cond (.t 31) (rg [(mO 33 5),(mv 34 8),(op 35 (.bin .add) [.c (.str [60]),.t 34]),(op 36 (.bin .add) [.t 35,.c (.str [58])]),(o1 37 (.fa 1) 7),(oL 38 7 ld1 [.t 37]),(o2 39 (.bin .add) 36 38),(op 40 (.bin .add) [.t 39,.c (.str [62])]),(oS 41 (.appS true 1 1) [.t 33,.t 40]),(mO 5 41)] (rn 33 9 [8,7]))
  (.seq (rg [(op 43 (.bin .eql) [.t 24,(ic 3)]),(mv 42 43)] [43]) <|
  .cond (.t 42) (rg [(mO 44 5),(mv 45 8),(op 46 (.bin .add) [.c (.str [60,47]),.t 45]),(op 47 (.bin .add) [.t 46,.c (.str [58])]),(o1 48 (.fa 1) 7),(oL 49 7 ld1 [.t 48]),(o2 50 (.bin .add) 47 49),(op 51 (.bin .add) [.t 50,.c (.str [62])]),(oS 52 (.appS true 1 1) [.t 44,.t 51]),(mO 5 52)] (rn 44 9 [8,7]))
  (.seq (rg [(op 54 (.bin .eql) [.t 24,(ic 4)]),(mv 53 54)] [54]) <|
  .cond (.t 53) (rg [(mO 55 5),(mv 56 8),(op 57 (.bin .add) [.c (.str [60]),.t 56]),(op 58 (.bin .add) [.t 57,.c (.str [58])]),(o1 59 (.fa 1) 7),(oL 60 7 ld1 [.t 59]),(o2 61 (.bin .add) 58 60),(op 62 (.bin .add) [.t 61,.c (.str [47,62])]),(oS 63 (.appS true 1 1) [.t 55,.t 62]),(mO 5 63)] (rn 55 9 [8,7]))
  (.seq (rg [(op 65 (.bin .eql) [.t 24,(ic 5)]),(mv 64 65)] [65,24]) <|
  .cond (.t 64) (rg [(mO 66 5),(o1 67 (.fa 1) 7),(oL 68 7 ld1 [.t 67]),(op 69 (.bin .add) [.c (.str [123]),.t 68]),(op 70 (.bin .add) [.t 69,.c (.str [125])]),(oS 71 (.appS true 1 1) [.t 66,.t 70]),(mO 5 71)] (rn 66 6 [7]))
  (.skip)))))))) <|
  rg [(op 72 (.bin .add) [.t 16,(ic 1)]),(mv 16 72)] [72])
def F66:AFun:=
{nargs:=1,keep:=false,res:=[.tmp 2,.tmp 3],body:=
  .seq (rg [(op 2 .mv [.c (.str [])]),(op 3 .mv [(ic 0)])] [2,3]) <|
  .seq (.seq (rg [(mv 9 0),(o1 10 (.call 91) 9),(mv 4 10)] [9,10]) <|
  .seq (rg [(mv 11 4),(op 12 (.bin .neq) [.t 11,(ic 0)])] [11]) <|
  .cond (.t 12) (.seq (rg [(mv 13 4),(op 2 .mv [.c (.str [])]),(mv 3 13)] [13,4]) <|
  .ret)
  (.skip)) <|
  .seq (rg [(op 5 .mv [.c (.sl .full 1 [])])] []) <|
  .seq (.seq (rg [(mv 14 0),(o1 15 (.len false) 14),(op 16 .mv [(ic 0)])] [0]) <|
  .block 0 (L66_0)) <|
  .seq (rg [(mv 73 5),(oS 74 .b2s [.t 73]),(mv 2 74),(op 3 .mv [(ic 0)])] [73,74,5]) <|
  .ret }
def F67:AFun:=
{nargs:=0,keep:=false,res:=[.cell 0 true 3],body:=
  .seq (.reg false [0] [(oL 0 0 (.alloc [.str [],.str [],.str []]) [])] []) <|
  .seq (rg [(op 1 (.build [.str [],.str [],.str []] [(0,1),(1,1),(2,1)]) [.c (.str [104,117,109,97,110]),.c (.str [97,108,105,103,110,101,100]),.c (.str [109,97,99,104,105,110,101])]),(tL 0 (.st 3) [.t 0,.t 1])] [1]) <|
  .ret }
def F68:AFun:=
{nargs:=0,keep:=false,res:=[.cell 0 true 8],body:=
  .seq (.reg false [0] [(oL 0 0 (.alloc [.str [],.str [],.str [],.str [],.str [],.str [],.str [],.str []]) [])] []) <|
  .seq (rg [(op 1 (.build [.str [],.str [],.str [],.str [],.str [],.str [],.str [],.str []] [(0,1),(1,1),(2,1),(3,1),(4,1),(5,1),(6,1),(7,1)]) [.c (.str [115,111,117,114,99,101]),.c (.str [116,97,114,103,101,116]),.c (.str [112,114,101,118,105,111,117,115]),.c (.str [110,101,120,116]),.c (.str [97,117,116,104,111,114]),.c (.str [112,114,111,106,101,99,116]),.c (.str [99,114,101,97,116,101,100]),.c (.str [111,114,105,103,105,110])]),(tL 0 (.st 8) [.t 0,.t 1])] [1]) <|
  .ret }
def F69:AFun:=
{nargs:=2,keep:=false,res:=[.tmp 4],body:=
  .seq (.reg false [3] [(oL 3 3 (.box 8) [.t 1]),(op 4 .mv [(ic 0)])] [4,1]) <|
  .seq (.seq (rg [(oL 8 3 (.ld true 8) [.t 3]),(o1 9 (.call 51) 8),(mv 5 9)] [8,9]) <|
  .seq (rg [(mv 10 5),(op 11 (.bin .neq) [.t 10,(ic 0)])] [10]) <|
  .cond (.t 11) (.seq (rg [(mv 12 5),(mv 4 12)] [12,5]) <|
  .ret)
  (.skip)) <|
  .seq (.seq (rg [(mv 13 0),(o1 14 (.len false) 13),(op 15 (.bin .eql) [.t 14,(ic 0)])] [13,14]) <|
  .cond (.t 15) (.seq (rg [(op 4 .mv [(ic 0)])] []) <|
  .ret)
  (.skip)) <|
  .seq (.reg true [] [(mv 16 0),(mv 17 0),(o1 18 (.len false) 17),(op 19 (.bin .sub) [.t 18,(ic 1)]),(o2 20 (.ia 8) 16 19),(o1 21 (.ld true 8) 20),(o1 22 (.call 53) 21),(oL 23 3 (.ld true 8) [.t 3]),(o1 24 (.call 53) 23),(mv 6 22),(mv 7 24)] (rn 16 9 [0,3])) <|
  .seq (.seq (rg [(mv 25 6),(mv 26 7),(o2 27 (.bin .eql) 25 26)] [25,26]) <|
  .cond (.t 27) (.seq (rg [(op 4 .mv [(ic 5)])] []) <|
  .ret)
  (.skip)) <|
  .seq (.seq (rg [(mv 28 6),(mv 29 7),(o2 30 (.bin .gtr) 28 29)] [28,29,6,7]) <|
  .cond (.t 30) (.seq (rg [(op 4 .mv [(ic 11)])] []) <|
  .ret)
  (.skip)) <|
  .seq (rg [(op 4 .mv [(ic 0)])] []) <|
  .ret }
def L70_0:ACode:=
  .loop (15::16::6::(rn 17 8 [])) (.seq (rg [(o2 15 (.bin .lss) 14 13)] []) <|
  .seq (.cond (.t 15) (.skip)
  (.exit 0)) <|
  .seq (.block 1 (.seq (rg [(mv 16 14),(mv 6 16)] [16]) <|
  rg [(mv 17 5),(mv 18 0),(mv 19 6),(o2 20 (.ia 3) 18 19),(o1 21 (.ld true 3) 20),(o1 22 (.call 100) 21),(o2 23 (.bin .add) 17 22),(mv 5 23)] (rn 17 7 [6]))) <|
  rg [(op 24 (.bin .add) [.t 14,(ic 1)]),(mv 14 24)] [24])
def F70:AFun:=
{nargs:=1,keep:=false,res:=[.tmp 2,.tmp 3],body:=
  .seq (rg [(op 2 .mv [.c (.str [])]),(op 3 .mv [(ic 0)])] [2,3]) <|
  .seq (.seq (rg [(mv 7 0),(o1 8 (.call 84) 7),(mv 4 8)] [7,8]) <|
  .seq (rg [(mv 9 4),(op 10 (.bin .neq) [.t 9,(ic 0)])] [9]) <|
  .cond (.t 10) (.seq (rg [(mv 11 4),(op 2 .mv [.c (.str [])]),(mv 3 11)] [11,4]) <|
  .ret)
  (.skip)) <|
  .seq (rg [(op 5 .mv [.c (.str [])])] []) <|
  .seq (.seq (rg [(mv 12 0),(o1 13 (.len false) 12),(op 14 .mv [(ic 0)])] [12]) <|
  .block 0 (L70_0)) <|
  .seq (rg [(mv 25 5),(mv 2 25),(op 3 .mv [(ic 0)])] [25,5]) <|
  .ret }
def F71:AFun:=
{nargs:=0,keep:=false,res:=[.tmp 0],body:=
  .seq (rg [(op 0 .mv [.c (.sl .full 1 [])])] [0]) <|
  .seq (rg [(op 1 (.mks 1 [.str []] 3 [0,1,2]) [.c (.str [104,117,109,97,110]),.c (.str [97,108,105,103,110,101,100]),.c (.str [109,97,99,104,105,110,101])]),(mO 0 1)] [1]) <|
  .ret }
def L72_0:ACode:=
  .loop (25::26::27::28::(rn 31 10 (4::5::(rn 41 8 [29,30])))) (.seq (.seq (rg [(mv 25 7),(mv 26 0),(o1 27 (.len true) 26),(o2 28 (.bin .lss) 25 27)] [25,26,27]) <|
  .cond (.t 28) (.skip)
  (.exit 0)) <|
  .seq (.block 1 (.seq (.seq (rg [(mv 31 0),(mv 32 7),(o2 33 .ixs 31 32),(op 34 (.bin .lss) [.t 33,.c (.int .u8 48)]),(mv 35 34),(mG 36 0 35 false),(mG 37 7 35 false),(oG 38 .ixs [.t 36,.t 37] 35 false),(oG 39 (.bin .gtr) [.t 38,.c (.int .u8 57)] 35 false),(op 40 .pick [.t 35,bT,.t 39])] (rn 31 9 [])) <|
  .cond (.t 40) (.seq (rg [(op 4 .mv [(ic 0)]),(op 5 .mv [bF])] []) <|
  .ret)
  (.skip)) <|
  rg [(mv 41 6),(op 42 (.bin .mul) [.t 41,(ic 10)]),(mv 43 0),(mv 44 7),(o2 45 .ixs 43 44),(op 46 (.bin .sub) [.t 45,.c (.int .u8 48)]),(o1 47 (.cvi .i64) 46),(o2 48 (.bin .add) 42 47),(mv 6 48)] (rn 41 8 []))) <|
  rg [(mv 29 7),(op 30 (.bin .add) [.t 29,(ic 1)]),(mv 7 30)] [29,30])
def F72:AFun:=
{nargs:=2,keep:=false,res:=[.tmp 4,.tmp 5],body:=
  .seq (rg [(op 4 .mv [(ic 0)]),(op 5 .mv [bF])] [4,5]) <|
  .seq (.seq (rg [(mv 8 0),(op 9 (.bin .eql) [.t 8,.c (.str [])]),(mv 10 9),(mG 11 0 10 false),(oG 12 (.len true) [.t 11] 10 false),(oG 13 (.bin .gtr) [.t 12,(ic 10)] 10 false),(op 14 .pick [.t 10,bT,.t 13]),(mv 15 14),(mG 16 0 15 false),(oG 17 (.len true) [.t 16] 15 false),(oG 18 (.bin .gtr) [.t 17,(ic 1)] 15 false),(mG 19 18 15 false),(mG 20 0 19 true),(oG 21 .ixs [.t 20,(ic 0)] 19 true),(oG 22 (.bin .eql) [.t 21,.c (.int .u8 48)] 19 true),(oG 23 .pick [.t 19,.t 22,bF] 15 false),(op 24 .pick [.t 15,bT,.t 23])] (rn 8 16 [])) <|
  .cond (.t 24) (.seq (rg [(op 4 .mv [(ic 0)]),(op 5 .mv [bF])] []) <|
  .ret)
  (.skip)) <|
  .seq (rg [(op 6 .mv [(ic 0)])] []) <|
  .seq (.seq (rg [(op 7 .mv [(ic 0)])] []) <|
  .block 0 (L72_0)) <|
  .seq (rg [(mv 49 6),(mv 50 6),(mv 51 1),(o2 52 (.bin .leq) 50 51),(mv 4 49),(mv 5 52)] [49,50,51,52,6,1]) <|
  .ret }
def L73_0:ACode:=
  .loop (90::91::92::93::12::13::(rn 94 8 [6,102])) (.seq (rg [(o2 90 (.bin .lss) 89 88)] []) <|
  .seq (.cond (.t 90) (.skip)
  (.exit 2)) <|
  .seq (.block 3 (.seq (rg [(mv 91 89),(o2 92 (.ia 1) 87 89),(o1 93 ld1 92),(mv 12 91),(mv 13 93)] [91,92,93]) <|
  .seq (rg [(mv 94 13),(mv 95 2),(o2 96 (.bin .eql) 94 95)] [94,95,13]) <|
  .cond (.t 96) (.seq (rg [(mv 97 0),(mv 98 12),(op 99 (.bin .add) [.t 98,(ic 1)]),(o1 100 .nilc 97),(o1 101 (.fa 7) 100),(tS (.st 1) [.t 101,.t 99])] (rn 97 5 [0,12])) <|
  .seq (rg [(op 6 .mv [(ic 0)])] []) <|
  .ret)
  (.skip))) <|
  rg [(op 102 (.bin .add) [.t 89,(ic 1)]),(mv 89 102)] [102])
def F73:AFun:=
{nargs:=3,keep:=false,res:=[.tmp 6],body:=
  .seq (rg [(op 6 .mv [(ic 0)])] [6]) <|
  .seq (.seq (rg [(mv 14 1),(op 15 (.bin .lss) [.t 14,(ic 4)])] [14]) <|
  .cond (.t 15) (.seq (.seq (rg [(mv 16 1),(op 17 (.bin .gtr) [.t 16,(ic 1)]),(mv 18 17),(mG 19 2 18 true),(oG 20 (.bin .eql) [.t 19,.c (.str [])] 18 true),(op 21 .pick [.t 18,.t 20,bF])] (rn 16 5 [])) <|
  .cond (.t 21) (.seq (rg [(op 6 .mv [(ic 2)])] []) <|
  .ret)
  (.skip)) <|
  .seq (rg [(mv 23 2),(o1 24 (.call 85) 23),(mv 22 24),(o1 25 (.ext 0) 22),(o1 26 (.ext 1) 22),(o1 27 (.ext 2) 22),(mO 7 25),(mv 8 26),(mv 9 27)] [23,24,22,25,26,27,8]) <|
  .seq (.seq (rg [(mv 28 9),(op 29 (.bin .neq) [.t 28,(ic 0)])] [28]) <|
  .cond (.t 29) (.seq (rg [(mv 30 9),(mv 6 30)] [30,9]) <|
  .ret)
  (.skip)) <|
  .seq (.seq (rg [(mv 31 1)] [1]) <|
  .block 0 (.seq (rg [(op 37 (.bin .eql) [.t 31,(ic 0)]),(mv 36 37)] [37]) <|
  .cond (.t 36) (rg [(mv 38 0),(mv 39 7),(o1 40 .nilc 38),(o1 41 (.fa 0) 40),(tS (.st 1) [.t 41,.t 39])] [38,39,40,41,0,7])
  (.seq (rg [(op 43 (.bin .eql) [.t 31,(ic 1)]),(mv 42 43)] [43]) <|
  .cond (.t 42) (rg [(mv 44 0),(mv 45 7),(o1 46 .nilc 44),(o1 47 (.fa 1) 46),(tS (.st 1) [.t 47,.t 45])] [44,45,46,47,0,7])
  (.seq (rg [(op 49 (.bin .eql) [.t 31,(ic 2)]),(mv 48 49)] [49,31]) <|
  .cond (.t 48) (rg [(mv 50 0),(mv 51 2),(o1 52 .nilc 50),(o1 53 (.fa 2) 52),(tS (.st 1) [.t 53,.t 51])] [50,51,52,53,0,2])
  (rg [(mv 32 0),(mv 33 2),(o1 34 .nilc 32),(o1 35 (.fa 3) 34),(tS (.st 1) [.t 35,.t 33])] [32,33,34,35,0,2]))))) <|
  .seq (rg [(op 6 .mv [(ic 0)])] []) <|
  .ret)
  (.skip)) <|
  .seq (.seq (rg [(mv 54 1)] []) <|
  .block 1 (.seq (.seq (rg [(op 56 (.bin .eql) [.t 54,(ic 4)]),(mv 55 56)] [56]) <|
  .cond (.t 55) (.skip)
  (rg [(op 57 (.bin .eql) [.t 54,(ic 5)]),(mv 55 57)] [57])) <|
  .cond (.t 55) (.seq (.seq (rg [(mv 58 2),(op 59 (.bin .eql) [.t 58,.c (.str [])])] [58]) <|
  .cond (.t 59) (.seq (rg [(op 6 .mv [(ic 2)])] []) <|
  .ret)
  (.skip)) <|
  .seq (.seq (rg [(mv 60 1),(op 61 (.bin .eql) [.t 60,(ic 4)])] [60,1]) <|
  .cond (.t 61) (rg [(mv 62 0),(mv 63 2),(o1 64 .nilc 62),(o1 65 (.fa 4) 64),(tS (.st 1) [.t 65,.t 63])] [62,63,64,65,0,2])
  (rg [(mv 66 0),(mv 67 2),(o1 68 .nilc 66),(o1 69 (.fa 5) 68),(tS (.st 1) [.t 69,.t 67])] [66,67,68,69,0,2])) <|
  .seq (rg [(op 6 .mv [(ic 0)])] []) <|
  .ret)
  (.seq (rg [(op 71 (.bin .eql) [.t 54,(ic 6)]),(mv 70 71)] [71,54]) <|
  .cond (.t 70) (.seq (rg [(mv 73 2),(op 74 (.call 72) [.t 73,(ic 1073741824)]),(mv 72 74),(o1 75 (.ext 0) 72),(o1 76 (.ext 1) 72),(mv 10 75),(mv 11 76)] [73,74,72,75,76,2]) <|
  .seq (.seq (rg [(mv 77 11),(o1 78 (.un .not) 77),(mv 79 78),(mG 80 10 79 false),(oG 81 (.bin .eql) [.t 80,(ic 0)] 79 false),(op 82 .pick [.t 79,bT,.t 81])] (rn 77 5 [11])) <|
  .cond (.t 82) (.seq (rg [(op 6 .mv [(ic 2)])] []) <|
  .ret)
  (.skip)) <|
  .seq (rg [(mv 83 0),(mv 84 10),(o1 85 .nilc 83),(o1 86 (.fa 6) 85),(tS (.st 1) [.t 86,.t 84])] [83,84,85,86,0,10]) <|
  .seq (rg [(op 6 .mv [(ic 0)])] []) <|
  .ret)
  (.skip)))) <|
  .seq (.seq (rg [(op 87 (.call 71) []),(o1 88 (.len false) 87),(op 89 .mv [(ic 0)])] []) <|
  .block 2 (L73_0)) <|
  .seq (rg [(op 6 .mv [(ic 2)])] []) <|
  .ret }
def F74:AFun:=
{nargs:=2,keep:=false,res:=[.tmp 4,.tmp 5,.tmp 6],body:=
  .seq (rg [(op 4 .mv [.c (.str [])]),(op 5 .mv [.c (.str [])]),(op 6 .mv [bF])] [4,5,6]) <|
  .seq (.seq (rg [(mv 8 0),(mv 9 1),(o2 10 (.call 101) 8 9),(mv 7 10)] [8,9,10]) <|
  .seq (rg [(mv 11 7),(op 12 (.bin .geq) [.t 11,(ic 0)])] [11]) <|
  .cond (.t 12) (.seq (.reg true [] [(mv 13 0),(mv 14 7),(o2 15 (.slc true 0 false true) 13 14),(mv 16 0),(mv 17 7),(mv 18 1),(o1 19 (.len true) 18),(o2 20 (.bin .add) 17 19),(o2 21 (.slc true 0 true false) 16 20),(mv 4 15),(mv 5 21),(op 6 .mv [bT])] (rn 13 9 [0,7,1])) <|
  .ret)
  (.skip)) <|
  .seq (rg [(mv 22 0),(mv 4 22),(op 5 .mv [.c (.str [])]),(op 6 .mv [bF])] [22,0]) <|
  .ret }
def F75:AFun:=
{nargs:=2,keep:=false,res:=[.tmp 4,.tmp 5],body:=
  .seq (rg [(op 4 .mv [.c (.str [])]),(op 5 .mv [bF])] [4,5]) <|
  .seq (.seq (rg [(mv 6 0),(mv 7 1),(o2 8 (.call 102) 6 7),(o1 9 (.un .not) 8)] [6,7,8]) <|
  .cond (.t 9) (.seq (rg [(mv 10 0),(mv 4 10),(op 5 .mv [bF])] [10,0]) <|
  .ret)
  (.skip)) <|
  .seq (rg [(mv 11 0),(mv 12 1),(o1 13 (.len true) 12),(o2 14 (.slc true 0 true false) 11 13),(mv 4 14),(op 5 .mv [bT])] [11,12,13,14,0,1]) <|
  .ret }
def F76:AFun:=
{nargs:=2,keep:=false,res:=[.tmp 4],body:=
  .seq (rg [(op 4 .mv [bF])] [4]) <|
  .seq (.seq (rg [(mv 5 0),(o1 6 .nilc 5),(o1 7 (.fa 10) 6),(oS 8 ld1 [.t 7]),(op 9 (.bin .lss) [.t 8,(ic 2)])] [5,6,7,8]) <|
  .cond (.t 9) (.seq (rg [(mv 10 1),(mv 11 0),(o1 12 .nilc 11),(o1 13 (.fa 10) 12),(oS 14 ld1 [.t 13]),(o2 15 (.bin .eql) 10 14),(mv 4 15)] (rn 10 6 [1,0])) <|
  .ret)
  (.skip)) <|
  .seq (rg [(mv 16 1),(mv 17 0),(o1 18 .nilc 17),(o1 19 (.fa 10) 18),(oS 20 ld1 [.t 19]),(o2 21 (.bin .geq) 16 20),(mv 4 21)] (rn 16 6 [1,0])) <|
  .ret }
def L77_0:ACode:=
  .loop (15::16::17::10::11::(rn 18 10 [])) (.seq (rg [(op 15 (.bin .lss) [.t 14,(ic 3)])] []) <|
  .seq (.cond (.t 15) (.skip)
  (.exit 1)) <|
  .seq (.block 2 (.seq (rg [(mv 16 14),(o2 17 (.ixA false 1 3) 13 14),(mv 10 16),(mv 11 17)] [16,17]) <|
  .seq (rg [(mv 18 11),(mv 19 2),(o2 20 (.bin .eql) 18 19)] [18,19,11]) <|
  .cond (.t 20) (rg [(mv 21 0),(mv 22 10),(op 23 (.bin .add) [(ic 1),.t 22]),(o1 24 .nilc 21),(o1 25 (.fa 1) 24),(o1 26 (.fa 7) 25),(tS (.st 1) [.t 26,.t 23])] (rn 21 6 [10]))
  (.skip))) <|
  rg [(op 27 (.bin .add) [.t 14,(ic 1)]),(mv 14 27)] [27])
def F77:AFun:=
{nargs:=3,keep:=false,res:=[.tmp 6],body:=
  .seq (rg [(op 6 .mv [(ic 0)])] [6]) <|
  .seq (rg [(op 7 .mv [(ic 0)])] []) <|
  .seq (.seq (rg [(mv 12 1)] [1]) <|
  .block 0 (.seq (rg [(op 35 (.bin .eql) [.t 12,(ic 0)]),(mv 34 35)] [35]) <|
  .cond (.t 34) (rg [(mv 37 0),(mv 38 2),(o1 39 (.call 94) 38),(mv 36 39),(o1 40 (.ext 0) 36),(o1 41 (.ext 1) 36),(o1 42 (.ext 2) 36),(o1 43 .nilc 37),(o1 44 (.fa 1) 43),(o1 45 (.fa 0) 44),(tS (.st 1) [.t 45,.t 40]),(mv 7 42)] (37::38::39::36::(rn 40 6 [0,2])))
  (.seq (rg [(op 47 (.bin .eql) [.t 12,(ic 1)]),(mv 46 47)] [47]) <|
  .cond (.t 46) (rg [(mv 49 0),(mv 50 2),(o1 51 (.call 94) 50),(mv 48 51),(o1 52 (.ext 0) 48),(o1 53 (.ext 1) 48),(o1 54 (.ext 2) 48),(o1 55 .nilc 49),(o1 56 (.fa 1) 55),(o1 57 (.fa 1) 56),(tS (.st 1) [.t 57,.t 52]),(mv 7 54)] (49::50::51::48::(rn 52 6 [0,2])))
  (.seq (rg [(op 59 (.bin .eql) [.t 12,(ic 2)]),(mv 58 59)] [59]) <|
  .cond (.t 58) (.seq (rg [(mv 61 2),(o1 62 (.call 94) 61),(mv 60 62),(o1 63 (.ext 0) 60),(o1 64 (.ext 1) 60),(o1 65 (.ext 2) 60),(mv 7 65)] [61,62,60,63,64,65]) <|
  rg [(mv 66 0),(mv 67 2),(o1 68 .nilc 66),(o1 69 (.fa 1) 68),(o1 70 (.fa 2) 69),(tS (.st 1) [.t 70,.t 67])] (rn 66 5 [0,2]))
  (.seq (rg [(op 72 (.bin .eql) [.t 12,(ic 3)]),(mv 71 72)] [72]) <|
  .cond (.t 71) (.seq (rg [(mv 74 2),(o1 75 (.call 94) 74),(mv 73 75),(o1 76 (.ext 0) 73),(o1 77 (.ext 1) 73),(o1 78 (.ext 2) 73),(mv 7 78)] [74,75,73,76,77,78]) <|
  rg [(mv 79 0),(mv 80 2),(o1 81 .nilc 79),(o1 82 (.fa 1) 81),(o1 83 (.fa 3) 82),(tS (.st 1) [.t 83,.t 80])] (rn 79 5 [0,2]))
  (.seq (rg [(op 85 (.bin .eql) [.t 12,(ic 4)]),(mv 84 85)] [85]) <|
  .cond (.t 84) (rg [(mv 86 0),(mv 87 2),(o1 88 .nilc 86),(o1 89 (.fa 1) 88),(o1 90 (.fa 4) 89),(tS (.st 1) [.t 90,.t 87])] (rn 86 5 [0,2]))
  (.seq (rg [(op 92 (.bin .eql) [.t 12,(ic 5)]),(mv 91 92)] [92]) <|
  .cond (.t 91) (rg [(mv 93 0),(mv 94 2),(o1 95 .nilc 93),(o1 96 (.fa 1) 95),(o1 97 (.fa 5) 96),(tS (.st 1) [.t 97,.t 94])] (rn 93 5 [0,2]))
  (.seq (rg [(op 99 (.bin .eql) [.t 12,(ic 6)]),(mv 98 99)] [99,12]) <|
  .cond (.t 98) (.seq (rg [(mv 101 2),(op 102 (.call 44) [.t 101,(ic 1073741824)]),(mv 100 102),(o1 103 (.ext 0) 100),(o1 104 (.ext 1) 100),(mv 8 103),(mv 9 104)] [101,102,100,103,104,2]) <|
  .seq (.seq (rg [(mv 105 9),(o1 106 (.un .not) 105),(mv 107 106),(mG 108 8 107 false),(oG 109 (.bin .eql) [.t 108,(ic 0)] 107 false),(op 110 .pick [.t 107,bT,.t 109])] (rn 105 5 [9])) <|
  .cond (.t 110) (.seq (rg [(op 6 .mv [(ic 2)])] []) <|
  .ret)
  (.skip)) <|
  rg [(mv 111 0),(mv 112 8),(o1 113 .nilc 111),(o1 114 (.fa 1) 113),(o1 115 (.fa 6) 114),(tS (.st 1) [.t 115,.t 112])] (rn 111 5 [0,8]))
  (.seq (.seq (rg [(op 13 (.call 67) []),(op 14 .mv [(ic 0)])] []) <|
  .block 1 (L77_0)) <|
  .seq (rg [(mv 28 0),(o1 29 .nilc 28),(o1 30 (.fa 1) 29),(o1 31 (.fa 7) 30),(oS 32 ld1 [.t 31]),(op 33 (.bin .eql) [.t 32,(ic 0)])] (rn 28 5 [0])) <|
  .cond (.t 33) (.seq (rg [(op 6 .mv [(ic 2)])] []) <|
  .ret)
  (.skip)))))))))) <|
  .seq (rg [(mv 116 7),(mv 6 116)] [116,7]) <|
  .ret }
def F78:AFun:=
{nargs:=1,keep:=false,res:=[.tmp 2],body:=
  .seq (rg [(op 2 .mv [(ic 0)])] [2]) <|
  .seq (.seq (rg [(mv 6 0),(o1 7 .nilc 6),(o1 8 (.fa 1) 7),(oS 9 (.ld true 8) [.t 8]),(o1 10 (.call 61) 9),(mv 3 10)] (rn 6 5 [])) <|
  .seq (rg [(mv 11 3),(op 12 (.bin .neq) [.t 11,(ic 0)])] [11]) <|
  .cond (.t 12) (.seq (rg [(mv 13 3),(mv 2 13)] [13,3]) <|
  .ret)
  (.skip)) <|
  .seq (rg [(mv 14 0),(o1 15 .nilc 14),(o1 16 (.fa 1) 15),(oS 17 (.ld true 8) [.t 16]),(o1 18 (.call 62) 17),(mv 4 18)] (rn 14 5 [])) <|
  .seq (.seq (rg [(mv 19 0),(o1 20 .nilc 19),(o1 21 (.fa 0) 20),(oS 22 ld1 [.t 21]),(o1 23 (.len false) 22),(op 24 (.bin .gtr) [.t 23,(ic 0)])] (rn 19 5 [])) <|
  .cond (.t 24) (.seq (rg [(mv 25 0),(o1 26 .nilc 25),(o1 27 (.fa 9) 26),(oS 28 ld1 [.t 27]),(mv 29 4),(o2 30 (.call 63) 28 29),(mv 5 30)] (rn 25 6 [])) <|
  .seq (rg [(mv 31 5),(op 32 (.bin .neq) [.t 31,(ic 0)])] [31]) <|
  .cond (.t 32) (.seq (rg [(mv 33 5),(mv 2 33)] [33,5]) <|
  .ret)
  (.skip))
  (.skip)) <|
  .seq (.reg true [] [(mv 34 0),(mv 35 0),(o1 36 .nilc 35),(o1 37 (.fa 0) 36),(oS 38 .ldo [.t 37]),(mv 39 0),(o1 40 .nilc 39),(o1 41 (.fa 1) 40),(oS 42 (.ld true 8) [.t 41]),(o1 43 (.mks 8 [.sl .full 3 [],.sl .full 3 [],.str [],.str [],.str [],.str [],.int .i64 0,.int .i64 0] 1 [0]) 42),(oD 44 (.app false 8 128) [.t 38,.t 43] 38),(o1 45 .nilc 34),(o1 46 (.fa 0) 45),
  ⟨none,.sto,[.t 46,.t 44],.sh,(some 44),none⟩] (rn 34 13 [])) <|
  .seq (rg [(mv 47 0),(mv 48 0),(mv 49 0),(op 50 (.build ze8 []) []),(mv 51 4),(o1 52 .nilc 47),(o1 53 (.fa 1) 52),(tS (.st 8) [.t 53,.t 50]),(o1 54 .nilc 48),(o1 55 (.fa 9) 54),(tS (.st 1) [.t 55,.t 51]),(o1 56 .nilc 49),(o1 57 (.fa 10) 56),(tS (.st 1) [.t 57,(ic 0)])] (rn 47 11 [0,4])) <|
  .seq (rg [(op 2 .mv [(ic 0)])] []) <|
  .ret }
def L79_0:ACode:=
  .loop (14::15::5::(rn 16 9 [4,25])) (.seq (rg [(o2 14 (.bin .lss) 13 12)] []) <|
  .seq (.cond (.t 14) (.skip)
  (.exit 0)) <|
  .seq (.block 1 (.seq (rg [(mv 15 13),(mv 5 15)] [15]) <|
  .seq (.reg true [] [(mv 16 0),(mv 17 5),(o2 18 (.ia 3) 16 17),(o1 19 (.ld true 3) 18),(mv 20 1),(mv 21 5),(o2 22 (.ia 3) 20 21),(o1 23 (.ld true 3) 22),(o2 24 (.seq true [0,2,0]) 19 23)] (rn 16 8 [5])) <|
  .cond (.t 24) (.seq (rg [(op 4 .mv [bF])] []) <|
  .ret)
  (.skip))) <|
  rg [(op 25 (.bin .add) [.t 13,(ic 1)]),(mv 13 25)] [25])
def F79:AFun:=
{nargs:=2,keep:=false,res:=[.tmp 4],body:=
  .seq (rg [(op 4 .mv [bF])] [4]) <|
  .seq (.seq (rg [(mv 6 0),(o1 7 (.len false) 6),(mv 8 1),(o1 9 (.len false) 8),(o2 10 (.bin .neq) 7 9)] [6,7,8,9]) <|
  .cond (.t 10) (.seq (rg [(op 4 .mv [bF])] []) <|
  .ret)
  (.skip)) <|
  .seq (.seq (rg [(mv 11 0),(o1 12 (.len false) 11),(op 13 .mv [(ic 0)])] [11]) <|
  .block 0 (L79_0)) <|
  .seq (rg [(op 4 .mv [bT])] []) <|
  .ret }
def L84_0:ACode:=
  .loop (16::17::3::(rn 18 8 [4,26,27,28,2,29])) (.seq (rg [(o2 16 (.bin .lss) 15 14)] []) <|
  .seq (.cond (.t 16) (.skip)
  (.exit 0)) <|
  .seq (.block 1 (.seq (rg [(mv 17 15),(mv 3 17)] [17]) <|
  .seq (.reg true [] [(mv 18 0),(mv 19 3),(o2 20 (.slc false 3 false true) 18 19),(mv 21 0),(mv 22 3),(o2 23 (.ia 3) 21 22),(o1 24 (.ld true 3) 23),(o2 25 (.call 110) 20 24),(mv 4 25)] (rn 18 8 [3])) <|
  .seq (rg [(mv 26 4),(op 27 (.bin .neq) [.t 26,(ic 0)])] [26]) <|
  .cond (.t 27) (.seq (rg [(mv 28 4),(mv 2 28)] [28,4]) <|
  .ret)
  (.skip))) <|
  rg [(op 29 (.bin .add) [.t 15,(ic 1)]),(mv 15 29)] [29])
def F84:AFun:=
{nargs:=1,keep:=false,res:=[.tmp 2],body:=
  .seq (rg [(op 2 .mv [(ic 0)])] [2]) <|
  .seq (.seq (rg [(mv 5 0),(o1 6 (.len false) 5),(op 7 (.bin .gtr) [.t 6,(ic 512)]),(mv 8 7),(mG 9 0 8 false),(oG 10 (.call 109) [.t 9] 8 false),(oG 11 (.bin .gtr) [.t 10,(ic 1024)] 8 false),(op 12 .pick [.t 8,bT,.t 11])] (rn 5 7 [])) <|
  .cond (.t 12) (.seq (rg [(op 2 .mv [(ic 3)])] []) <|
  .ret)
  (.skip)) <|
  .seq (.seq (rg [(mv 13 0),(o1 14 (.len false) 13),(op 15 .mv [(ic 0)])] [13]) <|
  .block 0 (L84_0)) <|
  .seq (rg [(op 2 .mv [(ic 0)])] []) <|
  .ret }
def L85_0:ACode:=
  .loop (12::13::14::15::17::18::19::20::16::21::22::8::9::23::24::25::2::3::4::(rn 26 6 (10::(rn 32 8 (11::(rn 40 14 [])))))) (.seq (.seq (rg [(mv 12 6),(mv 13 0),(o1 14 (.len true) 13),(o2 15 (.bin .lss) 12 14)] [12,13,14]) <|
  .cond (.t 15) (.skip)
  (.exit 0)) <|
  .block 1 (.seq (.reg false [8] [(mv 17 0),(mv 18 6),(o2 19 (.slc true 0 true false) 17 18),(o1 20 (.call 111) 19),(mv 16 20),(o1 21 (.ext 0) 16),(o1 22 (.ext 1) 16),(oL 8 8 (.alloc [.int .i64 0,.str [],.int .i64 0]) []),(tL 8 (.st 3) [.t 8,.t 21]),(mv 9 22)] [17,18,19,20,16,21,22]) <|
  .seq (.seq (rg [(mv 23 9),(op 24 (.bin .eql) [.t 23,(ic 0)])] [23]) <|
  .cond (.t 24) (.seq (rg [(mv 25 6),(op 2 .mv [.c (.sl .full 3 [])]),(mv 3 25),(op 4 .mv [(ic 2)])] [25,6]) <|
  .ret)
  (.skip)) <|
  .seq (.seq (rg [(o1 26 (.fa 0) 8),(oL 27 8 ld1 [.t 26]),(op 28 (.bin .neq) [.t 27,(ic 1)])] [26,27]) <|
  .cond (.t 28) (.seq (rg [(mv 29 5),(oL 30 8 (.ld true 3) [.t 8]),(o2 31 (.call 110) 29 30),(mv 10 31)] [29,30,31]) <|
  .seq (rg [(mv 32 10),(op 33 (.bin .neq) [.t 32,(ic 0)])] [32]) <|
  .cond (.t 33) (.seq (rg [(mv 34 6),(mv 35 10),(op 2 .mv [.c (.sl .full 3 [])]),(mv 3 34),(mv 4 35)] [34,35,6,10]) <|
  .ret)
  (.skip))
  (.skip)) <|
  .seq (rg [(mv 36 5),(oL 37 8 (.ld true 3) [.t 8]),(o1 38 (.mks 3 [.int .i64 0,.str [],.int .i64 0] 1 [0]) 37),(o2 39 (.call 57) 36 38),(mO 11 39)] [36,37,38,39,5,8]) <|
  .seq (rg [(mv 40 7),(op 41 (.bin .add) [.t 40,(ic 1)]),(mv 7 41)] [40,41]) <|
  .seq (.seq (rg [(mv 42 11),(o1 43 (.len false) 42),(op 44 (.bin .gtr) [.t 43,(ic 512)]),(mv 45 44),(mG 46 7 45 false),(oG 47 (.bin .gtr) [.t 46,(ic 1024)] 45 false),(op 48 .pick [.t 45,bT,.t 47])] (rn 42 6 [])) <|
  .cond (.t 48) (.seq (rg [(mv 49 6),(op 2 .mv [.c (.sl .full 3 [])]),(mv 3 49),(op 4 .mv [(ic 3)])] [49,6]) <|
  .ret)
  (.skip)) <|
  .seq (rg [(mv 50 11),(mO 5 50)] [50,11]) <|
  rg [(mv 51 6),(mv 52 9),(o2 53 (.bin .add) 51 52),(mv 6 53)] [51,52,53,9]))
def F85:AFun:=
{nargs:=1,keep:=false,res:=[.tmp 2,.tmp 3,.tmp 4],body:=
  .seq (rg [(op 2 .mv [.c (.sl .full 3 [])]),(op 3 .mv [(ic 0)]),(op 4 .mv [(ic 0)])] [2,3,4]) <|
  .seq (rg [(op 5 .mv [.c (.sl .full 3 [])])] []) <|
  .seq (rg [(op 6 .mv [(ic 0)]),(op 7 .mv [(ic 0)])] []) <|
  .seq (.block 0 (L85_0)) <|
  .seq (rg [(mv 54 5),(mO 2 54),(op 3 .mv [(ic 0)]),(op 4 .mv [(ic 0)])] [54,5]) <|
  .ret }
def F86:AFun:=
{nargs:=1,keep:=false,res:=[.tmp 2],body:=
  .seq (rg [(op 2 .mv [bF])] [2]) <|
  .seq (rg [(mv 3 0),(op 4 (.bin .eql) [.t 3,.c (.str [])]),(mv 5 4),(mG 6 0 5 false),(oG 7 (.call 112) [.t 6] 5 false),(op 8 .pick [.t 5,bT,.t 7]),(mv 2 8)] (rn 3 6 [0])) <|
  .ret }
def F87:AFun:=
{nargs:=1,keep:=false,res:=[.tmp 2],body:=
  .seq (rg [(op 2 .mv [.c (.str [])])] [2]) <|
  .seq (rg [(op 3 (.mks 1 [.str []] 24 [0,1,2,3,4,5,6,7,8,9,10,11,12,13,14,15,16,17,18,19,20,21,22,23]) [.c (.str [114,101,100]),.c (.str [99,97,114]),.c (.str [82,101,100]),.c (.str [97]),.c (.str [99,97,114,115]),.c (.str [49,44,53]),.c (.str [50,50]),.c (.str [100,111,110,39,116]),.c (.str [46]),.c (.str [33]),.c (.str [32]),.c (.str [32,32]),.c (.str [60]),.c (.str [38]),.c (.str [123]),.c (.str [34]),.c (.str [92]),.c (.str [120,45,121]),.c (.str [10]),.c (.str [61]),.c (.str [125]),.c (.str [62]),.c (.str [9]),.c (.str [98])]),(mv 4 0),(oS 5 (.call 27) [.t 4,(ic 24)]),(o2 6 (.ia 1) 3 5),(o1 7 ld1 6),(mv 2 7)] (rn 3 5 [0])) <|
  .ret }
def L88_0:ACode:=
  .loop (10::11::4::12::13::14::15::5::(rn 16 12 (6::(rn 28 32 [])))) (.seq (rg [(o2 10 (.bin .lss) 9 8)] []) <|
  .seq (.cond (.t 10) (.skip)
  (.exit 0)) <|
  .seq (.block 1 (.seq (rg [(mv 11 9),(mv 4 11)] [11]) <|
  .seq (.reg false [5] [(mv 12 0),(mv 13 4),(o2 14 (.ia 3) 12 13),(o1 15 (.ld true 3) 14),(oL 5 5 (.alloc [.int .i64 0,.str [],.int .i64 0]) []),(tL 5 (.st 3) [.t 5,.t 15])] [12,13,14,15,4]) <|
  .seq (.seq (rg [(o1 16 (.fa 0) 5),(oL 17 5 ld1 [.t 16]),(op 18 (.bin .neq) [.t 17,(ic 1)])] [16,17]) <|
  .cond (.t 18) (.seq (rg [(mO 19 3),(oL 20 5 (.ld true 3) [.t 5]),(o1 21 (.mks 3 [.int .i64 0,.str [],.int .i64 0] 1 [0]) 20),(oS 22 (.appS false 3 32) [.t 19,.t 21]),(mO 3 22)] [19,20,21,22,5]) <|
  .exit 1)
  (.skip)) <|
  .seq (.seq (rg [(o1 23 (.fa 1) 5),(oL 24 5 ld1 [.t 23]),(op 25 (.bin .eql) [.t 24,.c (.str [])])] [23,24]) <|
  .cond (.t 25) (.exit 1)
  (.skip)) <|
  .seq (rg [(mv 26 3),(o1 27 (.len false) 26),(mv 6 27)] [26,27]) <|
  .seq (rg [(mv 28 6),(op 29 (.bin .gtr) [.t 28,(ic 0)]),(mv 30 29),(mG 31 3 30 true),(mG 32 6 30 true),(oG 33 (.bin .sub) [.t 32,(ic 1)] 30 true),(oG 34 (.ia 3) [.t 31,.t 33] 30 true),(oG 35 (.fa 0) [.t 34] 30 true),
  ⟨(some 36),ld1,[.t 35],.sh,none,(some (30,true))⟩,
  (oG 37 (.bin .eql) [.t 36,(ic 1)] 30 true),(op 38 .pick [.t 30,.t 37,bF])] (rn 28 10 [])) <|
  .cond (.t 38) (.reg true [] [(mv 39 3),(mv 40 6),(op 41 (.bin .sub) [.t 40,(ic 1)]),(mv 42 3),(mv 43 6),(op 44 (.bin .sub) [.t 43,(ic 1)]),(o2 45 (.ia 3) 42 44),(o1 46 (.fa 1) 45),(oS 47 ld1 [.t 46]),(o1 48 (.fa 1) 5),(oL 49 5 ld1 [.t 48]),(o2 50 (.bin .add) 47 49),(op 51 (.build [.int .i64 0,.str [],.int .i64 0] [(0,1),(1,1)]) [(ic 1),.t 50]),(o2 52 (.ia 3) 39 41),(tS (.st 3) [.t 52,.t 51])] (rn 39 14 [6,5]))
  (rg [(mO 53 3),(o1 54 (.fa 1) 5),(oL 55 5 ld1 [.t 54]),(op 56 (.build [.int .i64 0,.str [],.int .i64 0] [(0,1),(1,1)]) [(ic 1),.t 55]),(o1 57 (.mks 3 [.int .i64 0,.str [],.int .i64 0] 1 [0]) 56),(oS 58 (.appS false 3 32) [.t 53,.t 57]),(mO 3 58)] (rn 53 6 [5])))) <|
  rg [(op 59 (.bin .add) [.t 9,(ic 1)]),(mv 9 59)] [59])
def F88:AFun:=
{nargs:=1,keep:=false,res:=[.tmp 2],body:=
  .seq (rg [(op 2 .mv [.c (.sl .full 3 [])])] [2]) <|
  .seq (rg [(op 3 .mv [.c (.sl .full 3 [])])] []) <|
  .seq (.seq (rg [(mv 7 0),(o1 8 (.len false) 7),(op 9 .mv [(ic 0)])] [7]) <|
  .block 0 (L88_0)) <|
  .seq (rg [(mv 60 3),(mO 2 60)] [60,3]) <|
  .ret }
def F89:AFun:=
{nargs:=1,keep:=false,res:=[.tmp 2],body:=
  .seq (.reg false [1] [(oL 1 1 (.box 3) [.t 0]),(op 2 .mv [bF])] [2,0]) <|
  .seq (rg [(o1 3 (.fa 0) 1),(oL 4 1 ld1 [.t 3]),(op 5 (.bin .eql) [.t 4,(ic 2)]),(mv 6 5),(oG 7 (.fa 0) [.t 1] 6 false),(oH 8 1 ld1 [.t 7] 6 false),(oG 9 (.bin .eql) [.t 8,(ic 3)] 6 false),(op 10 .pick [.t 6,bT,.t 9]),(mv 11 10),(oG 12 (.fa 0) [.t 1] 11 false),(oH 13 1 ld1 [.t 12] 11 false),(oG 14 (.bin .eql) [.t 13,(ic 4)] 11 false),(op 15 .pick [.t 11,bT,.t 14]),(mv 2 15)] (rn 3 13 [1])) <|
  .ret }
def L90_0:ACode:=
  .loop (9::10::5::(rn 11 6 [4,17])) (.seq (rg [(o2 9 (.bin .lss) 8 7)] []) <|
  .seq (.cond (.t 9) (.skip)
  (.exit 0)) <|
  .seq (.block 1 (.seq (rg [(mv 10 8),(mv 5 10)] [10]) <|
  .seq (rg [(mv 11 0),(mv 12 5),(o2 13 (.ia 1) 11 12),(o1 14 ld1 13),(mv 15 1),(o2 16 (.bin .eql) 14 15)] (rn 11 5 [5])) <|
  .cond (.t 16) (.seq (rg [(op 4 .mv [bT])] []) <|
  .ret)
  (.skip))) <|
  rg [(op 17 (.bin .add) [.t 8,(ic 1)]),(mv 8 17)] [17])
def F90:AFun:=
{nargs:=2,keep:=false,res:=[.tmp 4],body:=
  .seq (rg [(op 4 .mv [bF])] [4]) <|
  .seq (.seq (rg [(mv 6 0),(o1 7 (.len false) 6),(op 8 .mv [(ic 0)])] [6]) <|
  .block 0 (L90_0)) <|
  .seq (rg [(op 4 .mv [bF])] []) <|
  .ret }
def L91_0:ACode:=
  .loop (16::17::18::19::4::3::20::21::22::23::2::(rn 24 11 [])) (.seq (rg [(o2 16 (.bin .lss) 15 14)] []) <|
  .seq (.cond (.t 16) (.skip)
  (.exit 0)) <|
  .seq (.block 1 (.seq (.reg false [4] [(mv 17 15),(o2 18 (.ia 3) 13 15),(o1 19 (.ld true 3) 18),(oL 4 4 (.alloc [.int .i64 0,.str [],.int .i64 0]) []),(mv 3 17),(tL 4 (.st 3) [.t 4,.t 19])] [17,18,19]) <|
  .seq (.seq (rg [(mv 20 0),(mv 21 3),(o2 22 (.call 114) 20 21),(o1 23 (.un .not) 22)] [20,21,22]) <|
  .cond (.t 23) (.seq (rg [(op 2 .mv [(ic 1)])] []) <|
  .ret)
  (.skip)) <|
  .seq (.reg true [] [(oL 24 4 (.ld true 3) [.t 4]),(o1 25 (.call 115) 24),(mv 26 25),(mG 27 0 26 true),(mG 28 3 26 true),(oG 29 (.slc false 3 false true) [.t 27,.t 28] 26 true),(oH 30 4 (.ld true 3) [.t 4] 26 true),(oG 31 (.call 116) [.t 29,.t 30] 26 true),(oG 32 (.un .not) [.t 31] 26 true),(op 33 .pick [.t 26,.t 32,bF])] (rn 24 9 [4,3])) <|
  .cond (.t 33) (.seq (rg [(op 2 .mv [(ic 7)])] []) <|
  .ret)
  (.skip))) <|
  rg [(op 34 (.bin .add) [.t 15,(ic 1)]),(mv 15 34)] [34])
def F91:AFun:=
{nargs:=1,keep:=false,res:=[.tmp 2],body:=
  .seq (rg [(op 2 .mv [(ic 0)])] [2]) <|
  .seq (.seq (rg [(mv 5 0),(o1 6 (.len false) 5),(op 7 (.bin .gtr) [.t 6,(ic 512)]),(mv 8 7),(mG 9 0 8 false),(oG 10 (.call 113) [.t 9] 8 false),(oG 11 (.bin .gtr) [.t 10,(ic 1024)] 8 false),(op 12 .pick [.t 8,bT,.t 11])] (rn 5 7 [])) <|
  .cond (.t 12) (.seq (rg [(op 2 .mv [(ic 3)])] []) <|
  .ret)
  (.skip)) <|
  .seq (.seq (rg [(mv 13 0),(o1 14 (.len false) 13),(op 15 .mv [(ic 0)])] []) <|
  .block 0 (L91_0)) <|
  .seq (rg [(op 2 .mv [(ic 0)])] []) <|
  .ret }
def L92_0:ACode:=
  .loop (15::16::17::8::(rn 18 9 [])) (.seq (rg [(o2 15 (.bin .lss) 14 13)] []) <|
  .seq (.cond (.t 15) (.skip)
  (.exit 0)) <|
  .seq (.block 1 (.seq (rg [(o2 16 (.ia 1) 12 14),(oS 17 ld1 [.t 16]),(mv 8 17)] [16,17]) <|
  .seq (rg [(mv 18 6),(mv 19 8),(oS 20 (.callR 118) [.t 18,.t 19]),(o1 21 (.un .not) 20)] [18,19,20]) <|
  .cond (.t 21) (rg [(mO 22 6),(mv 23 8),(o1 24 (.mks 1 [.int .i64 0] 1 [0]) 23),(oS 25 (.appS false 1 8) [.t 22,.t 24]),(mO 6 25)] [22,23,24,25,8])
  (.skip))) <|
  rg [(op 26 (.bin .add) [.t 14,(ic 1)]),(mv 14 26)] [26])
def F92:AFun:=
{nargs:=2,keep:=false,res:=[.tmp 4,.tmp 5],body:=
  .seq (rg [(op 4 .mv [.c (.sl .full 3 [])]),(op 5 .mv [.c (.sl .full 3 [])])] [4,5]) <|
  .seq (rg [(mv 9 0),(oS 10 (.call 117) [.t 9]),(mO 6 10)] [9,10]) <|
  .seq (.seq (rg [(mv 11 1),(oS 12 (.call 117) [.t 11]),(o1 13 (.len false) 12),(op 14 .mv [(ic 0)])] [11]) <|
  .block 0 (L92_0)) <|
  .seq (rg [(mv 27 0),(mv 28 6),(mv 29 6),(o1 30 (.len false) 29),(o1 31 (.call 120) 30),(oS 32 (.call 119) [.t 27,.t 28,.t 31]),(mv 33 1),(mv 34 6),(mv 35 6),(o1 36 (.len false) 35),(o1 37 (.call 120) 36),(oS 38 (.call 119) [.t 33,.t 34,.t 37]),(mO 4 32),(mO 5 38)] (rn 27 12 [0,6,1])) <|
  .ret }
def F93:AFun:=
{nargs:=2,keep:=false,res:=[.tmp 4],body:=
  .seq (rg [(op 4 .mv [bF])] [4]) <|
  .seq (rg [(mv 5 0),(mv 6 1),(o2 7 (.call 121) 5 6),(mv 4 7)] [5,6,7,0,1]) <|
  .ret }
def L94_0:ACode:=
  .loop [12,13,14,15,17,18,19,20,16,21,22,23,6,7,8,24,25,26,2,4,27,28,9,29,30,31,32,33,34,35] (.seq (.seq (rg [(mv 12 3),(mv 13 0),(o1 14 (.len true) 13),(o2 15 (.bin .lss) 12 14)] [12,13,14]) <|
  .cond (.t 15) (.skip)
  (.exit 0)) <|
  .block 1 (.seq (.reg false [6] [(mv 17 0),(mv 18 3),(o2 19 (.slc true 0 true false) 17 18),(o1 20 (.call 122) 19),(mv 16 20),(o1 21 (.ext 0) 16),(o1 22 (.ext 1) 16),(o1 23 (.ext 2) 16),(oL 6 6 (.alloc [.int .i64 0,.str [],.int .i64 0]) []),(tL 6 (.st 3) [.t 6,.t 21]),(mv 7 22),(mv 8 23)] [17,18,19,20,16,21,22,23]) <|
  .seq (.seq (rg [(mv 24 8),(o1 25 (.un .not) 24)] [24,8]) <|
  .cond (.t 25) (.seq (rg [(mv 26 3),(op 2 .mv [.c (.sl .full 3 [])]),(mv 3 26),(op 4 .mv [(ic 2)])] [26]) <|
  .ret)
  (.skip)) <|
  .seq (.seq (rg [(oL 27 6 (.ld true 3) [.t 6]),(oS 28 (.call 123) [.t 5,.t 27]),(mv 9 28)] [27,28,6]) <|
  .seq (rg [(mv 29 9),(op 30 (.bin .neq) [.t 29,(ic 0)])] [29]) <|
  .cond (.t 30) (.seq (rg [(mv 31 3),(mv 32 9),(op 2 .mv [.c (.sl .full 3 [])]),(mv 3 31),(mv 4 32)] [31,32,9]) <|
  .ret)
  (.skip)) <|
  rg [(mv 33 3),(mv 34 7),(o2 35 (.bin .add) 33 34),(mv 3 35)] [33,34,35,7]))
def F94:AFun:=
{nargs:=1,keep:=false,res:=[.tmp 2,.tmp 3,.tmp 4],body:=
  .seq (rg [(op 2 .mv [.c (.sl .full 3 [])]),(op 3 .mv [(ic 0)]),(op 4 .mv [(ic 0)])] [2,4]) <|
  .seq (rg [(oS 10 .mkm []),(op 11 (.buildR [.sl .full 3 [],.sl .full 1 [],.int .i64 0,.any] [(3,1)]) [.t 10]),(oS 5 (.allocS [.sl .full 3 [],.sl .full 1 [],.int .i64 0,.any]) []),(tS (.st 4) [.t 5,.t 11])] [10,11]) <|
  .seq (.block 0 (L94_0)) <|
  .seq (rg [(oS 36 (.call 124) [.t 5])] [36]) <|
  .seq (rg [(o1 37 (.fa 0) 5),(oS 38 ld1 [.t 37]),(mO 2 38),(op 3 .mv [(ic 0)]),(op 4 .mv [(ic 0)])] [37,38,5]) <|
  .ret }
def L95_0:ACode:=
  .loop (23::24::25::26::29::30::31::4::(rn 32 19 [2,27,28])) (.seq (.seq (rg [(mv 23 3),(mv 24 0),(o1 25 (.len true) 24),(o2 26 (.bin .lss) 23 25)] [23,24,25]) <|
  .cond (.t 26) (.skip)
  (.exit 0)) <|
  .seq (.block 1 (.seq (rg [(mv 29 0),(mv 30 3),(o2 31 .ixs 29 30),(mv 4 31)] [29,30,31]) <|
  .seq (rg [(mv 32 4),(op 33 (.bin .geq) [.t 32,.c (.int .u8 97)]),(mv 34 33),(mG 35 4 34 true),(oG 36 (.bin .leq) [.t 35,.c (.int .u8 122)] 34 true),(op 37 .pick [.t 34,.t 36,bF]),(mv 38 37),(mG 39 4 38 false),(oG 40 (.bin .geq) [.t 39,.c (.int .u8 48)] 38 false),(mG 41 40 38 false),(mG 42 4 41 true),(oG 43 (.bin .leq) [.t 42,.c (.int .u8 57)] 41 true),(oG 44 .pick [.t 41,.t 43,bF] 38 false),(op 45 .pick [.t 38,bT,.t 44]),(mv 46 45),(mG 47 4 46 false),(oG 48 (.bin .eql) [.t 47,.c (.int .u8 45)] 46 false),(op 49 .pick [.t 46,bT,.t 48]),(o1 50 (.un .not) 49)] (rn 32 18 [4])) <|
  .cond (.t 50) (.seq (rg [(op 2 .mv [bF])] []) <|
  .ret)
  (.skip))) <|
  rg [(mv 27 3),(op 28 (.bin .add) [.t 27,(ic 1)]),(mv 3 28)] [27,28])
def F95:AFun:=
{nargs:=1,keep:=false,res:=[.tmp 2],body:=
  .seq (rg [(op 2 .mv [bF])] [2]) <|
  .seq (.seq (rg [(mv 5 0),(o1 6 (.len true) 5),(op 7 (.bin .lss) [.t 6,(ic 1)]),(mv 8 7),(mG 9 0 8 false),(oG 10 (.len true) [.t 9] 8 false),(oG 11 (.bin .gtr) [.t 10,(ic 24)] 8 false),(op 12 .pick [.t 8,bT,.t 11]),(mv 13 12),(mG 14 0 13 false),(oG 15 .ixs [.t 14,(ic 0)] 13 false),(oG 16 (.bin .lss) [.t 15,.c (.int .u8 97)] 13 false),(op 17 .pick [.t 13,bT,.t 16]),(mv 18 17),(mG 19 0 18 false),(oG 20 .ixs [.t 19,(ic 0)] 18 false),(oG 21 (.bin .gtr) [.t 20,.c (.int .u8 122)] 18 false),(op 22 .pick [.t 18,bT,.t 21])] (rn 5 17 [])) <|
  .cond (.t 22) (.seq (rg [(op 2 .mv [bF])] []) <|
  .ret)
  (.skip)) <|
  .seq (.seq (rg [(op 3 .mv [(ic 1)])] []) <|
  .block 0 (L95_0)) <|
  .seq (rg [(op 2 .mv [bT])] []) <|
  .ret }
def F96:AFun:=
{nargs:=1,keep:=false,res:=[.tmp 2],body:=
  .seq (.reg false [1] [(oL 1 1 (.box 8) [.t 0]),(op 2 .mv [.c (.str [])])] [2,0]) <|
  .seq (rg [(o1 6 (.fa 0) 1),(oL 7 1 ld1 [.t 6]),(o1 8 (.call 66) 7),(mv 5 8),(o1 9 (.ext 0) 5),(o1 10 (.ext 1) 5),(mv 3 9),(mv 4 10)] [6,7,8,5,9,10,4]) <|
  .seq (rg [(mv 11 3),(op 12 (.bin .add) [.t 11,.c (.str [10])]),(o1 13 (.fa 2) 1),(oL 14 1 ld1 [.t 13]),(o2 15 (.bin .add) 12 14),(op 16 (.bin .add) [.t 15,.c (.str [10])]),(o1 17 (.fa 3) 1),(oL 18 1 ld1 [.t 17]),(o2 19 (.bin .add) 16 18),(mv 2 19)] (rn 11 9 [3,1])) <|
  .ret }
def F98:AFun:=
{nargs:=2,keep:=false,res:=[.tmp 4],body:=
  .seq (rg [(op 4 .mv [.c (.str [])])] [4]) <|
  .seq (.seq (rg [(mv 10 1),(op 11 (.bin .eql) [.t 10,(ic 10)])] [10]) <|
  .cond (.t 11) (.seq (.seq (rg [(mv 12 0),(op 13 (.bin .leq) [(ic 0),.t 12]),(mv 14 13),(mG 15 0 14 true),(oG 16 (.bin .lss) [.t 15,(ic 100)] 14 true),(op 17 .pick [.t 14,.t 16,bF])] (rn 12 5 [])) <|
  .cond (.t 17) (.seq (rg [(mv 18 0),(o1 19 (.call 125) 18),(mv 4 19)] [18,19,0]) <|
  .ret)
  (.skip)) <|
  .seq (rg [(oS 5 (.allocS [.int .u8 0,.int .u8 0,.int .u8 0,.int .u8 0,.int .u8 0,.int .u8 0,.int .u8 0,.int .u8 0,.int .u8 0,.int .u8 0,.int .u8 0,.int .u8 0,.int .u8 0,.int .u8 0,.int .u8 0,.int .u8 0,.int .u8 0,.int .u8 0,.int .u8 0,.int .u8 0,.int .u8 0,.int .u8 0,.int .u8 0,.int .u8 0]) [])] []) <|
  .seq (rg [(mv 20 0),(o1 21 (.cvi .u64) 20),(mv 6 21)] [20,21]) <|
  .seq (.seq (rg [(mv 22 0),(op 23 (.bin .lss) [.t 22,(ic 0)])] [22]) <|
  .cond (.t 23) (rg [(mv 24 6),(o1 25 (.un .neg) 24),(mv 6 25)] [24,25])
  (.skip)) <|
  .seq (rg [(mv 26 6),(o1 27 (.call 126) 26),(mv 7 27)] [26,27]) <|
  .seq (rg [(mv 28 7),(op 29 (.bin .add) [(ic 1),.t 28]),(oS 30 (.sla 24) [.t 5,(ic 1),.t 29]),(mv 31 6),(oS 32 (.call 127) [.t 30,.t 31])] (rn 28 5 [6])) <|
  .seq (.seq (rg [(mv 33 0),(op 34 (.bin .lss) [.t 33,(ic 0)])] [33,0]) <|
  .cond (.t 34) (.seq (rg [(op 35 (.iaA 1 24) [.t 5,(ic 0)]),(tS (.st 1) [.t 35,.c (.int .u8 45)])] [35]) <|
  .seq (rg [⟨none,.mv,[],.none,none,none⟩] []) <|
  .ret)
  (.skip)) <|
  .seq (rg [(mv 40 7),(op 41 (.bin .add) [(ic 1),.t 40]),(oS 42 (.sla 24) [.t 5,(ic 1),.t 41]),(oS 43 .b2s [.t 42]),(mv 4 43)] [40,41,42,43,7,5]) <|
  .ret)
  (.skip)) <|
  .seq (rg [(mv 45 0),(o1 46 (.cvi .u64) 45),(mv 47 1),(mv 48 0),(op 49 (.bin .lss) [.t 48,(ic 0)]),(op 50 (.call 128) [.c (.sl .full 1 []),.t 46,.t 47,.t 49,bF]),(mv 44 50),(o1 51 (.ext 0) 44),(o1 52 (.ext 1) 44),(mO 8 51),(mv 9 52)] (rn 45 6 [44,51,52,8,0,1])) <|
  .seq (rg [(mv 53 9),(mv 4 53)] [53,9]) <|
  .ret }
def L99_0:ACode:=
  .loop [7,8,9,10,13,14,15,6,26,27,25,28,29,30,31,33,34,32,35,36,37,39,40,38,41,42,43,45,46,47,48,49,50,51,52,53,54,44,55,56,57,58,16,17,18,19,20,21,22,23,24,11,12] (.seq (.seq (rg [(mv 7 5),(mv 8 1),(o1 9 (.len true) 8),(o2 10 (.bin .lss) 7 9)] [7,8,9]) <|
  .cond (.t 10) (.skip)
  (.exit 0)) <|
  .seq (.block 1 (.seq (rg [(mv 13 1),(mv 14 5),(o2 15 .ixs 13 14),(mv 6 15)] [13,14,15]) <|
  .block 2 (.seq (rg [(mv 26 6),(o1 27 (.call 129) 26),(mv 25 27)] [26,27]) <|
  .cond (.t 25) (rg [(mO 28 0),(mv 29 6),(o1 30 (.mks 1 [.int .u8 0] 1 [0]) 29),(oS 31 (.appS false 1 1) [.t 28,.t 30]),(mO 0 31)] [28,29,30,31,6])
  (.seq (rg [(mv 33 6),(op 34 (.bin .eql) [.t 33,.c (.int .u8 10)]),(mv 32 34)] [33,34]) <|
  .cond (.t 32) (rg [(mO 35 0),(op 36 (.mks 1 [.int .u8 0] 2 [0,1]) [.c (.int .u8 92),.c (.int .u8 110)]),(oS 37 (.appS false 1 1) [.t 35,.t 36]),(mO 0 37)] [35,36,37])
  (.seq (rg [(mv 39 6),(op 40 (.bin .eql) [.t 39,.c (.int .u8 9)]),(mv 38 40)] [39,40]) <|
  .cond (.t 38) (rg [(mO 41 0),(op 42 (.mks 1 [.int .u8 0] 2 [0,1]) [.c (.int .u8 92),.c (.int .u8 116)]),(oS 43 (.appS false 1 1) [.t 41,.t 42]),(mO 0 43)] [41,42,43])
  (.seq (rg [(mv 45 6),(op 46 (.bin .eql) [.t 45,.c (.int .u8 92)]),(mv 47 46),(mG 48 6 47 false),(oG 49 (.bin .eql) [.t 48,.c (.int .u8 60)] 47 false),(op 50 .pick [.t 47,bT,.t 49]),(mv 51 50),(mG 52 6 51 false),(oG 53 (.bin .eql) [.t 52,.c (.int .u8 123)] 51 false),(op 54 .pick [.t 51,bT,.t 53]),(mv 44 54)] (rn 45 10 [])) <|
  .cond (.t 44) (rg [(mO 55 0),(mv 56 6),(op 57 (.mks 1 [.int .u8 0] 2 [0,1]) [.c (.int .u8 92),.t 56]),(oS 58 (.appS false 1 1) [.t 55,.t 57]),(mO 0 58)] [55,56,57,58,6])
  (.reg true [] [(mO 16 0),(mv 17 6),(op 18 (.shf false) [.t 17,.c (.int .u64 4)]),(op 19 .ixs [.c (.str [48,49,50,51,52,53,54,55,56,57,97,98,99,100,101,102]),.t 18]),(mv 20 6),(op 21 (.bin .and) [.t 20,.c (.int .u8 15)]),(op 22 .ixs [.c (.str [48,49,50,51,52,53,54,55,56,57,97,98,99,100,101,102]),.t 21]),(op 23 (.mks 1 [.int .u8 0] 4 [0,1,2,3]) [.c (.int .u8 92),.c (.int .u8 120),.t 19,.t 22]),(oS 24 (.appS false 1 1) [.t 16,.t 23]),(mO 0 24)] (rn 16 9 [6])))))))) <|
  rg [(mv 11 5),(op 12 (.bin .add) [.t 11,(ic 1)]),(mv 5 12)] [11,12])
def F99:AFun:=
{nargs:=2,keep:=true,res:=[.tmpD 4],body:=
  .seq (rg [(op 4 .mv [.c (.sl .full 1 [])])] [4]) <|
  .seq (.seq (rg [(op 5 .mv [(ic 0)])] []) <|
  .block 0 (L99_0)) <|
  .seq (rg [(mv 59 0),(mO 4 59)] [59,0]) <|
  .ret }
def L100_0:ACode:=
  .loop (rn 9 5 (rn 16 7 [14,15])) (.seq (.seq (rg [(mv 9 4),(o1 10 (.fa 1) 1),(oL 11 1 ld1 [.t 10]),(o1 12 (.len true) 11),(o2 13 (.bin .lss) 9 12)] [9,10,11,12]) <|
  .cond (.t 13) (.skip)
  (.exit 1)) <|
  .seq (.block 2 (rg [(mv 16 3),(o1 17 (.fa 1) 1),(oL 18 1 ld1 [.t 17]),(mv 19 4),(o2 20 .ixs 18 19),(o1 21 (.call 130) 20),(o2 22 (.bin .add) 16 21),(mv 3 22)] (rn 16 7 []))) <|
  rg [(mv 14 4),(op 15 (.bin .add) [.t 14,(ic 1)]),(mv 4 15)] [14,15])
def F100:AFun:=
{nargs:=1,keep:=false,res:=[.tmp 2],body:=
  .seq (.reg false [1] [(oL 1 1 (.box 3) [.t 0]),(op 2 .mv [.c (.str [])])] [2,0]) <|
  .seq (.seq (rg [(o1 5 (.fa 0) 1),(oL 6 1 ld1 [.t 5])] [5]) <|
  .block 0 (.seq (rg [(op 8 (.bin .eql) [.t 6,(ic 1)]),(mv 7 8)] [8]) <|
  .cond (.t 7) (.seq (rg [(op 3 .mv [.c (.str [])])] []) <|
  .seq (.seq (rg [(op 4 .mv [(ic 0)])] []) <|
  .block 1 (L100_0)) <|
  .seq (rg [(mv 23 3),(mv 2 23)] [23,3]) <|
  .ret)
  (.seq (rg [(op 25 (.bin .eql) [.t 6,(ic 2)]),(mv 24 25)] [25]) <|
  .cond (.t 24) (.seq (.reg true [] [(o1 26 (.fa 2) 1),(oL 27 1 ld1 [.t 26]),(o1 28 (.call 23) 27),(op 29 (.bin .add) [.c (.str [60]),.t 28]),(op 30 (.bin .add) [.t 29,.c (.str [58])]),(o1 31 (.fa 1) 1),(oL 32 1 ld1 [.t 31]),(o2 33 (.bin .add) 30 32),(op 34 (.bin .add) [.t 33,.c (.str [62])]),(mv 2 34)] (rn 26 9 [1])) <|
  .ret)
  (.seq (rg [(op 36 (.bin .eql) [.t 6,(ic 3)]),(mv 35 36)] [36]) <|
  .cond (.t 35) (.seq (.reg true [] [(o1 37 (.fa 2) 1),(oL 38 1 ld1 [.t 37]),(o1 39 (.call 23) 38),(op 40 (.bin .add) [.c (.str [60,47]),.t 39]),(op 41 (.bin .add) [.t 40,.c (.str [58])]),(o1 42 (.fa 1) 1),(oL 43 1 ld1 [.t 42]),(o2 44 (.bin .add) 41 43),(op 45 (.bin .add) [.t 44,.c (.str [62])]),(mv 2 45)] (rn 37 9 [1])) <|
  .ret)
  (.seq (rg [(op 47 (.bin .eql) [.t 6,(ic 4)]),(mv 46 47)] [47,6]) <|
  .cond (.t 46) (.seq (.reg true [] [(o1 48 (.fa 2) 1),(oL 49 1 ld1 [.t 48]),(o1 50 (.call 23) 49),(op 51 (.bin .add) [.c (.str [60]),.t 50]),(op 52 (.bin .add) [.t 51,.c (.str [58])]),(o1 53 (.fa 1) 1),(oL 54 1 ld1 [.t 53]),(o2 55 (.bin .add) 52 54),(op 56 (.bin .add) [.t 55,.c (.str [47,62])]),(mv 2 56)] (rn 48 9 [1])) <|
  .ret)
  (.skip)))))) <|
  .seq (rg [(o1 57 (.fa 1) 1),(oL 58 1 ld1 [.t 57]),(op 59 (.bin .add) [.c (.str [123]),.t 58]),(op 60 (.bin .add) [.t 59,.c (.str [125])]),(mv 2 60)] [57,58,59,60,1]) <|
  .ret }
def L101_0:ACode:=
  .loop (rn 57 15 (11::72::73::4::(rn 74 39 (12::(rn 113 25 (13::(rn 138 5 []))))))) (.seq (.seq (rg [(mv 57 8),(mv 58 9),(o2 59 (.bin .lss) 57 58)] [57,58]) <|
  .cond (.t 59) (.skip)
  (.exit 1)) <|
  .block 2 (.seq (.seq (rg [(mv 60 0),(mv 61 8),(o2 62 .ixs 60 61),(mv 63 6),(o2 64 (.bin .neq) 62 63)] [60,61,62,63]) <|
  .cond (.t 64) (.seq (rg [(mv 65 0),(mv 66 8),(op 67 (.bin .add) [.t 66,(ic 1)]),(mv 68 9),(op 69 (.slc true 0 true true) [.t 65,.t 67,.t 68]),(mv 70 6),(o2 71 (.call 131) 69 70),(mv 11 71)] (rn 65 7 [])) <|
  .seq (.seq (rg [(mv 72 11),(op 73 (.bin .lss) [.t 72,(ic 0)])] [72]) <|
  .cond (.t 73) (.seq (rg [(op 4 .mv [(ic (-1))])] []) <|
  .ret)
  (.skip)) <|
  rg [(mv 74 8),(mv 75 11),(op 76 (.bin .add) [.t 75,(ic 1)]),(o2 77 (.bin .add) 74 76),(mv 8 77)] [74,75,76,77,11])
  (.skip)) <|
  .seq (.seq (rg [(mv 78 0),(mv 79 8),(op 80 (.bin .add) [.t 79,(ic 1)]),(o2 81 .ixs 78 80),(mv 82 7),(o2 83 (.bin .eql) 81 82),(mv 84 83),(mG 85 0 84 true),(mG 86 8 84 true),(mG 87 8 84 true),(mG 88 5 84 true),(oG 89 (.bin .add) [.t 87,.t 88] 84 true),(oG 90 (.slc true 0 true true) [.t 85,.t 86,.t 89] 84 true),(mG 91 1 84 true),(oG 92 (.bin .eql) [.t 90,.t 91] 84 true),(op 93 .pick [.t 84,.t 92,bF])] (rn 78 15 [])) <|
  .cond (.t 93) (.seq (rg [(mv 94 8),(mv 4 94)] [94,8]) <|
  .ret)
  (.skip)) <|
  .seq (rg [(mv 95 8),(op 96 (.bin .add) [.t 95,(ic 1)]),(mv 8 96)] [95,96]) <|
  .seq (rg [(mv 97 10),(op 98 (.bin .add) [.t 97,(ic 1)]),(mv 10 98)] [97,98]) <|
  .seq (rg [⟨none,.mv,[],.none,none,none⟩] []) <|
  .cond (.t 107) (.seq (rg [(mv 108 0),(mv 109 8),(o2 110 (.slc true 0 true false) 108 109),(mv 111 1),(o2 112 (.call 132) 110 111),(mv 12 112)] (rn 108 5 [0,1])) <|
  .seq (.seq (rg [(mv 113 12),(op 114 (.bin .geq) [.t 113,(ic 0)])] [113]) <|
  .cond (.t 114) (.seq (rg [(mv 115 12),(mv 116 8),(o2 117 (.bin .add) 115 116),(mv 4 117)] [115,116,117,12,8]) <|
  .ret)
  (.skip)) <|
  .seq (rg [(op 4 .mv [(ic (-1))])] []) <|
  .ret)
  (.seq (rg [⟨none,.mv,[],.none,none,none⟩] []) <|
  .cond (.t 132) (.seq (rg [(mv 133 0),(mv 134 8),(o2 135 (.slc true 0 true false) 133 134),(mv 136 1),(o2 137 (.call 134) 135 136),(mv 13 137)] (rn 133 5 [0,1])) <|
  .seq (.seq (rg [(mv 138 13),(op 139 (.bin .lss) [.t 138,(ic 0)])] [138]) <|
  .cond (.t 139) (.seq (rg [(op 4 .mv [(ic (-1))])] []) <|
  .ret)
  (.skip)) <|
  .seq (rg [(mv 140 8),(mv 141 13),(o2 142 (.bin .add) 140 141),(mv 4 142)] [140,141,142,8,13]) <|
  .ret)
  (.skip))))
def F101:AFun:=
{nargs:=2,keep:=false,res:=[.tmp 4],body:=
  .seq (rg [(op 4 .mv [(ic 0)])] [4]) <|
  .seq (rg [(mv 14 1),(o1 15 (.len true) 14),(mv 5 15)] [14,15]) <|
  .seq (.block 0 (.seq (rg [(mv 17 5),(op 18 (.bin .eql) [.t 17,(ic 0)]),(mv 19 18),(mG 20 1 19 false),(mG 21 0 19 false),(oG 22 (.bin .eql) [.t 20,.t 21] 19 false),(op 23 .pick [.t 19,bT,.t 22]),(mv 16 23)] (rn 17 7 [])) <|
  .cond (.t 16) (.seq (rg [(op 4 .mv [(ic 0)])] []) <|
  .ret)
  (.seq (rg [(mv 25 5),(op 26 (.bin .eql) [.t 25,(ic 1)]),(mv 24 26)] [25,26]) <|
  .cond (.t 24) (.seq (rg [(mv 27 0),(mv 28 1),(op 29 .ixs [.t 28,(ic 0)]),(o2 30 (.call 131) 27 29),(mv 4 30)] [27,28,29,30,0,1]) <|
  .ret)
  (.seq (rg [(mv 32 5),(mv 33 0),(o1 34 (.len true) 33),(o2 35 (.bin .geq) 32 34),(mv 31 35)] [32,33,34,35]) <|
  .cond (.t 31) (.seq (rg [(op 4 .mv [(ic (-1))])] []) <|
  .ret)
  (.seq (rg [⟨none,.mv,[],.none,none,none⟩] []) <|
  .cond (.t 36) (.seq (rg [(mv 45 0),(mv 46 1),(o2 47 (.call 132) 45 46),(mv 4 47)] [45,46,47,0,1]) <|
  .ret)
  (.skip)))))) <|
  .seq (rg [(mv 48 1),(op 49 .ixs [.t 48,(ic 0)]),(mv 6 49)] [48,49]) <|
  .seq (rg [(mv 50 1),(op 51 .ixs [.t 50,(ic 1)]),(mv 7 51)] [50,51]) <|
  .seq (rg [(op 8 .mv [(ic 0)])] []) <|
  .seq (rg [(mv 52 0),(o1 53 (.len true) 52),(mv 54 5),(o2 55 (.bin .sub) 53 54),(op 56 (.bin .add) [.t 55,(ic 1)]),(mv 9 56)] (rn 52 5 [])) <|
  .seq (rg [(op 10 .mv [(ic 0)])] []) <|
  .seq (.block 1 (L101_0)) <|
  .seq (rg [(op 4 .mv [(ic (-1))])] []) <|
  .ret }
def F102:AFun:=
{nargs:=2,keep:=false,res:=[.tmp 4],body:=
  .seq (rg [(op 4 .mv [bF])] [4]) <|
  .seq (rg [(mv 5 0),(o1 6 (.len true) 5),(mv 7 1),(o1 8 (.len true) 7),(o2 9 (.bin .geq) 6 8),(mv 10 9),(mG 11 0 10 true),(mG 12 1 10 true),(oG 13 (.len true) [.t 12] 10 true),(oG 14 (.slc true 0 false true) [.t 11,.t 13] 10 true),(mG 15 1 10 true),(oG 16 (.bin .eql) [.t 14,.t 15] 10 true),(op 17 .pick [.t 10,.t 16,bF]),(mv 4 17)] (rn 5 13 [0,1])) <|
  .ret }
def L109_0:ACode:=
  .loop (8::9::4::(rn 10 17 [])) (.seq (rg [(o2 8 (.bin .lss) 7 6)] []) <|
  .seq (.cond (.t 8) (.skip)
  (.exit 0)) <|
  .seq (.block 1 (.seq (rg [(mv 9 7),(mv 4 9)] [9]) <|
  .seq (rg [(mv 10 0),(mv 11 4),(o2 12 (.ia 3) 10 11),(o1 13 (.fa 0) 12),(o1 14 ld1 13),(op 15 (.bin .eql) [.t 14,(ic 1)])] (rn 10 5 [])) <|
  .cond (.t 15) (rg [(mv 16 3),(mv 17 0),(mv 18 4),(o2 19 (.ia 3) 17 18),(o1 20 (.fa 1) 19),(o1 21 ld1 20),(o1 22 (.len true) 21),(o2 23 (.bin .add) 16 22),(mv 3 23)] (rn 16 8 [4]))
  (rg [(mv 24 3),(op 25 (.bin .add) [.t 24,(ic 1)]),(mv 3 25)] [24,25]))) <|
  rg [(op 26 (.bin .add) [.t 7,(ic 1)]),(mv 7 26)] [26])
def F109:AFun:=
{nargs:=1,keep:=false,res:=[.tmp 2],body:=
  .seq (rg [(op 2 .mv [(ic 0)])] [2]) <|
  .seq (rg [(op 3 .mv [(ic 0)])] []) <|
  .seq (.seq (rg [(mv 5 0),(o1 6 (.len false) 5),(op 7 .mv [(ic 0)])] [5]) <|
  .block 0 (L109_0)) <|
  .seq (rg [(mv 27 3),(mv 2 27)] [27,3]) <|
  .ret }
def L110_0:ACode:=
  .loop (81::82::5::83::84::85::86::6::(rn 87 26 [4,113])) (.seq (rg [(o2 81 (.bin .lss) 80 79)] []) <|
  .seq (.cond (.t 81) (.skip)
  (.exit 1)) <|
  .seq (.block 2 (.seq (rg [(mv 82 80),(mv 5 82)] [82]) <|
  .seq (.reg false [6] [(mv 83 0),(mv 84 5),(o2 85 (.ia 3) 83 84),(o1 86 (.ld true 3) 85),(oL 6 6 (.alloc [.int .i64 0,.str [],.int .i64 0]) []),(tL 6 (.st 3) [.t 6,.t 86])] [83,84,85,86,5]) <|
  .seq (.seq (rg [(oL 87 6 (.ld true 3) [.t 6]),(o1 88 (.call 89) 87),(o1 89 (.un .not) 88),(mv 90 89),(oG 91 (.fa 2) [.t 6] 90 false),(oH 92 6 ld1 [.t 91] 90 false),(oG 93 (.fa 2) [.t 3] 90 false),(oH 94 3 ld1 [.t 93] 90 false),(oG 95 (.bin .neq) [.t 92,.t 94] 90 false),(op 96 .pick [.t 90,bT,.t 95])] (rn 87 9 [])) <|
  .cond (.t 96) (.exit 2)
  (.skip)) <|
  .seq (.reg true [] [(o1 97 (.fa 0) 3),(oL 98 3 ld1 [.t 97]),(op 99 (.bin .neq) [.t 98,(ic 3)]),(mv 100 99),(oG 101 (.fa 0) [.t 6] 100 false),(oH 102 6 ld1 [.t 101] 100 false),(oG 103 (.bin .neq) [.t 102,(ic 2)] 100 false),(op 104 .pick [.t 100,bT,.t 103]),(mv 105 104),(oG 106 (.fa 1) [.t 6] 105 false),(oH 107 6 ld1 [.t 106] 105 false),(oG 108 (.call 56) [.t 107] 105 false),(oG 109 (.fa 1) [.t 3] 105 false),(oH 110 3 ld1 [.t 109] 105 false),(oG 111 (.bin .neq) [.t 108,.t 110] 105 false),(op 112 .pick [.t 105,bT,.t 111])] (rn 97 15 [6])) <|
  .cond (.t 112) (.seq (rg [(op 4 .mv [(ic 7)])] []) <|
  .ret)
  (.skip))) <|
  rg [(op 113 (.bin .add) [.t 80,(ic 1)]),(mv 80 113)] [113])
def F110:AFun:=
{nargs:=2,keep:=false,res:=[.tmp 4],body:=
  .seq (.reg false [3] [(oL 3 3 (.box 3) [.t 1]),(op 4 .mv [(ic 0)])] [4,1]) <|
  .seq (.seq (rg [(o1 7 (.fa 0) 3),(oL 8 3 ld1 [.t 7])] [7]) <|
  .block 0 (.seq (rg [(op 10 (.bin .eql) [.t 8,(ic 1)]),(mv 9 10)] [10]) <|
  .cond (.t 9) (.seq (.seq (rg [(o1 11 (.fa 1) 3),(oL 12 3 ld1 [.t 11]),(op 13 (.bin .eql) [.t 12,.c (.str [])]),(mv 14 13),(oG 15 (.fa 2) [.t 3] 14 false),(oH 16 3 ld1 [.t 15] 14 false),(oG 17 (.bin .neq) [.t 16,(ic 0)] 14 false),(op 18 .pick [.t 14,bT,.t 17]),(mv 19 18),(mG 20 0 19 false),(oG 21 (.len false) [.t 20] 19 false),(oG 22 (.bin .gtr) [.t 21,(ic 0)] 19 false),(mG 23 22 19 false),(mG 24 0 23 true),(mG 25 0 23 true),(oG 26 (.len false) [.t 25] 23 true),(oG 27 (.bin .sub) [.t 26,(ic 1)] 23 true),(oG 28 (.ia 3) [.t 24,.t 27] 23 true),(oG 29 (.fa 0) [.t 28] 23 true),(oG 30 ld1 [.t 29] 23 true),(oG 31 (.bin .eql) [.t 30,(ic 1)] 23 true),(oG 32 .pick [.t 23,.t 31,bF] 19 false),(op 33 .pick [.t 19,bT,.t 32])] (rn 11 22 [3,0])) <|
  .cond (.t 33) (.seq (rg [(op 4 .mv [(ic 1)])] []) <|
  .ret)
  (.skip)) <|
  .seq (rg [(op 4 .mv [(ic 0)])] []) <|
  .ret)
  (.seq (rg [(op 35 (.bin .eql) [.t 8,(ic 5)]),(mv 34 35)] [35]) <|
  .cond (.t 34) (.seq (.seq (rg [(o1 36 (.fa 1) 3),(oL 37 3 ld1 [.t 36]),(o1 38 (.call 112) 37),(o1 39 (.un .not) 38),(mv 40 39),(oG 41 (.fa 2) [.t 3] 40 false),(oH 42 3 ld1 [.t 41] 40 false),(oG 43 (.bin .neq) [.t 42,(ic 0)] 40 false),(op 44 .pick [.t 40,bT,.t 43])] (rn 36 8 [3])) <|
  .cond (.t 44) (.seq (rg [(op 4 .mv [(ic 1)])] []) <|
  .ret)
  (.skip)) <|
  .seq (rg [(op 4 .mv [(ic 0)])] []) <|
  .ret)
  (.seq (.seq (rg [(op 46 (.bin .eql) [.t 8,(ic 2)]),(mv 45 46)] [46]) <|
  .cond (.t 45) (.skip)
  (rg [(op 47 (.bin .eql) [.t 8,(ic 4)]),(mv 45 47)] [47])) <|
  .cond (.t 45) (.seq (rg [(o1 48 (.fa 1) 3),(oL 49 3 ld1 [.t 48]),(o1 50 (.call 137) 49),(o1 51 (.un .not) 50),(mv 52 51),(oG 53 (.fa 2) [.t 3] 52 false),(oH 54 3 ld1 [.t 53] 52 false),(oG 55 (.bin .lss) [.t 54,(ic 1)] 52 false),(op 56 .pick [.t 52,bT,.t 55]),(mv 57 56),(oG 58 (.fa 2) [.t 3] 57 false),(oH 59 3 ld1 [.t 58] 57 false),(oG 60 (.bin .gtr) [.t 59,(ic 999)] 57 false),(op 61 .pick [.t 57,bT,.t 60])] (rn 48 13 [])) <|
  .cond (.t 61) (.seq (rg [(op 4 .mv [(ic 1)])] []) <|
  .ret)
  (.skip))
  (.seq (rg [(op 63 (.bin .eql) [.t 8,(ic 3)]),(mv 62 63)] [63,8]) <|
  .cond (.t 62) (.seq (rg [(o1 64 (.fa 1) 3),(oL 65 3 ld1 [.t 64]),(o1 66 (.call 112) 65),(o1 67 (.un .not) 66),(mv 68 67),(oG 69 (.fa 2) [.t 3] 68 false),(oH 70 3 ld1 [.t 69] 68 false),(oG 71 (.bin .lss) [.t 70,(ic 1)] 68 false),(op 72 .pick [.t 68,bT,.t 71]),(mv 73 72),(oG 74 (.fa 2) [.t 3] 73 false),(oH 75 3 ld1 [.t 74] 73 false),(oG 76 (.bin .gtr) [.t 75,(ic 999)] 73 false),(op 77 .pick [.t 73,bT,.t 76])] (rn 64 13 [])) <|
  .cond (.t 77) (.seq (rg [(op 4 .mv [(ic 1)])] []) <|
  .ret)
  (.skip))
  (.seq (rg [(op 4 .mv [(ic 1)])] []) <|
  .ret)))))) <|
  .seq (.seq (rg [(mv 78 0),(o1 79 (.len false) 78),(op 80 .mv [(ic 0)])] [78]) <|
  .block 1 (L110_0)) <|
  .seq (rg [(op 4 .mv [(ic 0)])] []) <|
  .ret }
def L111_0:ACode:=
  .loop (rn 11 8 (rn 21 16 [3,19,20])) (.seq (.seq (rg [(mv 11 4),(mv 12 0),(o1 13 (.len true) 12),(o2 14 (.bin .lss) 11 13),(mv 15 14),(mG 16 4 15 true),(oG 17 (.bin .leq) [.t 16,(ic 25)] 15 true),(op 18 .pick [.t 15,.t 17,bF])] (rn 11 7 [])) <|
  .cond (.t 18) (.skip)
  (.exit 1)) <|
  .seq (.block 2 (.seq (rg [(mv 21 0),(mv 22 4),(o2 23 .ixs 21 22),(op 24 (.bin .eql) [.t 23,.c (.int .u8 125)]),(mv 25 24),(mG 26 0 25 true),(mG 27 4 25 true),(oG 28 (.slc true 0 true true) [.t 26,(ic 1),.t 27] 25 true),(oG 29 (.call 112) [.t 28] 25 true),(op 30 .pick [.t 25,.t 29,bF])] (rn 21 9 [])) <|
  .cond (.t 30) (.seq (rg [(mv 31 0),(mv 32 4),(op 33 (.slc true 0 true true) [.t 31,(ic 1),.t 32]),(op 34 (.build [.int .i64 0,.str [],.int .i64 0] [(0,1),(1,1)]) [(ic 5),.t 33]),(mv 35 4),(op 36 (.bin .add) [.t 35,(ic 1)]),(tL 2 (.st 3) [.t 2,.t 34]),(mv 3 36)] (rn 31 6 [0,4])) <|
  .ret)
  (.skip))) <|
  rg [(mv 19 4),(op 20 (.bin .add) [.t 19,(ic 1)]),(mv 4 20)] [19,20])
def L111_1:ACode:=
  .loop (46::47::50::51::52::6::(rn 53 20 [3,48,49])) (.seq (.seq (rg [(mv 46 5),(op 47 (.bin .lss) [.t 46,(ic 256)])] [46]) <|
  .cond (.t 47) (.skip)
  (.exit 3)) <|
  .seq (.block 4 (.seq (rg [(mv 50 5),(o1 51 (.cvi .u8) 50),(o1 52 (.call 130) 51),(mv 6 52)] [50,51,52]) <|
  .seq (rg [(mv 53 0),(o1 54 (.len true) 53),(mv 55 6),(o1 56 (.len true) 55),(o2 57 (.bin .geq) 54 56),(mv 58 57),(mG 59 0 58 true),(mG 60 6 58 true),(oG 61 (.len true) [.t 60] 58 true),(oG 62 (.slc true 0 false true) [.t 59,.t 61] 58 true),(mG 63 6 58 true),(oG 64 (.bin .eql) [.t 62,.t 63] 58 true),(op 65 .pick [.t 58,.t 64,bF])] (rn 53 12 [])) <|
  .cond (.t 65) (.seq (rg [(mv 66 5),(o1 67 (.cvi .u8) 66),(o1 68 (.mks 1 [.int .u8 0] 1 [0]) 67),(o1 69 .b2s 68),(op 70 (.build [.int .i64 0,.str [],.int .i64 0] [(0,1),(1,1)]) [(ic 1),.t 69]),(mv 71 6),(o1 72 (.len true) 71),(tL 2 (.st 3) [.t 2,.t 70]),(mv 3 72)] (rn 66 7 [5,6])) <|
  .ret)
  (.skip))) <|
  rg [(mv 48 5),(op 49 (.bin .add) [.t 48,(ic 1)]),(mv 5 49)] [48,49])
def F111:AFun:=
{nargs:=1,keep:=false,res:=[.cell 2 true 3,.tmp 3],body:=
  .seq (.reg false [2] [(oL 2 2 (.alloc [.int .i64 0,.str [],.int .i64 0]) []),(op 3 .mv [(ic 0)])] [3]) <|
  .seq (.block 0 (.seq (rg [(mv 8 0),(op 9 .ixs [.t 8,(ic 0)]),(op 10 (.bin .eql) [.t 9,.c (.int .u8 123)]),(mv 7 10)] [8,9,10]) <|
  .cond (.t 7) (.seq (.seq (rg [(op 4 .mv [(ic 1)])] []) <|
  .block 1 (L111_0)) <|
  .seq (rg [(op 37 (.build [.int .i64 0,.str [],.int .i64 0] []) []),(tL 2 (.st 3) [.t 2,.t 37]),(op 3 .mv [(ic 0)])] [37]) <|
  .ret)
  (.seq (rg [(mv 39 0),(op 40 .ixs [.t 39,(ic 0)]),(op 41 (.bin .eql) [.t 40,.c (.int .u8 60)]),(mv 38 41)] [39,40,41]) <|
  .cond (.t 38) (.seq (rg [(mv 42 0),(o1 43 (.call 138) 42),(o1 44 (.ext 0) 43),(o1 45 (.ext 1) 43),(tL 2 (.st 3) [.t 2,.t 44]),(mv 3 45)] [42,43,44,45,0]) <|
  .ret)
  (.skip)))) <|
  .seq (.seq (rg [(op 5 .mv [(ic 0)])] []) <|
  .block 3 (L111_1)) <|
  .seq (rg [(op 73 (.build [.int .i64 0,.str [],.int .i64 0] []) []),(tL 2 (.st 3) [.t 2,.t 73]),(op 3 .mv [(ic 0)])] [73]) <|
  .ret }
def L112_0:ACode:=
  .loop (13::14::15::16::19::20::21::4::(rn 22 22 [2,17,18])) (.seq (.seq (rg [(mv 13 3),(mv 14 0),(o1 15 (.len true) 14),(o2 16 (.bin .lss) 13 15)] [13,14,15]) <|
  .cond (.t 16) (.skip)
  (.exit 0)) <|
  .seq (.block 1 (.seq (rg [(mv 19 0),(mv 20 3),(o2 21 .ixs 19 20),(mv 4 21)] [19,20,21]) <|
  .seq (.seq (rg [(mv 22 4),(op 23 (.bin .geq) [.t 22,.c (.int .u8 97)]),(mv 24 23),(mG 25 4 24 true),(oG 26 (.bin .leq) [.t 25,.c (.int .u8 122)] 24 true),(op 27 .pick [.t 24,.t 26,bF]),(mv 28 27),(mG 29 3 28 false),(oG 30 (.bin .gtr) [.t 29,(ic 0)] 28 false),(mG 31 30 28 false),(mG 32 4 31 true),(oG 33 (.bin .geq) [.t 32,.c (.int .u8 48)] 31 true),(mG 34 33 31 true),(mG 35 4 34 true),(oG 36 (.bin .leq) [.t 35,.c (.int .u8 57)] 34 true),(oG 37 .pick [.t 34,.t 36,bF] 31 true),(mG 38 37 31 true),(mG 39 4 38 false),(oG 40 (.bin .eql) [.t 39,.c (.int .u8 45)] 38 false),(oG 41 .pick [.t 38,bT,.t 40] 31 true),(oG 42 .pick [.t 31,.t 41,bF] 28 false),(op 43 .pick [.t 28,bT,.t 42])] (rn 22 21 [4])) <|
  .cond (.t 43) (.exit 1)
  (.skip)) <|
  .seq (rg [(op 2 .mv [bF])] []) <|
  .ret)) <|
  rg [(mv 17 3),(op 18 (.bin .add) [.t 17,(ic 1)]),(mv 3 18)] [17,18])
def F112:AFun:=
{nargs:=1,keep:=false,res:=[.tmp 2],body:=
  .seq (rg [(op 2 .mv [bF])] [2]) <|
  .seq (.seq (rg [(mv 5 0),(o1 6 (.len true) 5),(op 7 (.bin .lss) [.t 6,(ic 1)]),(mv 8 7),(mG 9 0 8 false),(oG 10 (.len true) [.t 9] 8 false),(oG 11 (.bin .gtr) [.t 10,(ic 24)] 8 false),(op 12 .pick [.t 8,bT,.t 11])] (rn 5 7 [])) <|
  .cond (.t 12) (.seq (rg [(op 2 .mv [bF])] []) <|
  .ret)
  (.skip)) <|
  .seq (.seq (rg [(op 3 .mv [(ic 0)])] []) <|
  .block 0 (L112_0)) <|
  .seq (rg [(op 2 .mv [bT])] []) <|
  .ret }
def L113_0:ACode:=
  .loop [9,10,11,5,12,13,14,15,16] (.seq (rg [(o2 9 (.bin .lss) 8 7)] []) <|
  .seq (.cond (.t 9) (.skip)
  (.exit 0)) <|
  .seq (.block 1 (.seq (.reg false [5] [(o2 10 (.ia 3) 6 8),(o1 11 (.ld true 3) 10),(oL 5 5 (.alloc [.int .i64 0,.str [],.int .i64 0]) []),(tL 5 (.st 3) [.t 5,.t 11])] [10,11]) <|
  rg [(mv 12 3),(oL 13 5 (.ld true 3) [.t 5]),(o1 14 (.call 139) 13),(o2 15 (.bin .add) 12 14),(mv 3 15)] [12,13,14,15,5])) <|
  rg [(op 16 (.bin .add) [.t 8,(ic 1)]),(mv 8 16)] [16])
def F113:AFun:=
{nargs:=1,keep:=false,res:=[.tmp 2],body:=
  .seq (rg [(op 2 .mv [(ic 0)])] [2]) <|
  .seq (rg [(op 3 .mv [(ic 0)])] []) <|
  .seq (.seq (rg [(mv 6 0),(o1 7 (.len false) 6),(op 8 .mv [(ic 0)])] [0]) <|
  .block 0 (L113_0)) <|
  .seq (rg [(mv 17 3),(mv 2 17)] [17,3]) <|
  .ret }
def F114:AFun:=
{nargs:=2,keep:=false,res:=[.tmp 4],body:=
  .seq (rg [(op 4 .mv [bF])] [4]) <|
  .seq (.reg false [5] [(mv 6 0),(mv 7 1),(o2 8 (.ia 3) 6 7),(o1 9 (.ld true 3) 8),(oL 5 5 (.alloc [.int .i64 0,.str [],.int .i64 0]) []),(tL 5 (.st 3) [.t 5,.t 9])] [6,7,8,9]) <|
  .seq (.seq (rg [(o1 10 (.fa 0) 5),(oL 11 5 ld1 [.t 10])] [10]) <|
  .block 0 (.seq (rg [(op 13 (.bin .eql) [.t 11,(ic 1)]),(mv 12 13)] [13]) <|
  .cond (.t 12) (.seq (rg [(o1 14 (.fa 1) 5),(oL 15 5 ld1 [.t 14]),(op 16 (.bin .neq) [.t 15,.c (.str [])]),(mv 17 16),(oG 18 (.fa 2) [.t 5] 17 true),(oH 19 5 ld1 [.t 18] 17 true),(oG 20 (.bin .eql) [.t 19,(ic 0)] 17 true),(op 21 .pick [.t 17,.t 20,bF]),(mv 22 21),(mG 23 1 22 true),(oG 24 (.bin .eql) [.t 23,(ic 0)] 22 true),(mG 25 24 22 true),(mG 26 0 25 false),(mG 27 1 25 false),(oG 28 (.bin .sub) [.t 27,(ic 1)] 25 false),(oG 29 (.ia 3) [.t 26,.t 28] 25 false),(oG 30 (.fa 0) [.t 29] 25 false),(oG 31 ld1 [.t 30] 25 false),(oG 32 (.bin .neq) [.t 31,(ic 1)] 25 false),(oG 33 .pick [.t 25,bT,.t 32] 22 true),(op 34 .pick [.t 22,.t 33,bF]),(mv 4 34)] (rn 14 21 [5,1,0])) <|
  .ret)
  (.seq (rg [(op 36 (.bin .eql) [.t 11,(ic 5)]),(mv 35 36)] [36]) <|
  .cond (.t 35) (.seq (rg [(o1 37 (.fa 1) 5),(oL 38 5 ld1 [.t 37]),(o1 39 (.call 95) 38),(mv 40 39),(oG 41 (.fa 2) [.t 5] 40 true),(oH 42 5 ld1 [.t 41] 40 true),(oG 43 (.bin .eql) [.t 42,(ic 0)] 40 true),(op 44 .pick [.t 40,.t 43,bF]),(mv 4 44)] (rn 37 8 [5])) <|
  .ret)
  (.seq (.seq (rg [(op 46 (.bin .eql) [.t 11,(ic 2)]),(mv 45 46)] [46]) <|
  .cond (.t 45) (.skip)
  (rg [(op 47 (.bin .eql) [.t 11,(ic 4)]),(mv 45 47)] [47])) <|
  .cond (.t 45) (.seq (rg [(o1 48 (.fa 1) 5),(oL 49 5 ld1 [.t 48]),(o1 50 (.call 140) 49),(mv 51 50),(oG 52 (.fa 2) [.t 5] 51 true),(oH 53 5 ld1 [.t 52] 51 true),(oG 54 (.bin .geq) [.t 53,(ic 1)] 51 true),(op 55 .pick [.t 51,.t 54,bF]),(mv 56 55),(oG 57 (.fa 2) [.t 5] 56 true),(oH 58 5 ld1 [.t 57] 56 true),(oG 59 (.bin .leq) [.t 58,(ic 999)] 56 true),(op 60 .pick [.t 56,.t 59,bF]),(mv 4 60)] (rn 48 13 [5])) <|
  .ret)
  (.seq (rg [(op 62 (.bin .eql) [.t 11,(ic 3)]),(mv 61 62)] [62,11]) <|
  .cond (.t 61) (.seq (rg [(o1 63 (.fa 1) 5),(oL 64 5 ld1 [.t 63]),(o1 65 (.call 95) 64),(mv 66 65),(oG 67 (.fa 2) [.t 5] 66 true),(oH 68 5 ld1 [.t 67] 66 true),(oG 69 (.bin .geq) [.t 68,(ic 1)] 66 true),(op 70 .pick [.t 66,.t 69,bF]),(mv 71 70),(oG 72 (.fa 2) [.t 5] 71 true),(oH 73 5 ld1 [.t 72] 71 true),(oG 74 (.bin .leq) [.t 73,(ic 999)] 71 true),(op 75 .pick [.t 71,.t 74,bF]),(mv 4 75)] (rn 63 13 [5])) <|
  .ret)
  (.skip)))))) <|
  .seq (rg [(op 4 .mv [bF])] []) <|
  .ret }
def F115:AFun:=
{nargs:=1,keep:=false,res:=[.tmp 2],body:=
  .seq (.reg false [1] [(oL 1 1 (.box 3) [.t 0]),(op 2 .mv [bF])] [2,0]) <|
  .seq (rg [(o1 3 (.fa 0) 1),(oL 4 1 ld1 [.t 3]),(op 5 (.bin .eql) [.t 4,(ic 2)]),(mv 6 5),(oG 7 (.fa 0) [.t 1] 6 false),(oH 8 1 ld1 [.t 7] 6 false),(oG 9 (.bin .eql) [.t 8,(ic 3)] 6 false),(op 10 .pick [.t 6,bT,.t 9]),(mv 11 10),(oG 12 (.fa 0) [.t 1] 11 false),(oH 13 1 ld1 [.t 12] 11 false),(oG 14 (.bin .eql) [.t 13,(ic 4)] 11 false),(op 15 .pick [.t 11,bT,.t 14]),(mv 2 15)] (rn 3 13 [1])) <|
  .ret }
def L116_0:ACode:=
  .loop (10::11::12::6::(rn 13 26 [4,39])) (.seq (rg [(o2 10 (.bin .lss) 9 8)] []) <|
  .seq (.cond (.t 10) (.skip)
  (.exit 0)) <|
  .seq (.block 1 (.seq (.reg false [6] [(o2 11 (.ia 3) 7 9),(o1 12 (.ld true 3) 11),(oL 6 6 (.alloc [.int .i64 0,.str [],.int .i64 0]) []),(tL 6 (.st 3) [.t 6,.t 12])] [11,12]) <|
  .seq (.seq (rg [(oL 13 6 (.ld true 3) [.t 6]),(o1 14 (.call 115) 13),(o1 15 (.un .not) 14),(mv 16 15),(oG 17 (.fa 2) [.t 6] 16 false),(oH 18 6 ld1 [.t 17] 16 false),(oG 19 (.fa 2) [.t 3] 16 false),(oH 20 3 ld1 [.t 19] 16 false),(oG 21 (.bin .neq) [.t 18,.t 20] 16 false),(op 22 .pick [.t 16,bT,.t 21])] (rn 13 9 [])) <|
  .cond (.t 22) (.exit 1)
  (.skip)) <|
  .seq (.reg true [] [(o1 23 (.fa 0) 3),(oL 24 3 ld1 [.t 23]),(op 25 (.bin .neq) [.t 24,(ic 3)]),(mv 26 25),(oG 27 (.fa 0) [.t 6] 26 false),(oH 28 6 ld1 [.t 27] 26 false),(oG 29 (.bin .neq) [.t 28,(ic 2)] 26 false),(op 30 .pick [.t 26,bT,.t 29]),(mv 31 30),(oG 32 (.fa 1) [.t 6] 31 false),(oH 33 6 ld1 [.t 32] 31 false),(oG 34 (.call 141) [.t 33] 31 false),(oG 35 (.fa 1) [.t 3] 31 false),(oH 36 3 ld1 [.t 35] 31 false),(oG 37 (.bin .neq) [.t 34,.t 36] 31 false),(op 38 .pick [.t 31,bT,.t 37])] (rn 23 15 [6])) <|
  .cond (.t 38) (.seq (rg [(op 4 .mv [bF])] []) <|
  .ret)
  (.skip))) <|
  rg [(op 39 (.bin .add) [.t 9,(ic 1)]),(mv 9 39)] [39])
def F116:AFun:=
{nargs:=2,keep:=false,res:=[.tmp 4],body:=
  .seq (.reg false [3] [(oL 3 3 (.box 3) [.t 1]),(op 4 .mv [bF])] [4,1]) <|
  .seq (.seq (rg [(mv 7 0),(o1 8 (.len false) 7),(op 9 .mv [(ic 0)])] [0]) <|
  .block 0 (L116_0)) <|
  .seq (rg [(op 4 .mv [bT])] []) <|
  .ret }
def L117_0:ACode:=
  .loop (11::12::13::6::(rn 14 18 [])) (.seq (rg [(o2 11 (.bin .lss) 10 9)] []) <|
  .seq (.cond (.t 11) (.skip)
  (.exit 0)) <|
  .seq (.block 1 (.seq (.reg false [6] [(o2 12 (.ia 3) 8 10),(o1 13 (.ld true 3) 12),(oL 6 6 (.alloc [.int .i64 0,.str [],.int .i64 0]) []),(tL 6 (.st 3) [.t 6,.t 13])] [12,13]) <|
  .seq (rg [(oL 14 6 (.ld true 3) [.t 6]),(o1 15 (.call 115) 14),(mv 16 15),(mG 17 4 16 true),(oG 18 (.fa 2) [.t 6] 16 true),(oH 19 6 ld1 [.t 18] 16 true),
  ⟨(some 20),(.lkp false false [0] [.bool false]),[.t 17,.t 19],.sh,none,(some (16,true))⟩,
  (oG 21 (.un .not) [.t 20] 16 true),(op 22 .pick [.t 16,.t 21,bF])] (rn 14 8 [])) <|
  .cond (.t 22) (.seq (rg [(mv 23 4),(o1 24 (.fa 2) 6),(oL 25 6 ld1 [.t 24]),(tS (.mup [0]) [.t 23,.t 25,bT])] [23,24,25]) <|
  rg [(mO 26 3),(o1 27 (.fa 2) 6),(oL 28 6 ld1 [.t 27]),(o1 29 (.mks 1 [.int .i64 0] 1 [0]) 28),(oS 30 (.appS false 1 8) [.t 26,.t 29]),(mO 3 30)] (rn 26 5 [6]))
  (.skip))) <|
  rg [(op 31 (.bin .add) [.t 10,(ic 1)]),(mv 10 31)] [31])
def F117:AFun:=
{nargs:=1,keep:=true,res:=[.tmpD 2],body:=
  .seq (rg [(op 2 .mv [.c (.sl .full 1 [])])] [2]) <|
  .seq (rg [(op 3 .mv [.c (.sl .full 1 [])])] []) <|
  .seq (rg [(oS 7 .mkm []),(mv 4 7)] [7]) <|
  .seq (.seq (rg [(mv 8 0),(o1 9 (.len false) 8),(op 10 .mv [(ic 0)])] [0]) <|
  .block 0 (L117_0)) <|
  .seq (rg [(mv 32 3),(mO 2 32)] [32,3]) <|
  .ret }
def F118:AFun:=
{nargs:=2,keep:=false,res:=[.tmp 4],body:=
  .seq (rg [(op 4 .mv [bF])] [4]) <|
  .seq (rg [(mv 5 0),(mv 6 1),(o2 7 (.call 142) 5 6),(op 8 (.bin .geq) [.t 7,(ic 0)]),(mv 4 8)] [5,6,7,8,0,1]) <|
  .ret }
def L119_0:ACode:=
  .loop (21::22::(rn 25 9 [23,24])) (.seq (.seq (rg [(mv 21 8),(op 22 (.bin .geq) [.t 21,(ic 0)])] [21]) <|
  .cond (.t 22) (.skip)
  (.exit 0)) <|
  .seq (.block 1 (.reg true [] [(mv 25 7),(mv 26 1),(mv 27 8),(o2 28 (.ia 1) 26 27),(oS 29 ld1 [.t 28]),(mv 30 2),(mv 31 8),(o2 32 (.ia 1) 30 31),(o1 33 ld1 32),(tS (.mup [0]) [.t 25,.t 29,.t 33])] (rn 25 9 []))) <|
  rg [(mv 23 8),(op 24 (.bin .sub) [.t 23,(ic 1)]),(mv 8 24)] [23,24])
def L119_1:ACode:=
  .loop [37,38,39,11,40,41,43,44,45,46,42,47,48,12,13,49,50,51,52,53,54,55,56,57] (.seq (rg [(o2 37 (.bin .lss) 36 35)] []) <|
  .seq (.cond (.t 37) (.skip)
  (.exit 2)) <|
  .seq (.block 3 (.seq (.reg false [11] [(o2 38 (.ia 3) 34 36),(o1 39 (.ld true 3) 38),(oL 11 11 (.alloc [.int .i64 0,.str [],.int .i64 0]) []),(tL 11 (.st 3) [.t 11,.t 39])] [38,39]) <|
  .seq (.seq (rg [(oL 40 11 (.ld true 3) [.t 11]),(o1 41 (.call 115) 40)] [40]) <|
  .cond (.t 41) (.seq (rg [(mv 43 7),(o1 44 (.fa 2) 11),(oL 45 11 ld1 [.t 44]),(oS 46 (.lkp true false [0] [.int .i64 0]) [.t 43,.t 45]),(mv 42 46),(o1 47 (.ext 0) 42),(o1 48 (.ext 1) 42),(mv 12 47),(mv 13 48)] [43,44,45,46,42,47,48]) <|
  .seq (.seq (rg [(mv 49 13),(o1 50 (.un .not) 49)] [49,13]) <|
  .cond (.t 50) (.exit 3)
  (.skip)) <|
  rg [(mv 51 12),(o1 52 (.fa 2) 11),(tL 11 (.st 1) [.t 52,.t 51])] [51,52,12])
  (.skip)) <|
  rg [(mO 53 9),(oL 54 11 (.ld true 3) [.t 11]),(o1 55 (.mks 3 [.int .i64 0,.str [],.int .i64 0] 1 [0]) 54),(oD 56 (.app false 3 32) [.t 53,.t 55] 53),(mO 9 56)] [53,54,55,56,11])) <|
  rg [(op 57 (.bin .add) [.t 36,(ic 1)]),(mv 36 57)] [57])
def F119:AFun:=
{nargs:=3,keep:=true,res:=[.tmpD 6],body:=
  .seq (rg [(op 6 .mv [.c (.sl .full 3 [])])] [6]) <|
  .seq (rg [(oS 14 .mkm []),(mv 7 14)] [14]) <|
  .seq (.seq (rg [(mv 15 1),(o1 16 (.len false) 15),(mv 17 2),(o1 18 (.len false) 17),(o2 19 (.mm false) 16 18),(op 20 (.bin .sub) [.t 19,(ic 1)]),(mv 8 20)] (rn 15 6 [])) <|
  .block 0 (L119_0)) <|
  .seq (rg [(op 9 .mv [.c (.sl .full 3 [])])] []) <|
  .seq (.seq (rg [(mv 34 0),(o1 35 (.len false) 34),(op 36 .mv [(ic 0)])] [0]) <|
  .block 2 (L119_1)) <|
  .seq (rg [(mv 58 9),(o1 59 (.call 143) 58),(mO 6 59)] [58,59,9]) <|
  .ret }
def L120_0:ACode:=
  .loop (10::11::4::(rn 12 6 [])) (.seq (rg [(o2 10 (.bin .lss) 9 8)] []) <|
  .seq (.cond (.t 10) (.skip)
  (.exit 0)) <|
  .seq (.block 1 (.seq (rg [(mv 11 9),(mv 4 11)] [11]) <|
  rg [(mv 12 3),(mv 13 4),(mv 14 4),(op 15 (.bin .add) [.t 14,(ic 1)]),(o2 16 (.ia 1) 12 13),(tS (.st 1) [.t 16,.t 15])] (rn 12 5 [4]))) <|
  rg [(op 17 (.bin .add) [.t 9,(ic 1)]),(mv 9 17)] [17])
def F120:AFun:=
{nargs:=1,keep:=false,res:=[.tmp 2],body:=
  .seq (rg [(op 2 .mv [.c (.sl .full 1 [])])] [2]) <|
  .seq (rg [(mv 5 0),(oS 6 (.mkl 1 [.int .i64 0] 8) [.t 5,.t 5]),(mO 3 6)] [5,6,0]) <|
  .seq (.seq (rg [(mv 7 3),(o1 8 (.len false) 7),(op 9 .mv [(ic 0)])] [7]) <|
  .block 0 (L120_0)) <|
  .seq (rg [(mv 18 3),(mO 2 18)] [18,3]) <|
  .ret }
def L121_0:ACode:=
  .loop (14::15::5::(rn 16 9 [4,25])) (.seq (rg [(o2 14 (.bin .lss) 13 12)] []) <|
  .seq (.cond (.t 14) (.skip)
  (.exit 0)) <|
  .seq (.block 1 (.seq (rg [(mv 15 13),(mv 5 15)] [15]) <|
  .seq (.reg true [] [(mv 16 0),(mv 17 5),(o2 18 (.ia 3) 16 17),(o1 19 (.ld true 3) 18),(mv 20 1),(mv 21 5),(o2 22 (.ia 3) 20 21),(o1 23 (.ld true 3) 22),(o2 24 (.seq true [0,2,0]) 19 23)] (rn 16 8 [5])) <|
  .cond (.t 24) (.seq (rg [(op 4 .mv [bF])] []) <|
  .ret)
  (.skip))) <|
  rg [(op 25 (.bin .add) [.t 13,(ic 1)]),(mv 13 25)] [25])
def F121:AFun:=
{nargs:=2,keep:=false,res:=[.tmp 4],body:=
  .seq (rg [(op 4 .mv [bF])] [4]) <|
  .seq (.seq (rg [(mv 6 0),(o1 7 (.len false) 6),(mv 8 1),(o1 9 (.len false) 8),(o2 10 (.bin .neq) 7 9)] [6,7,8,9]) <|
  .cond (.t 10) (.seq (rg [(op 4 .mv [bF])] []) <|
  .ret)
  (.skip)) <|
  .seq (.seq (rg [(mv 11 0),(o1 12 (.len false) 11),(op 13 .mv [(ic 0)])] [11]) <|
  .block 0 (L121_0)) <|
  .seq (rg [(op 4 .mv [bT])] []) <|
  .ret }
def F122:AFun:=
{nargs:=1,keep:=false,res:=[.cell 2 true 3,.tmp 3,.tmp 4],body:=
  .seq (.reg false [2] [(oL 2 2 (.alloc [.int .i64 0,.str [],.int .i64 0]) []),(op 3 .mv [(ic 0)]),(op 4 .mv [bF])] [3,4]) <|
  .seq (.block 0 (.seq (rg [(mv 13 0),(op 14 .ixs [.t 13,(ic 0)]),(op 15 (.bin .eql) [.t 14,.c (.int .u8 92)]),(mv 12 15)] [13,14,15]) <|
  .cond (.t 12) (.seq (rg [(mv 17 0),(o1 18 (.call 144) 17),(mv 16 18),(o1 19 (.ext 0) 16),(o1 20 (.ext 1) 16),(o1 21 (.ext 2) 16),(mv 5 19),(mv 6 20),(mv 7 21)] [17,18,16,19,20,21,0]) <|
  .seq (rg [(mv 22 5),(o1 23 (.mks 1 [.int .u8 0] 1 [0]) 22),(o1 24 .b2s 23),(op 25 (.build [.int .i64 0,.str [],.int .i64 0] [(0,1),(1,1)]) [(ic 1),.t 24]),(mv 26 6),(mv 27 7),(tL 2 (.st 3) [.t 2,.t 25]),(mv 3 26),(mv 4 27)] (rn 22 6 [5,6,7])) <|
  .ret)
  (.seq (rg [(mv 29 0),(op 30 .ixs [.t 29,(ic 0)]),(op 31 (.bin .eql) [.t 30,.c (.int .u8 60)]),(mv 28 31)] [29,30,31]) <|
  .cond (.t 28) (.seq (rg [(mv 32 0),(op 33 (.call 145) [.t 32,.c (.int .u8 62)]),(mv 8 33)] [32,33]) <|
  .seq (.seq (rg [(mv 34 8),(op 35 (.bin .lss) [.t 34,(ic 0)])] [34]) <|
  .cond (.t 35) (.seq (rg [(op 36 (.build [.int .i64 0,.str [],.int .i64 0] []) []),(tL 2 (.st 3) [.t 2,.t 36]),(op 3 .mv [(ic 0)]),(op 4 .mv [bF])] [36]) <|
  .ret)
  (.skip)) <|
  .seq (.reg false [9] [(mv 38 0),(mv 39 8),(op 40 (.slc true 0 true true) [.t 38,(ic 1),.t 39]),(o1 41 (.call 146) 40),(mv 37 41),(o1 42 (.ext 0) 37),(o1 43 (.ext 1) 37),(oL 9 9 (.alloc [.int .i64 0,.str [],.int .i64 0]) []),(tL 9 (.st 3) [.t 9,.t 42]),(mv 10 43)] [38,39,40,41,37,42,43,0]) <|
  .seq (rg [(oL 44 9 (.ld true 3) [.t 9]),(mv 45 8),(op 46 (.bin .add) [.t 45,(ic 1)]),(mv 47 10),(tL 2 (.st 3) [.t 2,.t 44]),(mv 3 46),(mv 4 47)] [44,45,46,47,9,8,10]) <|
  .ret)
  (.seq (rg [(mv 49 0),(op 50 .ixs [.t 49,(ic 0)]),(op 51 (.bin .eql) [.t 50,.c (.int .u8 123)]),(mv 48 51)] [49,50,51]) <|
  .cond (.t 48) (.seq (rg [(mv 52 0),(op 53 (.call 145) [.t 52,.c (.int .u8 125)]),(mv 11 53)] [52,53]) <|
  .seq (.seq (rg [(mv 54 11),(op 55 (.bin .lss) [.t 54,(ic 0)]),(mv 56 55),(mG 57 0 56 false),(mG 58 11 56 false),(oG 59 (.slc true 0 true true) [.t 57,(ic 1),.t 58] 56 false),(oG 60 (.call 95) [.t 59] 56 false),(oG 61 (.un .not) [.t 60] 56 false),(op 62 .pick [.t 56,bT,.t 61])] (rn 54 8 [])) <|
  .cond (.t 62) (.seq (rg [(op 63 (.build [.int .i64 0,.str [],.int .i64 0] []) []),(tL 2 (.st 3) [.t 2,.t 63]),(op 3 .mv [(ic 0)]),(op 4 .mv [bF])] [63]) <|
  .ret)
  (.skip)) <|
  .seq (rg [(mv 64 0),(mv 65 11),(op 66 (.slc true 0 true true) [.t 64,(ic 1),.t 65]),(op 67 (.build [.int .i64 0,.str [],.int .i64 0] [(0,1),(1,1)]) [(ic 5),.t 66]),(mv 68 11),(op 69 (.bin .add) [.t 68,(ic 1)]),(tL 2 (.st 3) [.t 2,.t 67]),(mv 3 69),(op 4 .mv [bT])] (rn 64 6 [0,11])) <|
  .ret)
  (.skip))))) <|
  .seq (.reg true [] [(mv 70 0),(op 71 (.slc true 0 false true) [.t 70,(ic 1)]),(op 72 (.build [.int .i64 0,.str [],.int .i64 0] [(0,1),(1,1)]) [(ic 1),.t 71]),(mv 73 0),(op 74 .ixs [.t 73,(ic 0)]),(o1 75 (.call 129) 74),(tL 2 (.st 3) [.t 2,.t 72]),(op 3 .mv [(ic 1)]),(mv 4 75)] (rn 70 6 [0])) <|
  .ret }
def F123:AFun:=
{nargs:=2,keep:=false,res:=[.tmp 4],body:=
  .seq (.reg false [3] [(oL 3 3 (.box 3) [.t 1]),(op 4 .mv [(ic 0)])] [4,1]) <|
  .seq (rg [(o1 9 (.fa 0) 3),(oL 10 3 ld1 [.t 9]),(op 11 (.bin .neq) [.t 10,(ic 1)]),(mv 12 11),(oG 13 (.fa 0) [.t 3] 12 true),(oH 14 3 ld1 [.t 13] 12 true),(oG 15 (.bin .neq) [.t 14,(ic 5)] 12 true),(op 16 .pick [.t 12,.t 15,bF]),(mv 5 16)] (rn 9 8 [])) <|
  .seq (.seq (rg [(mv 17 5)] []) <|
  .cond (.t 17) (.seq (.reg true [6] [(mv 19 0),(o1 20 .nilc 19),(o1 21 (.fa 3) 20),(oS 22 ld1 [.t 21]),(o1 23 (.fa 2) 3),(oL 24 3 ld1 [.t 23]),(oS 25 (.lkp true true [0] [.int .i64 0,.str [],.int .i64 0]) [.t 22,.t 24]),(mv 18 25),(o1 26 (.ext 0) 18),(o1 27 (.ext 1) 18),(oL 6 6 (.alloc [.int .i64 0,.str [],.int .i64 0]) []),(tL 6 (.st 3) [.t 6,.t 26]),(mv 7 27)] (rn 19 7 [18,26,27])) <|
  .seq (.reg true [] [(mv 28 7),(mv 29 28),(oG 30 (.fa 0) [.t 3] 29 true),(oH 31 3 ld1 [.t 30] 29 true),(oG 32 (.bin .neq) [.t 31,(ic 3)] 29 true),(mG 33 32 29 true),(oG 34 (.fa 0) [.t 6] 33 false),(oH 35 6 ld1 [.t 34] 33 false),(oG 36 (.bin .neq) [.t 35,(ic 2)] 33 false),(oG 37 .pick [.t 33,bT,.t 36] 29 true),(mG 38 37 29 true),(oG 39 (.fa 1) [.t 6] 38 false),(oH 40 6 ld1 [.t 39] 38 false),(oG 41 (.call 147) [.t 40] 38 false),(oG 42 (.fa 1) [.t 3] 38 false),(oH 43 3 ld1 [.t 42] 38 false),(oG 44 (.bin .neq) [.t 41,.t 43] 38 false),(oG 45 .pick [.t 38,bT,.t 44] 29 true),(op 46 .pick [.t 29,.t 45,bF])] (rn 28 18 [7,6])) <|
  .cond (.t 46) (.seq (rg [(op 4 .mv [(ic 7)])] []) <|
  .ret)
  (.skip))
  (.skip)) <|
  .seq (rg [(mv 47 0),(o1 48 .nilc 47),(o1 49 (.fa 0) 48),(oS 50 ld1 [.t 49]),(o1 51 (.len false) 50),(mv 8 51)] (rn 47 5 [])) <|
  .seq (.seq (rg [(mv 52 0),(o1 53 .nilc 52),(o1 54 (.fa 1) 53),(oS 55 ld1 [.t 54]),(o1 56 (.len false) 55),(op 57 (.bin .gtr) [.t 56,(ic 0)])] (rn 52 5 [])) <|
  .cond (.t 57) (rg [(mv 58 8),(op 59 (.bin .add) [.t 58,(ic 1)]),(mv 8 59)] [58,59])
  (.skip)) <|
  .seq (.seq (rg [(o1 60 (.fa 0) 3),(oL 61 3 ld1 [.t 60]),(op 62 (.bin .neq) [.t 61,(ic 1)]),(mv 63 62),(mG 64 0 63 false),(oG 65 .nilc [.t 64] 63 false),(oG 66 (.fa 1) [.t 65] 63 false),
  ⟨(some 67),ld1,[.t 66],.sh,none,(some (63,false))⟩,
  (oG 68 (.len false) [.t 67] 63 false),(oG 69 (.bin .eql) [.t 68,(ic 0)] 63 false),(op 70 .pick [.t 63,bT,.t 69])] (rn 60 10 [])) <|
  .cond (.t 70) (rg [(mv 71 8),(op 72 (.bin .add) [.t 71,(ic 1)]),(mv 8 72)] [71,72])
  (.skip)) <|
  .seq (.seq (rg [(mv 73 8),(op 74 (.bin .gtr) [.t 73,(ic 512)]),(mv 75 74),(mG 76 0 75 false),(oG 77 .nilc [.t 76] 75 false),(oG 78 (.fa 2) [.t 77] 75 false),
  ⟨(some 79),ld1,[.t 78],.sh,none,(some (75,false))⟩,
  (oG 80 (.bin .add) [.t 79,(ic 1)] 75 false),(oG 81 (.bin .gtr) [.t 80,(ic 1024)] 75 false),(op 82 .pick [.t 75,bT,.t 81])] (rn 73 9 [8])) <|
  .cond (.t 82) (.seq (rg [(op 4 .mv [(ic 3)])] []) <|
  .ret)
  (.skip)) <|
  .seq (rg [(mv 83 0),(o1 84 .nilc 83),(o1 85 (.fa 2) 84),(oS 86 ld1 [.t 85]),(op 87 (.bin .add) [.t 86,(ic 1)]),(o1 88 .nilc 83),(o1 89 (.fa 2) 88),(tS (.st 1) [.t 89,.t 87])] (rn 83 7 [])) <|
  .seq (.seq (rg [(o1 90 (.fa 0) 3),(oL 91 3 ld1 [.t 90]),(op 92 (.bin .eql) [.t 91,(ic 1)])] [90,91]) <|
  .cond (.t 92) (.seq (.reg true [] [(mv 93 0),(mv 94 0),(o1 95 .nilc 94),(o1 96 (.fa 1) 95),(oS 97 .ldo [.t 96]),(o1 98 (.fa 1) 3),(oL 99 3 ld1 [.t 98]),(oD 100 (.app true 1 1) [.t 97,.t 99] 97),(o1 101 .nilc 93),(o1 102 (.fa 1) 101),
  ⟨none,.sto,[.t 102,.t 100],.sh,(some 100),none⟩] (rn 93 10 [0,3])) <|
  .seq (rg [(op 4 .mv [(ic 0)])] []) <|
  .ret)
  (.skip)) <|
  .seq (.seq (rg [(mv 103 5)] [5]) <|
  .cond (.t 103) (.reg true [] [(mv 104 0),(o1 105 .nilc 104),(o1 106 (.fa 3) 105),(oS 107 ld1 [.t 106]),(o1 108 (.fa 2) 3),(oL 109 3 ld1 [.t 108]),(oL 110 3 (.ld true 3) [.t 3]),(tS (.mup [0]) [.t 107,.t 109,.t 110])] (rn 104 7 []))
  (.skip)) <|
  .seq (rg [(mv 111 0),(oS 112 (.call 124) [.t 111])] [111,112]) <|
  .seq (.reg true [] [(mv 113 0),(mv 114 0),(o1 115 .nilc 114),(o1 116 (.fa 0) 115),(oS 117 .ldo [.t 116]),(oL 118 3 (.ld true 3) [.t 3]),(o1 119 (.mks 3 [.int .i64 0,.str [],.int .i64 0] 1 [0]) 118),(oD 120 (.app false 3 32) [.t 117,.t 119] 117),(o1 121 .nilc 113),(o1 122 (.fa 0) 121),
  ⟨none,.sto,[.t 122,.t 120],.sh,(some 120),none⟩] (rn 113 10 [0,3])) <|
  .seq (rg [(op 4 .mv [(ic 0)])] []) <|
  .ret }
def F124:AFun:=
{nargs:=1,keep:=false,res:=[],body:=
  .seq (rg [(mv 2 0),(o1 3 .nilc 2),(o1 4 (.fa 1) 3),(oS 5 ld1 [.t 4]),(o1 6 (.len false) 5),(op 7 (.bin .gtr) [.t 6,(ic 0)])] [2,3,4,5,6]) <|
  .cond (.t 7) (.seq (.reg true [] [(mv 8 0),(mv 9 0),(o1 10 .nilc 9),(o1 11 (.fa 0) 10),(oS 12 .ldo [.t 11]),(mv 13 0),(o1 14 .nilc 13),(o1 15 (.fa 1) 14),(oS 16 ld1 [.t 15]),(o1 17 .b2s 16),(op 18 (.build [.int .i64 0,.str [],.int .i64 0] [(0,1),(1,1)]) [(ic 1),.t 17]),(o1 19 (.mks 3 [.int .i64 0,.str [],.int .i64 0] 1 [0]) 18),(oD 20 (.app false 3 32) [.t 12,.t 19] 12),(o1 21 .nilc 8),(o1 22 (.fa 0) 21),
  ⟨none,.sto,[.t 22,.t 20],.sh,(some 20),none⟩] (rn 8 15 [])) <|
  rg [(mv 23 0),(o1 24 .nilc 23),(o1 25 (.fa 1) 24),(tS .sto [.t 25,.c (.sl .full 1 [])])] [23,24,25,0])
  (.skip) }
def F125:AFun:=
{nargs:=1,keep:=false,res:=[.tmp 2],body:=
  .seq (rg [(op 2 .mv [.c (.str [])])] [2]) <|
  .seq (.seq (rg [(mv 3 0),(op 4 (.bin .lss) [.t 3,(ic 10)])] [3]) <|
  .cond (.t 4) (.seq (rg [(mv 5 0),(mv 6 0),(op 7 (.bin .add) [.t 6,(ic 1)]),(op 8 (.slc true 0 true true) [.c (.str [48,49,50,51,52,53,54,55,56,57,97,98,99,100,101,102,103,104,105,106,107,108,109,110,111,112,113,114,115,116,117,118,119,120,121,122]),.t 5,.t 7]),(mv 2 8)] [5,6,7,8,0]) <|
  .ret)
  (.skip)) <|
  .seq (rg [(mv 9 0),(op 10 (.bin .mul) [.t 9,(ic 2)]),(mv 11 0),(op 12 (.bin .mul) [.t 11,(ic 2)]),(op 13 (.bin .add) [.t 12,(ic 2)]),(op 14 (.slc true 0 true true) [.c (.str [48,48,48,49,48,50,48,51,48,52,48,53,48,54,48,55,48,56,48,57,49,48,49,49,49,50,49,51,49,52,49,53,49,54,49,55,49,56,49,57,50,48,50,49,50,50,50,51,50,52,50,53,50,54,50,55,50,56,50,57,51,48,51,49,51,50,51,51,51,52,51,53,51,54,51,55,51,56,51,57,52,48,52,49,52,50,52,51,52,52,52,53,52,54,52,55,52,56,52,57,53,48,53,49,53,50,53,51,53,52,53,53,53,54,53,55,53,56,53,57,54,48,54,49,54,50,54,51,54,52,54,53,54,54,54,55,54,56,54,57,55,48,55,49,55,50,55,51,55,52,55,53,55,54,55,55,55,56,55,57,56,48,56,49,56,50,56,51,56,52,56,53,56,54,56,55,56,56,56,57,57,48,57,49,57,50,57,51,57,52,57,53,57,54,57,55,57,56,57,57]),.t 10,.t 13]),(mv 2 14)] (rn 9 6 [0])) <|
  .ret }
def F126:AFun:=
{nargs:=1,keep:=false,res:=[.tmp 2],body:=
  .seq (rg [(op 2 .mv [(ic 0)])] [2]) <|
  .seq (rg [(mv 4 0),(o1 5 (.call 149) 4),(o1 6 (.call 148) 5),(mv 3 6)] [4,5,6]) <|
  .seq (rg [(mv 7 3),(mv 8 0),(mv 9 3),(op 10 (.iaA 1 20) [.c (.ip [.int .u64 1,.int .u64 10,.int .u64 100,.int .u64 1000,.int .u64 10000,.int .u64 100000,.int .u64 1000000,.int .u64 10000000,.int .u64 100000000,.int .u64 1000000000,.int .u64 10000000000,.int .u64 100000000000,.int .u64 1000000000000,.int .u64 10000000000000,.int .u64 100000000000000,.int .u64 1000000000000000,.int .u64 10000000000000000,.int .u64 100000000000000000,.int .u64 1000000000000000000,.int .u64 10000000000000000000]),.t 9]),(oS 11 ld1 [.t 10]),(o2 12 (.bin .geq) 8 11),(o1 13 (.call 150) 12),(o2 14 (.bin .add) 7 13),(mv 2 14)] (rn 7 8 [3,0])) <|
  .ret }
def L127_0:ACode:=
  .loop (rn 19 5 (5::(rn 24 6 (6::7::(rn 30 6 (8::9::(rn 36 6 (10::11::(rn 42 54 []))))))))) (.seq (.seq (rg [(mv 19 4),(op 20 (.bin .geq) [.t 19,(ic 8)])] [19]) <|
  .cond (.t 20) (.skip)
  (.exit 0)) <|
  .block 1 (.seq (rg [(mv 21 1),(op 22 (.bin .rem) [.t 21,.c (.int .u64 100000000)]),(o1 23 (.cvi .u32) 22),(mv 5 23)] [21,22,23]) <|
  .seq (rg [(mv 24 1),(op 25 (.bin .quo) [.t 24,.c (.int .u64 100000000)]),(mv 1 25)] [24,25]) <|
  .seq (rg [(mv 26 5),(op 27 (.bin .quo) [.t 26,.c (.int .u32 10000)]),(mv 28 5),(op 29 (.bin .rem) [.t 28,.c (.int .u32 10000)]),(mv 6 27),(mv 7 29)] [26,27,28,29,5]) <|
  .seq (rg [(mv 30 7),(op 31 (.bin .quo) [.t 30,.c (.int .u32 100)]),(op 32 (.bin .mul) [.t 31,.c (.int .u32 2)]),(mv 33 7),(op 34 (.bin .rem) [.t 33,.c (.int .u32 100)]),(op 35 (.bin .mul) [.t 34,.c (.int .u32 2)]),(mv 8 32),(mv 9 35)] (rn 30 6 [7])) <|
  .seq (rg [(mv 36 6),(op 37 (.bin .quo) [.t 36,.c (.int .u32 100)]),(op 38 (.bin .mul) [.t 37,.c (.int .u32 2)]),(mv 39 6),(op 40 (.bin .rem) [.t 39,.c (.int .u32 100)]),(op 41 (.bin .mul) [.t 40,.c (.int .u32 2)]),(mv 10 38),(mv 11 41)] (rn 36 6 [6])) <|
  .seq (.reg true [] [(mv 42 0),(mv 43 4),(op 44 (.bin .sub) [.t 43,(ic 1)]),(mv 45 0),(mv 46 4),(op 47 (.bin .sub) [.t 46,(ic 2)]),(mv 48 9),(op 49 (.bin .add) [.t 48,.c (.int .u32 1)]),(op 50 .ixs [.c (.str [48,48,48,49,48,50,48,51,48,52,48,53,48,54,48,55,48,56,48,57,49,48,49,49,49,50,49,51,49,52,49,53,49,54,49,55,49,56,49,57,50,48,50,49,50,50,50,51,50,52,50,53,50,54,50,55,50,56,50,57,51,48,51,49,51,50,51,51,51,52,51,53,51,54,51,55,51,56,51,57,52,48,52,49,52,50,52,51,52,52,52,53,52,54,52,55,52,56,52,57,53,48,53,49,53,50,53,51,53,52,53,53,53,54,53,55,53,56,53,57,54,48,54,49,54,50,54,51,54,52,54,53,54,54,54,55,54,56,54,57,55,48,55,49,55,50,55,51,55,52,55,53,55,54,55,55,55,56,55,57,56,48,56,49,56,50,56,51,56,52,56,53,56,54,56,55,56,56,56,57,57,48,57,49,57,50,57,51,57,52,57,53,57,54,57,55,57,56,57,57]),.t 49]),(mv 51 9),(op 52 .ixs [.c (.str [48,48,48,49,48,50,48,51,48,52,48,53,48,54,48,55,48,56,48,57,49,48,49,49,49,50,49,51,49,52,49,53,49,54,49,55,49,56,49,57,50,48,50,49,50,50,50,51,50,52,50,53,50,54,50,55,50,56,50,57,51,48,51,49,51,50,51,51,51,52,51,53,51,54,51,55,51,56,51,57,52,48,52,49,52,50,52,51,52,52,52,53,52,54,52,55,52,56,52,57,53,48,53,49,53,50,53,51,53,52,53,53,53,54,53,55,53,56,53,57,54,48,54,49,54,50,54,51,54,52,54,53,54,54,54,55,54,56,54,57,55,48,55,49,55,50,55,51,55,52,55,53,55,54,55,55,55,56,55,57,56,48,56,49,56,50,56,51,56,52,56,53,56,54,56,55,56,56,56,57,57,48,57,49,57,50,57,51,57,52,57,53,57,54,57,55,57,56,57,57]),.t 51]),(o2 53 (.ia 1) 42 44),(tS (.st 1) [.t 53,.t 50]),(o2 54 (.ia 1) 45 47),(tS (.st 1) [.t 54,.t 52])] (rn 42 13 [9])) <|
  .seq (.reg true [] [(mv 55 0),(mv 56 4),(op 57 (.bin .sub) [.t 56,(ic 3)]),(mv 58 0),(mv 59 4),(op 60 (.bin .sub) [.t 59,(ic 4)]),(mv 61 8),(op 62 (.bin .add) [.t 61,.c (.int .u32 1)]),(op 63 .ixs [.c (.str [48,48,48,49,48,50,48,51,48,52,48,53,48,54,48,55,48,56,48,57,49,48,49,49,49,50,49,51,49,52,49,53,49,54,49,55,49,56,49,57,50,48,50,49,50,50,50,51,50,52,50,53,50,54,50,55,50,56,50,57,51,48,51,49,51,50,51,51,51,52,51,53,51,54,51,55,51,56,51,57,52,48,52,49,52,50,52,51,52,52,52,53,52,54,52,55,52,56,52,57,53,48,53,49,53,50,53,51,53,52,53,53,53,54,53,55,53,56,53,57,54,48,54,49,54,50,54,51,54,52,54,53,54,54,54,55,54,56,54,57,55,48,55,49,55,50,55,51,55,52,55,53,55,54,55,55,55,56,55,57,56,48,56,49,56,50,56,51,56,52,56,53,56,54,56,55,56,56,56,57,57,48,57,49,57,50,57,51,57,52,57,53,57,54,57,55,57,56,57,57]),.t 62]),(mv 64 8),(op 65 .ixs [.c (.str [48,48,48,49,48,50,48,51,48,52,48,53,48,54,48,55,48,56,48,57,49,48,49,49,49,50,49,51,49,52,49,53,49,54,49,55,49,56,49,57,50,48,50,49,50,50,50,51,50,52,50,53,50,54,50,55,50,56,50,57,51,48,51,49,51,50,51,51,51,52,51,53,51,54,51,55,51,56,51,57,52,48,52,49,52,50,52,51,52,52,52,53,52,54,52,55,52,56,52,57,53,48,53,49,53,50,53,51,53,52,53,53,53,54,53,55,53,56,53,57,54,48,54,49,54,50,54,51,54,52,54,53,54,54,54,55,54,56,54,57,55,48,55,49,55,50,55,51,55,52,55,53,55,54,55,55,55,56,55,57,56,48,56,49,56,50,56,51,56,52,56,53,56,54,56,55,56,56,56,57,57,48,57,49,57,50,57,51,57,52,57,53,57,54,57,55,57,56,57,57]),.t 64]),(o2 66 (.ia 1) 55 57),(tS (.st 1) [.t 66,.t 63]),(o2 67 (.ia 1) 58 60),(tS (.st 1) [.t 67,.t 65])] (rn 55 13 [8])) <|
  .seq (.reg true [] [(mv 68 0),(mv 69 4),(op 70 (.bin .sub) [.t 69,(ic 5)]),(mv 71 0),(mv 72 4),(op 73 (.bin .sub) [.t 72,(ic 6)]),(mv 74 11),(op 75 (.bin .add) [.t 74,.c (.int .u32 1)]),(op 76 .ixs [.c (.str [48,48,48,49,48,50,48,51,48,52,48,53,48,54,48,55,48,56,48,57,49,48,49,49,49,50,49,51,49,52,49,53,49,54,49,55,49,56,49,57,50,48,50,49,50,50,50,51,50,52,50,53,50,54,50,55,50,56,50,57,51,48,51,49,51,50,51,51,51,52,51,53,51,54,51,55,51,56,51,57,52,48,52,49,52,50,52,51,52,52,52,53,52,54,52,55,52,56,52,57,53,48,53,49,53,50,53,51,53,52,53,53,53,54,53,55,53,56,53,57,54,48,54,49,54,50,54,51,54,52,54,53,54,54,54,55,54,56,54,57,55,48,55,49,55,50,55,51,55,52,55,53,55,54,55,55,55,56,55,57,56,48,56,49,56,50,56,51,56,52,56,53,56,54,56,55,56,56,56,57,57,48,57,49,57,50,57,51,57,52,57,53,57,54,57,55,57,56,57,57]),.t 75]),(mv 77 11),(op 78 .ixs [.c (.str [48,48,48,49,48,50,48,51,48,52,48,53,48,54,48,55,48,56,48,57,49,48,49,49,49,50,49,51,49,52,49,53,49,54,49,55,49,56,49,57,50,48,50,49,50,50,50,51,50,52,50,53,50,54,50,55,50,56,50,57,51,48,51,49,51,50,51,51,51,52,51,53,51,54,51,55,51,56,51,57,52,48,52,49,52,50,52,51,52,52,52,53,52,54,52,55,52,56,52,57,53,48,53,49,53,50,53,51,53,52,53,53,53,54,53,55,53,56,53,57,54,48,54,49,54,50,54,51,54,52,54,53,54,54,54,55,54,56,54,57,55,48,55,49,55,50,55,51,55,52,55,53,55,54,55,55,55,56,55,57,56,48,56,49,56,50,56,51,56,52,56,53,56,54,56,55,56,56,56,57,57,48,57,49,57,50,57,51,57,52,57,53,57,54,57,55,57,56,57,57]),.t 77]),(o2 79 (.ia 1) 68 70),(tS (.st 1) [.t 79,.t 76]),(o2 80 (.ia 1) 71 73),(tS (.st 1) [.t 80,.t 78])] (rn 68 13 [11])) <|
  .seq (.reg true [] [(mv 81 0),(mv 82 4),(op 83 (.bin .sub) [.t 82,(ic 7)]),(mv 84 0),(mv 85 4),(op 86 (.bin .sub) [.t 85,(ic 8)]),(mv 87 10),(op 88 (.bin .add) [.t 87,.c (.int .u32 1)]),(op 89 .ixs [.c (.str [48,48,48,49,48,50,48,51,48,52,48,53,48,54,48,55,48,56,48,57,49,48,49,49,49,50,49,51,49,52,49,53,49,54,49,55,49,56,49,57,50,48,50,49,50,50,50,51,50,52,50,53,50,54,50,55,50,56,50,57,51,48,51,49,51,50,51,51,51,52,51,53,51,54,51,55,51,56,51,57,52,48,52,49,52,50,52,51,52,52,52,53,52,54,52,55,52,56,52,57,53,48,53,49,53,50,53,51,53,52,53,53,53,54,53,55,53,56,53,57,54,48,54,49,54,50,54,51,54,52,54,53,54,54,54,55,54,56,54,57,55,48,55,49,55,50,55,51,55,52,55,53,55,54,55,55,55,56,55,57,56,48,56,49,56,50,56,51,56,52,56,53,56,54,56,55,56,56,56,57,57,48,57,49,57,50,57,51,57,52,57,53,57,54,57,55,57,56,57,57]),.t 88]),(mv 90 10),(op 91 .ixs [.c (.str [48,48,48,49,48,50,48,51,48,52,48,53,48,54,48,55,48,56,48,57,49,48,49,49,49,50,49,51,49,52,49,53,49,54,49,55,49,56,49,57,50,48,50,49,50,50,50,51,50,52,50,53,50,54,50,55,50,56,50,57,51,48,51,49,51,50,51,51,51,52,51,53,51,54,51,55,51,56,51,57,52,48,52,49,52,50,52,51,52,52,52,53,52,54,52,55,52,56,52,57,53,48,53,49,53,50,53,51,53,52,53,53,53,54,53,55,53,56,53,57,54,48,54,49,54,50,54,51,54,52,54,53,54,54,54,55,54,56,54,57,55,48,55,49,55,50,55,51,55,52,55,53,55,54,55,55,55,56,55,57,56,48,56,49,56,50,56,51,56,52,56,53,56,54,56,55,56,56,56,57,57,48,57,49,57,50,57,51,57,52,57,53,57,54,57,55,57,56,57,57]),.t 90]),(o2 92 (.ia 1) 81 83),(tS (.st 1) [.t 92,.t 89]),(o2 93 (.ia 1) 84 86),(tS (.st 1) [.t 93,.t 91])] (rn 81 13 [10])) <|
  rg [(mv 94 4),(op 95 (.bin .sub) [.t 94,(ic 8)]),(mv 4 95)] [94,95]))
def F127:AFun:=
{nargs:=2,keep:=false,res:=[],body:=
  .seq (rg [(mv 17 0),(o1 18 (.len false) 17),(mv 4 18)] [17,18]) <|
  .seq (.block 0 (L127_0)) <|
  .seq (rg [(mv 96 1),(o1 97 (.cvi .u32) 96),(mv 12 97)] [96,97,1]) <|
  .seq (.seq (rg [(mv 98 4),(op 99 (.bin .geq) [.t 98,(ic 4)])] [98]) <|
  .cond (.t 99) (.seq (rg [(mv 100 12),(op 101 (.bin .rem) [.t 100,.c (.int .u32 10000)]),(mv 13 101)] [100,101]) <|
  .seq (rg [(mv 102 12),(op 103 (.bin .quo) [.t 102,.c (.int .u32 10000)]),(mv 12 103)] [102,103]) <|
  .seq (rg [(mv 104 13),(op 105 (.bin .quo) [.t 104,.c (.int .u32 100)]),(op 106 (.bin .mul) [.t 105,.c (.int .u32 2)]),(mv 107 13),(op 108 (.bin .rem) [.t 107,.c (.int .u32 100)]),(op 109 (.bin .mul) [.t 108,.c (.int .u32 2)]),(mv 14 106),(mv 15 109)] (rn 104 6 [13])) <|
  .seq (.reg true [] [(mv 110 0),(mv 111 4),(op 112 (.bin .sub) [.t 111,(ic 1)]),(mv 113 0),(mv 114 4),(op 115 (.bin .sub) [.t 114,(ic 2)]),(mv 116 15),(op 117 (.bin .add) [.t 116,.c (.int .u32 1)]),(op 118 .ixs [.c (.str [48,48,48,49,48,50,48,51,48,52,48,53,48,54,48,55,48,56,48,57,49,48,49,49,49,50,49,51,49,52,49,53,49,54,49,55,49,56,49,57,50,48,50,49,50,50,50,51,50,52,50,53,50,54,50,55,50,56,50,57,51,48,51,49,51,50,51,51,51,52,51,53,51,54,51,55,51,56,51,57,52,48,52,49,52,50,52,51,52,52,52,53,52,54,52,55,52,56,52,57,53,48,53,49,53,50,53,51,53,52,53,53,53,54,53,55,53,56,53,57,54,48,54,49,54,50,54,51,54,52,54,53,54,54,54,55,54,56,54,57,55,48,55,49,55,50,55,51,55,52,55,53,55,54,55,55,55,56,55,57,56,48,56,49,56,50,56,51,56,52,56,53,56,54,56,55,56,56,56,57,57,48,57,49,57,50,57,51,57,52,57,53,57,54,57,55,57,56,57,57]),.t 117]),(mv 119 15),(op 120 .ixs [.c (.str [48,48,48,49,48,50,48,51,48,52,48,53,48,54,48,55,48,56,48,57,49,48,49,49,49,50,49,51,49,52,49,53,49,54,49,55,49,56,49,57,50,48,50,49,50,50,50,51,50,52,50,53,50,54,50,55,50,56,50,57,51,48,51,49,51,50,51,51,51,52,51,53,51,54,51,55,51,56,51,57,52,48,52,49,52,50,52,51,52,52,52,53,52,54,52,55,52,56,52,57,53,48,53,49,53,50,53,51,53,52,53,53,53,54,53,55,53,56,53,57,54,48,54,49,54,50,54,51,54,52,54,53,54,54,54,55,54,56,54,57,55,48,55,49,55,50,55,51,55,52,55,53,55,54,55,55,55,56,55,57,56,48,56,49,56,50,56,51,56,52,56,53,56,54,56,55,56,56,56,57,57,48,57,49,57,50,57,51,57,52,57,53,57,54,57,55,57,56,57,57]),.t 119]),(o2 121 (.ia 1) 110 112),(tS (.st 1) [.t 121,.t 118]),(o2 122 (.ia 1) 113 115),(tS (.st 1) [.t 122,.t 120])] (rn 110 13 [15])) <|
  .seq (.reg true [] [(mv 123 0),(mv 124 4),(op 125 (.bin .sub) [.t 124,(ic 3)]),(mv 126 0),(mv 127 4),(op 128 (.bin .sub) [.t 127,(ic 4)]),(mv 129 14),(op 130 (.bin .add) [.t 129,.c (.int .u32 1)]),(op 131 .ixs [.c (.str [48,48,48,49,48,50,48,51,48,52,48,53,48,54,48,55,48,56,48,57,49,48,49,49,49,50,49,51,49,52,49,53,49,54,49,55,49,56,49,57,50,48,50,49,50,50,50,51,50,52,50,53,50,54,50,55,50,56,50,57,51,48,51,49,51,50,51,51,51,52,51,53,51,54,51,55,51,56,51,57,52,48,52,49,52,50,52,51,52,52,52,53,52,54,52,55,52,56,52,57,53,48,53,49,53,50,53,51,53,52,53,53,53,54,53,55,53,56,53,57,54,48,54,49,54,50,54,51,54,52,54,53,54,54,54,55,54,56,54,57,55,48,55,49,55,50,55,51,55,52,55,53,55,54,55,55,55,56,55,57,56,48,56,49,56,50,56,51,56,52,56,53,56,54,56,55,56,56,56,57,57,48,57,49,57,50,57,51,57,52,57,53,57,54,57,55,57,56,57,57]),.t 130]),(mv 132 14),(op 133 .ixs [.c (.str [48,48,48,49,48,50,48,51,48,52,48,53,48,54,48,55,48,56,48,57,49,48,49,49,49,50,49,51,49,52,49,53,49,54,49,55,49,56,49,57,50,48,50,49,50,50,50,51,50,52,50,53,50,54,50,55,50,56,50,57,51,48,51,49,51,50,51,51,51,52,51,53,51,54,51,55,51,56,51,57,52,48,52,49,52,50,52,51,52,52,52,53,52,54,52,55,52,56,52,57,53,48,53,49,53,50,53,51,53,52,53,53,53,54,53,55,53,56,53,57,54,48,54,49,54,50,54,51,54,52,54,53,54,54,54,55,54,56,54,57,55,48,55,49,55,50,55,51,55,52,55,53,55,54,55,55,55,56,55,57,56,48,56,49,56,50,56,51,56,52,56,53,56,54,56,55,56,56,56,57,57,48,57,49,57,50,57,51,57,52,57,53,57,54,57,55,57,56,57,57]),.t 132]),(o2 134 (.ia 1) 123 125),(tS (.st 1) [.t 134,.t 131]),(o2 135 (.ia 1) 126 128),(tS (.st 1) [.t 135,.t 133])] (rn 123 13 [14])) <|
  rg [(mv 136 4),(op 137 (.bin .sub) [.t 136,(ic 4)]),(mv 4 137)] [136,137])
  (.skip)) <|
  .seq (.seq (rg [(mv 138 4),(op 139 (.bin .geq) [.t 138,(ic 2)])] [138]) <|
  .cond (.t 139) (.seq (rg [(mv 140 12),(op 141 (.bin .rem) [.t 140,.c (.int .u32 100)]),(op 142 (.bin .mul) [.t 141,.c (.int .u32 2)]),(mv 16 142)] [140,141,142]) <|
  .seq (rg [(mv 143 12),(op 144 (.bin .quo) [.t 143,.c (.int .u32 100)]),(mv 12 144)] [143,144]) <|
  .seq (.reg true [] [(mv 145 0),(mv 146 4),(op 147 (.bin .sub) [.t 146,(ic 1)]),(mv 148 0),(mv 149 4),(op 150 (.bin .sub) [.t 149,(ic 2)]),(mv 151 16),(op 152 (.bin .add) [.t 151,.c (.int .u32 1)]),(op 153 .ixs [.c (.str [48,48,48,49,48,50,48,51,48,52,48,53,48,54,48,55,48,56,48,57,49,48,49,49,49,50,49,51,49,52,49,53,49,54,49,55,49,56,49,57,50,48,50,49,50,50,50,51,50,52,50,53,50,54,50,55,50,56,50,57,51,48,51,49,51,50,51,51,51,52,51,53,51,54,51,55,51,56,51,57,52,48,52,49,52,50,52,51,52,52,52,53,52,54,52,55,52,56,52,57,53,48,53,49,53,50,53,51,53,52,53,53,53,54,53,55,53,56,53,57,54,48,54,49,54,50,54,51,54,52,54,53,54,54,54,55,54,56,54,57,55,48,55,49,55,50,55,51,55,52,55,53,55,54,55,55,55,56,55,57,56,48,56,49,56,50,56,51,56,52,56,53,56,54,56,55,56,56,56,57,57,48,57,49,57,50,57,51,57,52,57,53,57,54,57,55,57,56,57,57]),.t 152]),(mv 154 16),(op 155 .ixs [.c (.str [48,48,48,49,48,50,48,51,48,52,48,53,48,54,48,55,48,56,48,57,49,48,49,49,49,50,49,51,49,52,49,53,49,54,49,55,49,56,49,57,50,48,50,49,50,50,50,51,50,52,50,53,50,54,50,55,50,56,50,57,51,48,51,49,51,50,51,51,51,52,51,53,51,54,51,55,51,56,51,57,52,48,52,49,52,50,52,51,52,52,52,53,52,54,52,55,52,56,52,57,53,48,53,49,53,50,53,51,53,52,53,53,53,54,53,55,53,56,53,57,54,48,54,49,54,50,54,51,54,52,54,53,54,54,54,55,54,56,54,57,55,48,55,49,55,50,55,51,55,52,55,53,55,54,55,55,55,56,55,57,56,48,56,49,56,50,56,51,56,52,56,53,56,54,56,55,56,56,56,57,57,48,57,49,57,50,57,51,57,52,57,53,57,54,57,55,57,56,57,57]),.t 154]),(o2 156 (.ia 1) 145 147),(tS (.st 1) [.t 156,.t 153]),(o2 157 (.ia 1) 148 150),(tS (.st 1) [.t 157,.t 155])] (rn 145 13 [16])) <|
  rg [(mv 158 4),(op 159 (.bin .sub) [.t 158,(ic 2)]),(mv 4 159)] [158,159])
  (.skip)) <|
  .seq (rg [(mv 160 4),(op 161 (.bin .gtr) [.t 160,(ic 0)])] [160,4]) <|
  .cond (.t 161) (rg [(mv 162 0),(mv 163 12),(op 164 (.bin .add) [.c (.int .u32 48),.t 163]),(o1 165 (.cvi .u8) 164),(op 166 (.ia 1) [.t 162,(ic 0)]),(tS (.st 1) [.t 166,.t 165])] (rn 162 5 [0,12]))
  (.skip) }
def F129:AFun:=
{nargs:=1,keep:=false,res:=[.tmp 2],body:=
  .seq (rg [(op 2 .mv [bF])] [2]) <|
  .seq (rg [(mv 3 0),(op 4 (.bin .neq) [.t 3,.c (.int .u8 92)]),(mv 5 4),(mG 6 0 5 true),(oG 7 (.bin .neq) [.t 6,.c (.int .u8 60)] 5 true),(op 8 .pick [.t 5,.t 7,bF]),(mv 9 8),(mG 10 0 9 true),(oG 11 (.bin .neq) [.t 10,.c (.int .u8 123)] 9 true),(op 12 .pick [.t 9,.t 11,bF]),(mv 13 12),(mG 14 0 13 true),(oG 15 (.bin .neq) [.t 14,.c (.int .u8 9)] 13 true),(op 16 .pick [.t 13,.t 15,bF]),(mv 17 16),(mG 18 0 17 true),(oG 19 (.bin .neq) [.t 18,.c (.int .u8 10)] 17 true),(op 20 .pick [.t 17,.t 19,bF]),(mv 21 20),(mG 22 0 21 true),(oG 23 (.bin .neq) [.t 22,.c (.int .u8 13)] 21 true),(op 24 .pick [.t 21,.t 23,bF]),(mv 25 24),(mG 26 0 25 true),(oG 27 (.call 153) [.t 26] 25 true),(oG 28 (.bin .neq) [.t 27,(ic 1)] 25 true),(op 29 .pick [.t 25,.t 28,bF]),(mv 2 29)] (rn 3 27 [0])) <|
  .ret }
def F130:AFun:=
{nargs:=1,keep:=false,res:=[.tmp 2],body:=
  .seq (rg [(op 2 .mv [.c (.str [])])] [2]) <|
  .seq (.block 0 (.seq (rg [(mv 4 0),(op 5 (.bin .eql) [.t 4,.c (.int .u8 92)]),(mv 6 5),(mG 7 0 6 false),(oG 8 (.bin .eql) [.t 7,.c (.int .u8 60)] 6 false),(op 9 .pick [.t 6,bT,.t 8]),(mv 10 9),(mG 11 0 10 false),(oG 12 (.bin .eql) [.t 11,.c (.int .u8 123)] 10 false),(op 13 .pick [.t 10,bT,.t 12]),(mv 3 13)] (rn 4 10 [])) <|
  .cond (.t 3) (.seq (rg [(mv 14 0),(o1 15 (.mks 1 [.int .u8 0] 1 [0]) 14),(o1 16 .b2s 15),(op 17 (.bin .add) [.c (.str [92]),.t 16]),(mv 2 17)] [14,15,16,17,0]) <|
  .ret)
  (.seq (rg [(mv 19 0),(op 20 (.bin .eql) [.t 19,.c (.int .u8 10)]),(mv 18 20)] [19,20]) <|
  .cond (.t 18) (.seq (rg [(op 2 .mv [.c (.str [92,110])])] []) <|
  .ret)
  (.seq (rg [(mv 22 0),(op 23 (.bin .eql) [.t 22,.c (.int .u8 9)]),(mv 21 23)] [22,23]) <|
  .cond (.t 21) (.seq (rg [(op 2 .mv [.c (.str [92,116])])] []) <|
  .ret)
  (.seq (rg [(mv 25 0),(op 26 (.bin .eql) [.t 25,.c (.int .u8 13)]),(mv 27 26),(mG 28 0 27 false),(oG 29 (.call 154) [.t 28] 27 false),(oG 30 (.bin .eql) [.t 29,(ic 1)] 27 false),(op 31 .pick [.t 27,bT,.t 30]),(mv 24 31)] (rn 25 7 [])) <|
  .cond (.t 24) (.seq (.reg true [] [(mv 32 0),(op 33 (.bin .quo) [.t 32,.c (.int .u8 16)]),(op 34 .ixs [.c (.str [48,49,50,51,52,53,54,55,56,57,97,98,99,100,101,102]),.t 33]),(mv 35 0),(op 36 (.bin .rem) [.t 35,.c (.int .u8 16)]),(op 37 .ixs [.c (.str [48,49,50,51,52,53,54,55,56,57,97,98,99,100,101,102]),.t 36]),(o2 38 (.mks 1 [.int .u8 0] 2 [0,1]) 34 37),(o1 39 .b2s 38),(op 40 (.bin .add) [.c (.str [92,120]),.t 39]),(mv 2 40)] (rn 32 9 [0])) <|
  .ret)
  (.skip)))))) <|
  .seq (rg [(mv 41 0),(o1 42 (.mks 1 [.int .u8 0] 1 [0]) 41),(o1 43 .b2s 42),(mv 2 43)] [41,42,43,0]) <|
  .ret }
def F131:AFun:=
{nargs:=2,keep:=false,res:=[.tmp 4],body:=
  .seq (rg [(op 4 .mv [(ic 0)])] [4]) <|
  .seq (rg [(mv 5 0),(mv 6 1),(o2 7 (.call 155) 5 6),(mv 4 7)] [5,6,7,0,1]) <|
  .ret }
def L137_0:ACode:=
  .loop (9::10::11::12::15::16::17::4::(rn 18 22 [2,13,14])) (.seq (.seq (rg [(mv 9 3),(mv 10 0),(o1 11 (.len true) 10),(o2 12 (.bin .lss) 9 11)] [9,10,11]) <|
  .cond (.t 12) (.skip)
  (.exit 0)) <|
  .seq (.block 1 (.seq (rg [(mv 15 0),(mv 16 3),(o2 17 .ixs 15 16),(mv 4 17)] [15,16,17]) <|
  .seq (rg [(mv 18 4),(op 19 (.bin .lss) [.t 18,.c (.int .u8 32)]),(mv 20 19),(mG 21 4 20 false),(oG 22 (.bin .gtr) [.t 21,.c (.int .u8 126)] 20 false),(op 23 .pick [.t 20,bT,.t 22]),(mv 24 23),(mG 25 4 24 false),(oG 26 (.bin .eql) [.t 25,.c (.int .u8 60)] 24 false),(op 27 .pick [.t 24,bT,.t 26]),(mv 28 27),(mG 29 4 28 false),(oG 30 (.bin .eql) [.t 29,.c (.int .u8 62)] 28 false),(op 31 .pick [.t 28,bT,.t 30]),(mv 32 31),(mG 33 4 32 false),(oG 34 (.bin .eql) [.t 33,.c (.int .u8 123)] 32 false),(op 35 .pick [.t 32,bT,.t 34]),(mv 36 35),(mG 37 4 36 false),(oG 38 (.bin .eql) [.t 37,.c (.int .u8 125)] 36 false),(op 39 .pick [.t 36,bT,.t 38])] (rn 18 21 [4])) <|
  .cond (.t 39) (.seq (rg [(op 2 .mv [bF])] []) <|
  .ret)
  (.skip))) <|
  rg [(mv 13 3),(op 14 (.bin .add) [.t 13,(ic 1)]),(mv 3 14)] [13,14])
def F137:AFun:=
{nargs:=1,keep:=false,res:=[.tmp 2],body:=
  .seq (rg [(op 2 .mv [bF])] [2]) <|
  .seq (.seq (rg [(mv 6 0),(o1 7 (.len true) 6),(op 8 (.bin .gtr) [.t 7,(ic 64)])] [6,7]) <|
  .cond (.t 8) (.seq (rg [(op 2 .mv [bF])] []) <|
  .ret)
  (.skip)) <|
  .seq (.seq (rg [(op 3 .mv [(ic 0)])] []) <|
  .block 0 (L137_0)) <|
  .seq (rg [(mv 40 0),(o1 41 (.call 56) 40),(mv 5 41)] [40,41]) <|
  .seq (rg [(mv 42 5),(o1 43 (.call 112) 42),(mv 44 43),(mG 45 5 44 true),(oG 46 (.len true) [.t 45] 44 true),(mG 47 0 44 true),(oG 48 (.len true) [.t 47] 44 true),(oG 49 (.bin .eql) [.t 46,.t 48] 44 true),(mG 50 49 44 true),(mG 51 0 50 false),(oG 52 (.len true) [.t 51] 50 false),(mG 53 5 50 false),(oG 54 (.len true) [.t 53] 50 false),(oG 55 (.bin .add) [.t 54,(ic 1)] 50 false),(oG 56 (.bin .gtr) [.t 52,.t 55] 50 false),(oG 57 .pick [.t 50,bT,.t 56] 44 true),(op 58 .pick [.t 44,.t 57,bF]),(mv 59 58),(mG 60 0 59 true),(mG 61 0 59 true),(oG 62 (.len true) [.t 61] 59 true),(oG 63 (.bin .sub) [.t 62,(ic 1)] 59 true),(oG 64 .ixs [.t 60,.t 63] 59 true),(oG 65 (.bin .neq) [.t 64,.c (.int .u8 47)] 59 true),(op 66 .pick [.t 59,.t 65,bF]),(mv 2 66)] (rn 42 25 [5,0])) <|
  .ret }
def L138_0:ACode:=
  .loop (rn 10 12 []) (.seq (.seq (rg [(mv 10 4),(mv 11 0),(o1 12 (.len true) 11),(o2 13 (.bin .lss) 10 12),(mv 14 13),(mG 15 0 14 true),(mG 16 4 14 true),(oG 17 .ixs [.t 15,.t 16] 14 true),(oG 18 (.bin .neq) [.t 17,.c (.int .u8 62)] 14 true),(op 19 .pick [.t 14,.t 18,bF])] (rn 10 9 [])) <|
  .cond (.t 19) (.skip)
  (.exit 0)) <|
  .block 1 (rg [(mv 20 4),(op 21 (.bin .add) [.t 20,(ic 1)]),(mv 4 21)] [20,21]))
def L138_1:ACode:=
  .loop (rn 56 30 []) (.seq (.seq (rg [(mv 56 8),(mv 57 5),(o1 58 (.len true) 57),(o2 59 (.bin .lss) 56 58),(mv 60 59),(mG 61 8 60 true),(oG 62 (.bin .lss) [.t 61,(ic 4)] 60 true),(op 63 .pick [.t 60,.t 62,bF]),(mv 64 63),(mG 65 5 64 true),(mG 66 8 64 true),(oG 67 .ixs [.t 65,.t 66] 64 true),(oG 68 (.bin .geq) [.t 67,.c (.int .u8 48)] 64 true),(op 69 .pick [.t 64,.t 68,bF]),(mv 70 69),(mG 71 5 70 true),(mG 72 8 70 true),(oG 73 .ixs [.t 71,.t 72] 70 true),(oG 74 (.bin .leq) [.t 73,.c (.int .u8 57)] 70 true),(op 75 .pick [.t 70,.t 74,bF])] (rn 56 19 [])) <|
  .cond (.t 75) (.skip)
  (.exit 2)) <|
  .block 3 (.seq (rg [(mv 76 7),(op 77 (.bin .mul) [(ic 10),.t 76]),(mv 78 5),(mv 79 8),(o2 80 .ixs 78 79),(op 81 (.bin .sub) [.t 80,.c (.int .u8 48)]),(o1 82 (.cvi .i64) 81),(o2 83 (.bin .add) 77 82),(mv 7 83)] (rn 76 8 [])) <|
  rg [(mv 84 8),(op 85 (.bin .add) [.t 84,(ic 1)]),(mv 8 85)] [84,85]))
def F138:AFun:=
{nargs:=1,keep:=false,res:=[.cell 2 true 3,.tmp 3],body:=
  .seq (.reg false [2] [(oL 2 2 (.alloc [.int .i64 0,.str [],.int .i64 0]) []),(op 3 .mv [(ic 0)])] [3]) <|
  .seq (rg [(op 4 .mv [(ic 1)])] []) <|
  .seq (.block 0 (L138_0)) <|
  .seq (.seq (rg [(mv 22 4),(mv 23 0),(o1 24 (.len true) 23),(o2 25 (.bin .geq) 22 24)] [22,23,24]) <|
  .cond (.t 25) (.seq (rg [(op 26 (.build [.int .i64 0,.str [],.int .i64 0] []) []),(tL 2 (.st 3) [.t 2,.t 26]),(op 3 .mv [(ic 0)])] [26]) <|
  .ret)
  (.skip)) <|
  .seq (rg [(mv 27 0),(mv 28 4),(op 29 (.slc true 0 true true) [.t 27,(ic 1),.t 28]),(mv 5 29),(op 6 .mv [(ic 2)])] [27,28,29,0]) <|
  .seq (.seq (rg [(mv 30 5),(o1 31 (.len true) 30),(op 32 (.bin .gtr) [.t 31,(ic 0)]),(mv 33 32),(mG 34 5 33 true),(oG 35 .ixs [.t 34,(ic 0)] 33 true),(oG 36 (.bin .eql) [.t 35,.c (.int .u8 47)] 33 true),(op 37 .pick [.t 33,.t 36,bF])] (rn 30 7 [])) <|
  .cond (.t 37) (rg [(mv 38 5),(op 39 (.slc true 0 true false) [.t 38,(ic 1)]),(mv 5 39),(op 6 .mv [(ic 3)])] [38,39])
  (.seq (rg [(mv 40 5),(o1 41 (.len true) 40),(op 42 (.bin .gtr) [.t 41,(ic 0)]),(mv 43 42),(mG 44 5 43 true),(mG 45 5 43 true),(oG 46 (.len true) [.t 45] 43 true),(oG 47 (.bin .sub) [.t 46,(ic 1)] 43 true),(oG 48 .ixs [.t 44,.t 47] 43 true),(oG 49 (.bin .eql) [.t 48,.c (.int .u8 47)] 43 true),(op 50 .pick [.t 43,.t 49,bF])] (rn 40 10 [])) <|
  .cond (.t 50) (rg [(mv 51 5),(mv 52 5),(o1 53 (.len true) 52),(op 54 (.bin .sub) [.t 53,(ic 1)]),(o2 55 (.slc true 0 false true) 51 54),(mv 5 55),(op 6 .mv [(ic 4)])] (rn 51 5 []))
  (.skip))) <|
  .seq (rg [(op 7 .mv [(ic 0)]),(op 8 .mv [(ic 0)])] []) <|
  .seq (.block 2 (L138_1)) <|
  .seq (.seq (rg [(mv 86 8),(op 87 (.bin .eql) [.t 86,(ic 0)]),(mv 88 87),(mG 89 8 88 false),(mG 90 5 88 false),(oG 91 (.len true) [.t 90] 88 false),(oG 92 (.bin .geq) [.t 89,.t 91] 88 false),(op 93 .pick [.t 88,bT,.t 92]),(mv 94 93),(mG 95 5 94 false),(oG 96 .ixs [.t 95,(ic 0)] 94 false),(oG 97 (.bin .eql) [.t 96,.c (.int .u8 48)] 94 false),(op 98 .pick [.t 94,bT,.t 97]),(mv 99 98),(mG 100 7 99 false),(oG 101 (.bin .gtr) [.t 100,(ic 999)] 99 false),(op 102 .pick [.t 99,bT,.t 101]),(mv 103 102),(mG 104 5 103 false),(mG 105 8 103 false),(oG 106 .ixs [.t 104,.t 105] 103 false),(oG 107 (.bin .neq) [.t 106,.c (.int .u8 58)] 103 false),(op 108 .pick [.t 103,bT,.t 107])] (rn 86 22 [])) <|
  .cond (.t 108) (.seq (rg [(op 109 (.build [.int .i64 0,.str [],.int .i64 0] []) []),(tL 2 (.st 3) [.t 2,.t 109]),(op 3 .mv [(ic 0)])] [109]) <|
  .ret)
  (.skip)) <|
  .seq (.reg false [9] [(mv 110 6),(mv 111 5),(mv 112 8),(op 113 (.bin .add) [.t 112,(ic 1)]),(o2 114 (.slc true 0 true false) 111 113),(mv 115 7),(op 116 (.build [.int .i64 0,.str [],.int .i64 0] [(0,1),(1,1),(2,1)]) [.t 110,.t 114,.t 115]),(oL 9 9 (.alloc [.int .i64 0,.str [],.int .i64 0]) []),(tL 9 (.st 3) [.t 9,.t 116])] (rn 110 7 [5,8,7])) <|
  .seq (.seq (rg [(mv 117 6),(op 118 (.bin .eql) [.t 117,(ic 3)]),(mv 119 118),(oG 120 (.fa 1) [.t 9] 119 true),(oH 121 9 ld1 [.t 120] 119 true),(oG 122 (.call 112) [.t 121] 119 true),(oG 123 (.un .not) [.t 122] 119 true),(op 124 .pick [.t 119,.t 123,bF]),(mv 125 124),(mG 126 6 125 false),(oG 127 (.bin .neq) [.t 126,(ic 3)] 125 false),(mG 128 127 125 false),(oG 129 (.fa 1) [.t 9] 128 true),(oH 130 9 ld1 [.t 129] 128 true),(oG 131 (.call 137) [.t 130] 128 true),(oG 132 (.un .not) [.t 131] 128 true),(oG 133 .pick [.t 128,.t 132,bF] 125 false),(op 134 .pick [.t 125,bT,.t 133])] (rn 117 17 [6])) <|
  .cond (.t 134) (.seq (rg [(op 135 (.build [.int .i64 0,.str [],.int .i64 0] []) []),(tL 2 (.st 3) [.t 2,.t 135]),(op 3 .mv [(ic 0)])] [135]) <|
  .ret)
  (.skip)) <|
  .seq (rg [(oL 136 9 (.ld true 3) [.t 9]),(mv 137 4),(op 138 (.bin .add) [.t 137,(ic 1)]),(tL 2 (.st 3) [.t 2,.t 136]),(mv 3 138)] [136,137,138,9,4]) <|
  .ret }
def F139:AFun:=
{nargs:=1,keep:=false,res:=[.tmp 2],body:=
  .seq (.reg false [1] [(oL 1 1 (.box 3) [.t 0]),(op 2 .mv [(ic 0)])] [2,0]) <|
  .seq (.seq (rg [(o1 3 (.fa 0) 1),(oL 4 1 ld1 [.t 3]),(op 5 (.bin .eql) [.t 4,(ic 1)])] [3,4]) <|
  .cond (.t 5) (.seq (rg [(o1 6 (.fa 1) 1),(oL 7 1 ld1 [.t 6]),(o1 8 (.len true) 7),(mv 2 8)] [6,7,8,1]) <|
  .ret)
  (.skip)) <|
  .seq (rg [(op 2 .mv [(ic 1)])] []) <|
  .ret }
def L140_0:ACode:=
  .loop (23::24::25::26::(rn 29 17 [2,27,28])) (.seq (.seq (rg [(mv 23 3),(mv 24 0),(o1 25 (.len true) 24),(o2 26 (.bin .lss) 23 25)] [23,24,25]) <|
  .cond (.t 26) (.skip)
  (.exit 0)) <|
  .seq (.block 1 (.seq (rg [(mv 29 0),(mv 30 3),(o2 31 .ixs 29 30),(op 32 (.bin .lss) [.t 31,.c (.int .u8 32)]),(mv 33 32),(mG 34 0 33 false),(mG 35 3 33 false),(oG 36 .ixs [.t 34,.t 35] 33 false),(oG 37 (.bin .gtr) [.t 36,.c (.int .u8 126)] 33 false),(op 38 .pick [.t 33,bT,.t 37]),(mv 39 38),(mG 40 0 39 false),(mG 41 3 39 false),(oG 42 .ixs [.t 40,.t 41] 39 false),(oG 43 (.call 145) [.c (.str [60,62,123,125]),.t 42] 39 false),(oG 44 (.bin .geq) [.t 43,(ic 0)] 39 false),(op 45 .pick [.t 39,bT,.t 44])] (rn 29 16 [])) <|
  .cond (.t 45) (.seq (rg [(op 2 .mv [bF])] []) <|
  .ret)
  (.skip))) <|
  rg [(mv 27 3),(op 28 (.bin .add) [.t 27,(ic 1)]),(mv 3 28)] [27,28])
def F140:AFun:=
{nargs:=1,keep:=false,res:=[.tmp 2],body:=
  .seq (rg [(op 2 .mv [bF])] [2]) <|
  .seq (.seq (rg [(mv 7 0),(o1 8 (.len true) 7),(op 9 (.bin .gtr) [.t 8,(ic 64)]),(mv 10 9),(mG 11 0 10 false),(oG 12 (.len true) [.t 11] 10 false),(oG 13 (.bin .eql) [.t 12,(ic 0)] 10 false),(op 14 .pick [.t 10,bT,.t 13]),(mv 15 14),(mG 16 0 15 false),(mG 17 0 15 false),(oG 18 (.len true) [.t 17] 15 false),(oG 19 (.bin .sub) [.t 18,(ic 1)] 15 false),(oG 20 .ixs [.t 16,.t 19] 15 false),(oG 21 (.bin .eql) [.t 20,.c (.int .u8 47)] 15 false),(op 22 .pick [.t 15,bT,.t 21])] (rn 7 15 [])) <|
  .cond (.t 22) (.seq (rg [(op 2 .mv [bF])] []) <|
  .ret)
  (.skip)) <|
  .seq (.seq (rg [(op 3 .mv [(ic 0)])] []) <|
  .block 0 (L140_0)) <|
  .seq (rg [(mv 47 0),(op 48 (.call 42) [.t 47,.c (.str [32])]),(mv 46 48),(o1 49 (.ext 0) 46),(o1 50 (.ext 1) 46),(o1 51 (.ext 2) 46),(mv 4 49),(mv 5 50),(mv 6 51)] [47,48,46,49,50,51,0]) <|
  .seq (rg [(mv 52 4),(o1 53 (.call 95) 52),(mv 54 53),(mG 55 6 54 true),(oG 56 (.un .not) [.t 55] 54 true),(mG 57 56 54 true),(mG 58 5 57 false),(oG 59 (.len true) [.t 58] 57 false),(oG 60 (.bin .gtr) [.t 59,(ic 0)] 57 false),(oG 61 .pick [.t 57,bT,.t 60] 54 true),(op 62 .pick [.t 54,.t 61,bF]),(mv 2 62)] (rn 52 11 [4,6,5])) <|
  .ret }
def F141:AFun:=
{nargs:=1,keep:=false,res:=[.tmp 2],body:=
  .seq (rg [(op 2 .mv [.c (.str [])])] [2]) <|
  .seq (rg [(mv 7 0),(op 8 (.call 42) [.t 7,.c (.str [32])]),(mv 6 8),(o1 9 (.ext 0) 6),(o1 10 (.ext 1) 6),(o1 11 (.ext 2) 6),(mv 3 9),(mv 4 10),(mv 5 11)] [7,8,6,9,10,11,4,5,0]) <|
  .seq (rg [(mv 12 3),(mv 2 12)] [12,3]) <|
  .ret }
def L142_0:ACode:=
  .loop (9::10::5::(rn 11 7 [4,18])) (.seq (rg [(o2 9 (.bin .lss) 8 7)] []) <|
  .seq (.cond (.t 9) (.skip)
  (.exit 0)) <|
  .seq (.block 1 (.seq (rg [(mv 10 8),(mv 5 10)] [10]) <|
  .seq (rg [(mv 11 1),(mv 12 0),(mv 13 5),(o2 14 (.ia 1) 12 13),(o1 15 ld1 14),(o2 16 (.bin .eql) 11 15)] (rn 11 5 [])) <|
  .cond (.t 16) (.seq (rg [(mv 17 5),(mv 4 17)] [17,5]) <|
  .ret)
  (.skip))) <|
  rg [(op 18 (.bin .add) [.t 8,(ic 1)]),(mv 8 18)] [18])
def F142:AFun:=
{nargs:=2,keep:=false,res:=[.tmp 4],body:=
  .seq (rg [(op 4 .mv [(ic 0)])] [4]) <|
  .seq (.seq (rg [(mv 6 0),(o1 7 (.len false) 6),(op 8 .mv [(ic 0)])] [6]) <|
  .block 0 (L142_0)) <|
  .seq (rg [(op 4 .mv [(ic (-1))])] []) <|
  .ret }
def L143_0:ACode:=
  .loop (rn 25 21 []) (.seq (.seq (rg [(mv 25 4),(mv 26 0),(o1 27 (.len false) 26),(o2 28 (.bin .lss) 25 27),(mv 29 28),(mG 30 0 29 true),(mG 31 4 29 true),(oG 32 (.ia 3) [.t 30,.t 31] 29 true),(oG 33 (.fa 0) [.t 32] 29 true),(oG 34 ld1 [.t 33] 29 true),(oG 35 (.bin .eql) [.t 34,(ic 1)] 29 true),(op 36 .pick [.t 29,.t 35,bF])] (rn 25 11 [])) <|
  .cond (.t 36) (.skip)
  (.exit 2)) <|
  .block 3 (.seq (rg [(mO 37 5),(mv 38 0),(mv 39 4),(o2 40 (.ia 3) 38 39),(o1 41 (.fa 1) 40),(o1 42 ld1 41),(oD 43 (.app true 1 1) [.t 37,.t 42] 37),(mO 5 43)] (rn 37 7 [])) <|
  rg [(mv 44 4),(op 45 (.bin .add) [.t 44,(ic 1)]),(mv 4 45)] [44,45]))
def L143_1:ACode:=
  .loop (rn 6 19 (5::(rn 25 30 []))) (.seq (.seq (rg [(mv 6 4),(mv 7 0),(o1 8 (.len false) 7),(o2 9 (.bin .lss) 6 8)] [6,7,8]) <|
  .cond (.t 9) (.skip)
  (.exit 0)) <|
  .block 1 (.seq (.seq (rg [(mv 10 0),(mv 11 4),(o2 12 (.ia 3) 10 11),(o1 13 (.fa 0) 12),(o1 14 ld1 13),(op 15 (.bin .neq) [.t 14,(ic 1)])] (rn 10 5 [])) <|
  .cond (.t 15) (.seq (rg [(mO 16 3),(mv 17 0),(mv 18 4),(o2 19 (.ia 3) 17 18),(o1 20 (.ld true 3) 19),(o1 21 (.mks 3 [.int .i64 0,.str [],.int .i64 0] 1 [0]) 20),(oD 22 (.app false 3 32) [.t 16,.t 21] 16),(mO 3 22)] (rn 16 7 [])) <|
  .seq (rg [(mv 23 4),(op 24 (.bin .add) [.t 23,(ic 1)]),(mv 4 24)] [23,24]) <|
  .exit 1)
  (.skip)) <|
  .seq (rg [(op 5 .mv [.c (.sl .full 1 [])])] []) <|
  .seq (.block 2 (L143_0)) <|
  .seq (rg [(mv 46 5),(o1 47 (.len false) 46),(op 48 (.bin .gtr) [.t 47,(ic 0)])] [46,47]) <|
  .cond (.t 48) (rg [(mO 49 3),(mv 50 5),(o1 51 .b2s 50),(op 52 (.build [.int .i64 0,.str [],.int .i64 0] [(0,1),(1,1)]) [(ic 1),.t 51]),(o1 53 (.mks 3 [.int .i64 0,.str [],.int .i64 0] 1 [0]) 52),(oD 54 (.app false 3 32) [.t 49,.t 53] 49),(mO 3 54)] (rn 49 6 [5]))
  (.skip)))
def F143:AFun:=
{nargs:=1,keep:=false,res:=[.tmp 2],body:=
  .seq (rg [(op 2 .mv [.c (.sl .full 3 [])])] [2]) <|
  .seq (rg [(op 3 .mv [.c (.sl .full 3 [])])] []) <|
  .seq (.seq (rg [(op 4 .mv [(ic 0)])] []) <|
  .block 0 (L143_1)) <|
  .seq (rg [(mv 55 3),(mO 2 55)] [55,3]) <|
  .ret }
def F144:AFun:=
{nargs:=1,keep:=false,res:=[.tmp 2,.tmp 3,.tmp 4],body:=
  .seq (rg [(op 2 .mv [.c (.int .u8 0)]),(op 3 .mv [(ic 0)]),(op 4 .mv [bF])] [2,3,4]) <|
  .seq (.seq (rg [(mv 10 0),(o1 11 (.len true) 10),(op 12 (.bin .lss) [.t 11,(ic 2)])] [10,11]) <|
  .cond (.t 12) (.seq (rg [(op 2 .mv [.c (.int .u8 0)]),(op 3 .mv [(ic 0)]),(op 4 .mv [bF])] []) <|
  .ret)
  (.skip)) <|
  .seq (.seq (rg [(mv 13 0),(op 14 .ixs [.t 13,(ic 1)])] [13]) <|
  .block 0 (.seq (.seq (rg [(op 16 (.bin .eql) [.t 14,.c (.int .u8 92)]),(mv 15 16)] [16]) <|
  .cond (.t 15) (.skip)
  (.seq (rg [(op 17 (.bin .eql) [.t 14,.c (.int .u8 60)]),(mv 15 17)] [17]) <|
  .cond (.t 15) (.skip)
  (rg [(op 18 (.bin .eql) [.t 14,.c (.int .u8 123)]),(mv 15 18)] [18]))) <|
  .cond (.t 15) (.seq (rg [(mv 19 0),(op 20 .ixs [.t 19,(ic 1)]),(mv 2 20),(op 3 .mv [(ic 2)]),(op 4 .mv [bT])] [19,20,0]) <|
  .ret)
  (.seq (rg [(op 22 (.bin .eql) [.t 14,.c (.int .u8 110)]),(mv 21 22)] [22]) <|
  .cond (.t 21) (.seq (rg [(op 2 .mv [.c (.int .u8 10)]),(op 3 .mv [(ic 2)]),(op 4 .mv [bT])] []) <|
  .ret)
  (.seq (rg [(op 24 (.bin .eql) [.t 14,.c (.int .u8 116)]),(mv 23 24)] [24]) <|
  .cond (.t 23) (.seq (rg [(op 2 .mv [.c (.int .u8 9)]),(op 3 .mv [(ic 2)]),(op 4 .mv [bT])] []) <|
  .ret)
  (.seq (rg [(op 26 (.bin .eql) [.t 14,.c (.int .u8 120)]),(mv 25 26)] [26,14]) <|
  .cond (.t 25) (.seq (.seq (rg [(mv 27 0),(o1 28 (.len true) 27),(op 29 (.bin .lss) [.t 28,(ic 4)])] [27,28]) <|
  .cond (.t 29) (.seq (rg [(op 2 .mv [.c (.int .u8 0)]),(op 3 .mv [(ic 0)]),(op 4 .mv [bF])] []) <|
  .ret)
  (.skip)) <|
  .seq (rg [(mv 31 0),(op 32 .ixs [.t 31,(ic 2)]),(o1 33 (.call 157) 32),(mv 30 33),(o1 34 (.ext 0) 30),(o1 35 (.ext 1) 30),(mv 5 34),(mv 6 35)] [31,32,33,30,34,35]) <|
  .seq (rg [(mv 37 0),(op 38 .ixs [.t 37,(ic 3)]),(o1 39 (.call 157) 38),(mv 36 39),(o1 40 (.ext 0) 36),(o1 41 (.ext 1) 36),(mv 7 40),(mv 8 41)] [37,38,39,36,40,41,0]) <|
  .seq (rg [(mv 42 5),(op 43 (.shf true) [.t 42,.c (.int .u64 4)]),(mv 44 7),(o2 45 (.bin .or) 43 44),(mv 9 45)] [42,43,44,45,5,7]) <|
  .seq (rg [(mv 46 9),(mv 47 6),(mv 48 47),(mG 49 8 48 true),(op 50 .pick [.t 48,.t 49,bF]),(mv 51 50),(mG 52 9 51 true),(oG 53 (.bin .eql) [.t 52,.c (.int .u8 13)] 51 true),(mG 54 53 51 true),(mG 55 9 54 false),(oG 56 (.call 153) [.t 55] 54 false),(oG 57 (.bin .eql) [.t 56,(ic 1)] 54 false),(oG 58 .pick [.t 54,bT,.t 57] 51 true),(op 59 .pick [.t 51,.t 58,bF]),(mv 2 46),(op 3 .mv [(ic 4)]),(mv 4 59)] (rn 46 14 [9,6,8])) <|
  .ret)
  (.skip)))))) <|
  .seq (rg [(op 2 .mv [.c (.int .u8 0)]),(op 3 .mv [(ic 0)]),(op 4 .mv [bF])] []) <|
  .ret }
def F145:AFun:=
{nargs:=2,keep:=false,res:=[.tmp 4],body:=
  .seq (rg [(op 4 .mv [(ic 0)])] [4]) <|
  .seq (rg [(mv 5 0),(mv 6 1),(o2 7 (.call 131) 5 6),(mv 4 7)] [5,6,7,0,1]) <|
  .ret }
def F146:AFun:=
{nargs:=1,keep:=false,res:=[.cell 2 true 3,.tmp 3],body:=
  .seq (.reg false [2] [(oL 2 2 (.alloc [.int .i64 0,.str [],.int .i64 0]) []),(op 3 .mv [bF])] [3]) <|
  .seq (.reg false [4] [(op 10 (.build [.int .i64 0,.str [],.int .i64 0] [(0,1)]) [(ic 2)]),(oL 4 4 (.alloc [.int .i64 0,.str [],.int .i64 0]) []),(tL 4 (.st 3) [.t 4,.t 10])] [10]) <|
  .seq (.seq (rg [(mv 11 0),(op 12 (.call 158) [.t 11,.c (.str [47])])] [11]) <|
  .cond (.t 12) (.reg true [] [(mv 13 0),(op 14 (.slc true 0 true false) [.t 13,(ic 1)]),(o1 15 (.fa 0) 4),(tL 4 (.st 1) [.t 15,(ic 3)]),(mv 0 14)] [13,14,15])
  (.skip)) <|
  .seq (rg [(mv 17 0),(op 18 (.call 42) [.t 17,.c (.str [58])]),(mv 16 18),(o1 19 (.ext 0) 16),(o1 20 (.ext 1) 16),(o1 21 (.ext 2) 16),(mv 5 19),(mv 6 20),(mv 7 21)] [17,18,16,19,20,21,0]) <|
  .seq (.seq (rg [(o1 22 (.fa 0) 4),(oL 23 4 ld1 [.t 22]),(op 24 (.bin .eql) [.t 23,(ic 2)]),(mv 25 24),(mG 26 6 25 true),(oG 27 (.call 159) [.t 26,.c (.str [47])] 25 true),(op 28 .pick [.t 25,.t 27,bF])] (rn 22 6 [])) <|
  .cond (.t 28) (.reg true [] [(mv 29 6),(mv 30 6),(o1 31 (.len true) 30),(op 32 (.bin .sub) [.t 31,(ic 1)]),(o2 33 (.slc true 0 false true) 29 32),(o1 34 (.fa 0) 4),(tL 4 (.st 1) [.t 34,(ic 4)]),(mv 6 33)] (rn 29 6 []))
  (.skip)) <|
  .seq (rg [(mv 36 5),(o1 37 (.call 160) 36),(mv 35 37),(o1 38 (.ext 0) 35),(o1 39 (.ext 1) 35),(mv 8 38),(mv 9 39)] [36,37,35,38,39,5]) <|
  .seq (.seq (rg [(mv 40 7),(o1 41 (.un .not) 40),(mv 42 41),(mG 43 9 42 false),(oG 44 (.un .not) [.t 43] 42 false),(op 45 .pick [.t 42,bT,.t 44])] (rn 40 5 [7,9])) <|
  .cond (.t 45) (.seq (rg [(op 46 (.build [.int .i64 0,.str [],.int .i64 0] []) []),(tL 2 (.st 3) [.t 2,.t 46]),(op 3 .mv [bF])] [46]) <|
  .ret)
  (.skip)) <|
  .seq (rg [(mv 47 6),(mv 48 8),(o1 49 (.fa 1) 4),(tL 4 (.st 1) [.t 49,.t 47]),(o1 50 (.fa 2) 4),(tL 4 (.st 1) [.t 50,.t 48])] [47,48,49,50,8]) <|
  .seq (.seq (rg [(o1 51 (.fa 0) 4),(oL 52 4 ld1 [.t 51]),(op 53 (.bin .eql) [.t 52,(ic 3)])] [51,52]) <|
  .cond (.t 53) (.seq (.reg true [] [(oL 54 4 (.ld true 3) [.t 4]),(mv 55 6),(o1 56 (.call 95) 55),(tL 2 (.st 3) [.t 2,.t 54]),(mv 3 56)] [54,55,56,4,6]) <|
  .ret)
  (.skip)) <|
  .seq (.reg true [] [(oL 57 4 (.ld true 3) [.t 4]),(mv 58 6),(o1 59 (.call 140) 58),(tL 2 (.st 3) [.t 2,.t 57]),(mv 3 59)] [57,58,59,4,6]) <|
  .ret }
def F147:AFun:=
{nargs:=1,keep:=false,res:=[.tmp 2],body:=
  .seq (rg [(op 2 .mv [.c (.str [])])] [2]) <|
  .seq (rg [(mv 7 0),(op 8 (.call 42) [.t 7,.c (.str [32])]),(mv 6 8),(o1 9 (.ext 0) 6),(o1 10 (.ext 1) 6),(o1 11 (.ext 2) 6),(mv 3 9),(mv 4 10),(mv 5 11)] [7,8,6,9,10,11,4,5,0]) <|
  .seq (rg [(mv 12 3),(mv 2 12)] [12,3]) <|
  .ret }
def F148:AFun:=
{nargs:=1,keep:=false,res:=[.tmp 2],body:=
  .seq (rg [(op 2 .mv [(ic 0)])] [2]) <|
  .seq (rg [(mv 3 0),(op 4 (.bin .mul) [.t 3,(ic 78913)]),(op 5 (.shf false) [.t 4,.c (.int .u64 18)]),(mv 2 5)] [3,4,5,0]) <|
  .ret }
def F149:AFun:=
{nargs:=1,keep:=false,res:=[.tmp 2],body:=
  .seq (rg [(op 2 .mv [(ic 0)])] []) <|
  .seq (.seq (rg [(mv 3 0),(op 4 (.bin .geq) [.t 3,.c (.int .u64 4294967296)])] [3]) <|
  .cond (.t 4) (.seq (rg [(mv 5 0),(op 6 (.shf false) [.t 5,.c (.int .u64 32)]),(mv 0 6)] [5,6]) <|
  rg [(op 2 .mv [(ic 32)])] [])
  (.skip)) <|
  .seq (.seq (rg [(mv 7 0),(op 8 (.bin .geq) [.t 7,.c (.int .u64 65536)])] [7]) <|
  .cond (.t 8) (.seq (rg [(mv 9 0),(op 10 (.shf false) [.t 9,.c (.int .u64 16)]),(mv 0 10)] [9,10]) <|
  rg [(mv 11 2),(op 12 (.bin .add) [.t 11,(ic 16)]),(mv 2 12)] [11,12])
  (.skip)) <|
  .seq (.seq (rg [(mv 13 0),(op 14 (.bin .geq) [.t 13,.c (.int .u64 256)])] [13]) <|
  .cond (.t 14) (.seq (rg [(mv 15 0),(op 16 (.shf false) [.t 15,.c (.int .u64 8)]),(mv 0 16)] [15,16]) <|
  rg [(mv 17 2),(op 18 (.bin .add) [.t 17,(ic 8)]),(mv 2 18)] [17,18])
  (.skip)) <|
  .seq (rg [(mv 19 2),(mv 20 0),(o1 21 (.cvi .u8) 20),(op 22 .ixs [.c (.str [0,1,2,2,3,3,3,3,4,4,4,4,4,4,4,4,5,5,5,5,5,5,5,5,5,5,5,5,5,5,5,5,6,6,6,6,6,6,6,6,6,6,6,6,6,6,6,6,6,6,6,6,6,6,6,6,6,6,6,6,6,6,6,6,7,7,7,7,7,7,7,7,7,7,7,7,7,7,7,7,7,7,7,7,7,7,7,7,7,7,7,7,7,7,7,7,7,7,7,7,7,7,7,7,7,7,7,7,7,7,7,7,7,7,7,7,7,7,7,7,7,7,7,7,7,7,7,7,8,8,8,8,8,8,8,8,8,8,8,8,8,8,8,8,8,8,8,8,8,8,8,8,8,8,8,8,8,8,8,8,8,8,8,8,8,8,8,8,8,8,8,8,8,8,8,8,8,8,8,8,8,8,8,8,8,8,8,8,8,8,8,8,8,8,8,8,8,8,8,8,8,8,8,8,8,8,8,8,8,8,8,8,8,8,8,8,8,8,8,8,8,8,8,8,8,8,8,8,8,8,8,8,8,8,8,8,8,8,8,8,8,8,8,8,8,8,8,8,8,8,8,8,8,8,8,8]),.t 21]),(o1 23 (.cvi .i64) 22),(o2 24 (.bin .add) 19 23),(mv 2 24)] (rn 19 6 [0])) <|
  .ret }
def F150:AFun:=
{nargs:=1,keep:=false,res:=[.tmp 2],body:=
  .seq (rg [(op 2 .mv [(ic 0)])] [2]) <|
  .seq (.seq (rg [(mv 3 0)] [0]) <|
  .cond (.t 3) (.seq (rg [(op 2 .mv [(ic 1)])] []) <|
  .ret)
  (.skip)) <|
  .seq (rg [(op 2 .mv [(ic 0)])] []) <|
  .ret }
def F153:AFun:=
{nargs:=1,keep:=false,res:=[.tmp 2],body:=
  .seq (rg [(op 2 .mv [(ic 0)])] [2]) <|
  .seq (.block 0 (.seq (rg [(mv 4 0),(op 5 (.bin .eql) [.t 4,.c (.int .u8 9)]),(mv 6 5),(mG 7 0 6 false),(oG 8 (.bin .eql) [.t 7,.c (.int .u8 10)] 6 false),(op 9 .pick [.t 6,bT,.t 8]),(mv 10 9),(mG 11 0 10 false),(oG 12 (.bin .eql) [.t 11,.c (.int .u8 13)] 10 false),(op 13 .pick [.t 10,bT,.t 12]),(mv 14 13),(mG 15 0 14 false),(oG 16 (.bin .eql) [.t 15,.c (.int .u8 32)] 14 false),(op 17 .pick [.t 14,bT,.t 16]),(mv 3 17)] (rn 4 14 [])) <|
  .cond (.t 3) (.seq (rg [(op 2 .mv [(ic 2)])] []) <|
  .ret)
  (.seq (rg [(mv 19 0),(op 20 (.bin .lss) [.t 19,.c (.int .u8 32)]),(mv 21 20),(mG 22 0 21 false),(oG 23 (.bin .eql) [.t 22,.c (.int .u8 127)] 21 false),(op 24 .pick [.t 21,bT,.t 23]),(mv 18 24)] (rn 19 6 [])) <|
  .cond (.t 18) (.seq (rg [(op 2 .mv [(ic 1)])] []) <|
  .ret)
  (.seq (rg [(mv 26 0),(op 27 (.bin .geq) [.t 26,.c (.int .u8 48)]),(mv 28 27),(mG 29 0 28 true),(oG 30 (.bin .leq) [.t 29,.c (.int .u8 57)] 28 true),(op 31 .pick [.t 28,.t 30,bF]),(mv 25 31)] (rn 26 6 [])) <|
  .cond (.t 25) (.seq (rg [(op 2 .mv [(ic 3)])] []) <|
  .ret)
  (.seq (rg [(mv 33 0),(op 34 (.bin .geq) [.t 33,.c (.int .u8 97)]),(mv 35 34),(mG 36 0 35 true),(oG 37 (.bin .leq) [.t 36,.c (.int .u8 122)] 35 true),(op 38 .pick [.t 35,.t 37,bF]),(mv 39 38),(mG 40 0 39 false),(oG 41 (.bin .geq) [.t 40,.c (.int .u8 65)] 39 false),(mG 42 41 39 false),(mG 43 0 42 true),(oG 44 (.bin .leq) [.t 43,.c (.int .u8 90)] 42 true),(oG 45 .pick [.t 42,.t 44,bF] 39 false),(op 46 .pick [.t 39,bT,.t 45]),(mv 47 46),(mG 48 0 47 false),(oG 49 (.bin .geq) [.t 48,.c (.int .u8 128)] 47 false),(op 50 .pick [.t 47,bT,.t 49]),(mv 32 50)] (rn 33 18 [0])) <|
  .cond (.t 32) (.seq (rg [(op 2 .mv [(ic 4)])] []) <|
  .ret)
  (.skip)))))) <|
  .seq (rg [(op 2 .mv [(ic 5)])] []) <|
  .ret }
def F154:AFun:=
{nargs:=1,keep:=false,res:=[.tmp 2],body:=
  .seq (rg [(op 2 .mv [(ic 0)])] [2]) <|
  .seq (.block 0 (.seq (rg [(mv 4 0),(op 5 (.bin .eql) [.t 4,.c (.int .u8 9)]),(mv 6 5),(mG 7 0 6 false),(oG 8 (.bin .eql) [.t 7,.c (.int .u8 10)] 6 false),(op 9 .pick [.t 6,bT,.t 8]),(mv 10 9),(mG 11 0 10 false),(oG 12 (.bin .eql) [.t 11,.c (.int .u8 13)] 10 false),(op 13 .pick [.t 10,bT,.t 12]),(mv 14 13),(mG 15 0 14 false),(oG 16 (.bin .eql) [.t 15,.c (.int .u8 32)] 14 false),(op 17 .pick [.t 14,bT,.t 16]),(mv 3 17)] (rn 4 14 [])) <|
  .cond (.t 3) (.seq (rg [(op 2 .mv [(ic 2)])] []) <|
  .ret)
  (.seq (rg [(mv 19 0),(op 20 (.bin .lss) [.t 19,.c (.int .u8 32)]),(mv 21 20),(mG 22 0 21 false),(oG 23 (.bin .eql) [.t 22,.c (.int .u8 127)] 21 false),(op 24 .pick [.t 21,bT,.t 23]),(mv 18 24)] (rn 19 6 [])) <|
  .cond (.t 18) (.seq (rg [(op 2 .mv [(ic 1)])] []) <|
  .ret)
  (.seq (rg [(mv 26 0),(op 27 (.bin .geq) [.t 26,.c (.int .u8 48)]),(mv 28 27),(mG 29 0 28 true),(oG 30 (.bin .leq) [.t 29,.c (.int .u8 57)] 28 true),(op 31 .pick [.t 28,.t 30,bF]),(mv 25 31)] (rn 26 6 [])) <|
  .cond (.t 25) (.seq (rg [(op 2 .mv [(ic 3)])] []) <|
  .ret)
  (.seq (rg [(mv 33 0),(op 34 (.bin .geq) [.t 33,.c (.int .u8 65)]),(mv 35 34),(mG 36 0 35 true),(oG 37 (.bin .leq) [.t 36,.c (.int .u8 90)] 35 true),(op 38 .pick [.t 35,.t 37,bF]),(mv 39 38),(mG 40 0 39 false),(oG 41 (.bin .geq) [.t 40,.c (.int .u8 97)] 39 false),(mG 42 41 39 false),(mG 43 0 42 true),(oG 44 (.bin .leq) [.t 43,.c (.int .u8 122)] 42 true),(oG 45 .pick [.t 42,.t 44,bF] 39 false),(op 46 .pick [.t 39,bT,.t 45]),(mv 47 46),(mG 48 0 47 false),(oG 49 (.bin .geq) [.t 48,.c (.int .u8 128)] 47 false),(op 50 .pick [.t 47,bT,.t 49]),(mv 32 50)] (rn 33 18 [0])) <|
  .cond (.t 32) (.seq (rg [(op 2 .mv [(ic 4)])] []) <|
  .ret)
  (.skip)))))) <|
  .seq (rg [(op 2 .mv [(ic 5)])] []) <|
  .ret }
def F157:AFun:=
{nargs:=1,keep:=false,res:=[.tmp 2,.tmp 3],body:=
  .seq (rg [(op 2 .mv [.c (.int .u8 0)]),(op 3 .mv [bF])] [2,3]) <|
  .seq (.block 0 (.seq (rg [(mv 5 0),(op 6 (.bin .geq) [.t 5,.c (.int .u8 48)]),(mv 7 6),(mG 8 0 7 true),(oG 9 (.bin .leq) [.t 8,.c (.int .u8 57)] 7 true),(op 10 .pick [.t 7,.t 9,bF]),(mv 4 10)] (rn 5 6 [])) <|
  .cond (.t 4) (.seq (rg [(mv 11 0),(op 12 (.bin .sub) [.t 11,.c (.int .u8 48)]),(mv 2 12),(op 3 .mv [bT])] [11,12,0]) <|
  .ret)
  (.seq (rg [(mv 14 0),(op 15 (.bin .geq) [.t 14,.c (.int .u8 97)]),(mv 16 15),(mG 17 0 16 true),(oG 18 (.bin .leq) [.t 17,.c (.int .u8 102)] 16 true),(op 19 .pick [.t 16,.t 18,bF]),(mv 13 19)] (rn 14 6 [])) <|
  .cond (.t 13) (.seq (rg [(mv 20 0),(op 21 (.bin .sub) [.t 20,.c (.int .u8 97)]),(op 22 (.bin .add) [.t 21,.c (.int .u8 10)]),(mv 2 22),(op 3 .mv [bT])] [20,21,22,0]) <|
  .ret)
  (.skip)))) <|
  .seq (rg [(op 2 .mv [.c (.int .u8 0)]),(op 3 .mv [bF])] []) <|
  .ret }
def F158:AFun:=
{nargs:=2,keep:=false,res:=[.tmp 4],body:=
  .seq (rg [(op 4 .mv [bF])] [4]) <|
  .seq (rg [(mv 5 0),(mv 6 1),(o2 7 (.call 102) 5 6),(mv 4 7)] [5,6,7,0,1]) <|
  .ret }
def F159:AFun:=
{nargs:=2,keep:=false,res:=[.tmp 4],body:=
  .seq (rg [(op 4 .mv [bF])] [4]) <|
  .seq (rg [(mv 5 0),(mv 6 1),(o2 7 (.call 163) 5 6),(mv 4 7)] [5,6,7,0,1]) <|
  .ret }
def L160_0:ACode:=
  .loop (19::20::21::22::(rn 25 10 (2::3::(rn 35 8 [23,24])))) (.seq (.seq (rg [(mv 19 5),(mv 20 0),(o1 21 (.len true) 20),(o2 22 (.bin .lss) 19 21)] [19,20,21]) <|
  .cond (.t 22) (.skip)
  (.exit 0)) <|
  .seq (.block 1 (.seq (.seq (rg [(mv 25 0),(mv 26 5),(o2 27 .ixs 25 26),(op 28 (.bin .lss) [.t 27,.c (.int .u8 48)]),(mv 29 28),(mG 30 0 29 false),(mG 31 5 29 false),(oG 32 .ixs [.t 30,.t 31] 29 false),(oG 33 (.bin .gtr) [.t 32,.c (.int .u8 57)] 29 false),(op 34 .pick [.t 29,bT,.t 33])] (rn 25 9 [])) <|
  .cond (.t 34) (.seq (rg [(op 2 .mv [(ic 0)]),(op 3 .mv [bF])] []) <|
  .ret)
  (.skip)) <|
  rg [(mv 35 4),(op 36 (.bin .mul) [(ic 10),.t 35]),(mv 37 0),(mv 38 5),(o2 39 .ixs 37 38),(op 40 (.bin .sub) [.t 39,.c (.int .u8 48)]),(o1 41 (.cvi .i64) 40),(o2 42 (.bin .add) 36 41),(mv 4 42)] (rn 35 8 []))) <|
  rg [(mv 23 5),(op 24 (.bin .add) [.t 23,(ic 1)]),(mv 5 24)] [23,24])
def F160:AFun:=
{nargs:=1,keep:=false,res:=[.tmp 2,.tmp 3],body:=
  .seq (rg [(op 2 .mv [(ic 0)]),(op 3 .mv [bF])] [2,3]) <|
  .seq (.seq (rg [(mv 6 0),(o1 7 (.len true) 6),(op 8 (.bin .lss) [.t 7,(ic 1)]),(mv 9 8),(mG 10 0 9 false),(oG 11 (.len true) [.t 10] 9 false),(oG 12 (.bin .gtr) [.t 11,(ic 3)] 9 false),(op 13 .pick [.t 9,bT,.t 12]),(mv 14 13),(mG 15 0 14 false),(oG 16 .ixs [.t 15,(ic 0)] 14 false),(oG 17 (.bin .eql) [.t 16,.c (.int .u8 48)] 14 false),(op 18 .pick [.t 14,bT,.t 17])] (rn 6 12 [])) <|
  .cond (.t 18) (.seq (rg [(op 2 .mv [(ic 0)]),(op 3 .mv [bF])] []) <|
  .ret)
  (.skip)) <|
  .seq (rg [(op 4 .mv [(ic 0)])] []) <|
  .seq (.seq (rg [(op 5 .mv [(ic 0)])] []) <|
  .block 0 (L160_0)) <|
  .seq (rg [(mv 43 4),(mv 44 4),(op 45 (.bin .leq) [.t 44,(ic 999)]),(mv 2 43),(mv 3 45)] [43,44,45,4]) <|
  .ret }
def F163:AFun:=
{nargs:=2,keep:=false,res:=[.tmp 4],body:=
  .seq (rg [(op 4 .mv [bF])] [4]) <|
  .seq (rg [(mv 5 0),(o1 6 (.len true) 5),(mv 7 1),(o1 8 (.len true) 7),(o2 9 (.bin .geq) 6 8),(mv 10 9),(mG 11 0 10 true),(mG 12 0 10 true),(oG 13 (.len true) [.t 12] 10 true),(mG 14 1 10 true),(oG 15 (.len true) [.t 14] 10 true),(oG 16 (.bin .sub) [.t 13,.t 15] 10 true),(oG 17 (.slc true 0 true false) [.t 11,.t 16] 10 true),(mG 18 1 10 true),(oG 19 (.bin .eql) [.t 17,.t 18] 10 true),(op 20 .pick [.t 10,.t 19,bF]),(mv 4 20)] (rn 5 16 [0,1])) <|
  .ret }
def L88_0s:ACode:=
  .loop (10::11::4::12::13::14::15::5::(rn 16 12 (6::(rn 28 32 [])))) (.seq (rg [(o2 10 (.bin .lss) 9 8)] []) <|
  .seq (.cond (.t 10) (.skip)
  (.exit 0)) <|
  .seq (.block 1 (.seq (rg [(mv 11 9),(mv 4 11)] [11]) <|
  .seq (.reg false [5] [(mv 12 0),(mv 13 4),(o2 14 (.ia 3) 12 13),(oS 15 (.ld true 3) [.t 14]),(oL 5 5 (.alloc [.int .i64 0,.str [],.int .i64 0]) []),(tL 5 (.st 3) [.t 5,.t 15])] [12,13,14,15,4]) <|
  .seq (.seq (rg [(o1 16 (.fa 0) 5),(oL 17 5 ld1 [.t 16]),(op 18 (.bin .neq) [.t 17,(ic 1)])] [16,17]) <|
  .cond (.t 18) (.seq (rg [(mO 19 3),(oL 20 5 (.ld true 3) [.t 5]),(o1 21 (.mks 3 [.int .i64 0,.str [],.int .i64 0] 1 [0]) 20),(oS 22 (.appS false 3 32) [.t 19,.t 21]),(mO 3 22)] [19,20,21,22,5]) <|
  .exit 1)
  (.skip)) <|
  .seq (.seq (rg [(o1 23 (.fa 1) 5),(oL 24 5 ld1 [.t 23]),(op 25 (.bin .eql) [.t 24,.c (.str [])])] [23,24]) <|
  .cond (.t 25) (.exit 1)
  (.skip)) <|
  .seq (rg [(mv 26 3),(o1 27 (.len false) 26),(mv 6 27)] [26,27]) <|
  .seq (rg [(mv 28 6),(op 29 (.bin .gtr) [.t 28,(ic 0)]),(mv 30 29),(mG 31 3 30 true),(mG 32 6 30 true),(oG 33 (.bin .sub) [.t 32,(ic 1)] 30 true),(oG 34 (.ia 3) [.t 31,.t 33] 30 true),(oG 35 (.fa 0) [.t 34] 30 true),
  ⟨(some 36),ld1,[.t 35],.sh,none,(some (30,true))⟩,
  (oG 37 (.bin .eql) [.t 36,(ic 1)] 30 true),(op 38 .pick [.t 30,.t 37,bF])] (rn 28 10 [])) <|
  .cond (.t 38) (.reg true [] [(mv 39 3),(mv 40 6),(op 41 (.bin .sub) [.t 40,(ic 1)]),(mv 42 3),(mv 43 6),(op 44 (.bin .sub) [.t 43,(ic 1)]),(o2 45 (.ia 3) 42 44),(o1 46 (.fa 1) 45),(oS 47 ld1 [.t 46]),(o1 48 (.fa 1) 5),(oL 49 5 ld1 [.t 48]),(o2 50 (.bin .add) 47 49),(op 51 (.build [.int .i64 0,.str [],.int .i64 0] [(0,1),(1,1)]) [(ic 1),.t 50]),(o2 52 (.ia 3) 39 41),(tS (.st 3) [.t 52,.t 51])] (rn 39 14 [6,5]))
  (rg [(mO 53 3),(o1 54 (.fa 1) 5),(oL 55 5 ld1 [.t 54]),(op 56 (.build [.int .i64 0,.str [],.int .i64 0] [(0,1),(1,1)]) [(ic 1),.t 55]),(o1 57 (.mks 3 [.int .i64 0,.str [],.int .i64 0] 1 [0]) 56),(oS 58 (.appS false 3 32) [.t 53,.t 57]),(mO 3 58)] (rn 53 6 [5])))) <|
  rg [(op 59 (.bin .add) [.t 9,(ic 1)]),(mv 9 59)] [59])
def F88s:AFun:=
{nargs:=1,keep:=true,res:=[.tmpD 2],body:=
  .seq (rg [(op 2 .mv [.c (.sl .full 3 [])])] [2]) <|
  .seq (rg [(op 3 .mv [.c (.sl .full 3 [])])] []) <|
  .seq (.seq (rg [(mv 7 0),(o1 8 (.len false) 7),(op 9 .mv [(ic 0)])] [7]) <|
  .block 0 (L88_0s)) <|
  .seq (rg [(mv 60 3),(mO 2 60)] [60,3]) <|
  .ret }
def F57s:AFun:=
{nargs:=2,keep:=true,res:=[.tmpD 4],body:=
  .seq (rg [(op 4 .mv [.c (.sl .full 3 [])])] [4]) <|
  .seq (rg [(mv 5 0),(oS 6 (.appS false 3 32) [.c (.sl .full 3 []),.t 5]),(mv 7 1),(oS 8 (.appS false 3 32) [.t 6,.t 7]),(oS 9 (.call 88) [.t 8]),(mO 4 9)] (rn 5 5 [0,1])) <|
  .ret }
theorem ok11:okFun Tryz.prog 11 F11=true:=by kernel_rfl
theorem ok12:okFun Tryz.prog 12 F12=true:=by kernel_rfl
theorem ok13:okFun Tryz.prog 13 F13=true:=by kernel_rfl
theorem ok15:okFun Tryz.prog 15 F15=true:=by kernel_rfl
theorem ok16:okFun Tryz.prog 16 F16=true:=by kernel_rfl
theorem ok18:okFun Tryz.prog 18 F18=true:=by kernel_rfl
theorem ok19:okFun Tryz.prog 19 F19=true:=by kernel_rfl
theorem ok20:okFun Tryz.prog 20 F20=true:=by kernel_rfl
theorem ok21:okFun Tryz.prog 21 F21=true:=by kernel_rfl
theorem ok22:okFun Tryz.prog 22 F22=true:=by kernel_rfl
theorem ok23:okFun Tryz.prog 23 F23=true:=by kernel_rfl
theorem ok24:okFun Tryz.prog 24 F24=true:=by kernel_rfl
theorem ok27:okFun Tryz.prog 27 F27=true:=by kernel_rfl
theorem ok28:okFun Tryz.prog 28 F28=true:=by kernel_rfl
theorem ok29:okFun Tryz.prog 29 F29=true:=by kernel_rfl
theorem ok30:okFun Tryz.prog 30 F30=true:=by kernel_rfl
theorem ok31:okFun Tryz.prog 31 F31=true:=by kernel_rfl
theorem ok32:okFun Tryz.prog 32 F32=true:=by kernel_rfl
theorem ok34:okFun Tryz.prog 34 F34=true:=by kernel_rfl
theorem ok38:okFun Tryz.prog 38 F38=true:=by kernel_rfl
theorem ok39:okFun Tryz.prog 39 F39=true:=by kernel_rfl
theorem ok40:okFun Tryz.prog 40 F40=true:=by kernel_rfl
theorem ok41:okFun Tryz.prog 41 F41=true:=by kernel_rfl
theorem ok42:okFun Tryz.prog 42 F42=true:=by kernel_rfl
theorem ok43:okFun Tryz.prog 43 F43=true:=by kernel_rfl
theorem ok44:okFun Tryz.prog 44 F44=true:=by kernel_rfl
theorem ok45:okFun Tryz.prog 45 F45=true:=by kernel_rfl
theorem ok46:okFun Tryz.prog 46 F46=true:=by kernel_rfl
theorem ok47:okFun Tryz.prog 47 F47=true:=by kernel_rfl
theorem ok50:okFun Tryz.prog 50 F50=true:=by kernel_rfl
theorem ok51:okFun Tryz.prog 51 F51=true:=by kernel_rfl
theorem ok52:okFun Tryz.prog 52 F52=true:=by kernel_rfl
theorem ok53:okFun Tryz.prog 53 F53=true:=by kernel_rfl
theorem ok54:okFun Tryz.prog 54 F54=true:=by kernel_rfl
theorem ok55:okFun Tryz.prog 55 F55=true:=by kernel_rfl
theorem ok56:okFun Tryz.prog 56 F56=true:=by kernel_rfl
theorem ok57:okFun Tryz.prog 57 F57=true:=by kernel_rfl
theorem ok58:okFun Tryz.prog 58 F58=true:=by kernel_rfl
theorem ok59:okFun Tryz.prog 59 F59=true:=by kernel_rfl
theorem ok60:okFun Tryz.prog 60 F60=true:=by kernel_rfl
theorem ok61:okFun Tryz.prog 61 F61=true:=by kernel_rfl
theorem ok62:okFun Tryz.prog 62 F62=true:=by kernel_rfl
theorem ok63:okFun Tryz.prog 63 F63=true:=by kernel_rfl
theorem ok65:okFun Tryz.prog 65 F65=true:=by kernel_rfl
theorem ok66:okFun Tryz.prog 66 F66=true:=by kernel_rfl
theorem ok67:okFun Tryz.prog 67 F67=true:=by kernel_rfl
theorem ok68:okFun Tryz.prog 68 F68=true:=by kernel_rfl
theorem ok69:okFun Tryz.prog 69 F69=true:=by kernel_rfl
theorem ok70:okFun Tryz.prog 70 F70=true:=by kernel_rfl
theorem ok71:okFun Tryz.prog 71 F71=true:=by kernel_rfl
theorem ok72:okFun Tryz.prog 72 F72=true:=by kernel_rfl
theorem ok73:okFun Tryz.prog 73 F73=true:=by kernel_rfl
theorem ok74:okFun Tryz.prog 74 F74=true:=by kernel_rfl
theorem ok75:okFun Tryz.prog 75 F75=true:=by kernel_rfl
theorem ok76:okFun Tryz.prog 76 F76=true:=by kernel_rfl
theorem ok77:okFun Tryz.prog 77 F77=true:=by kernel_rfl
theorem ok78:okFun Tryz.prog 78 F78=true:=by kernel_rfl
theorem ok79:okFun Tryz.prog 79 F79=true:=by kernel_rfl
theorem ok84:okFun Tryz.prog 84 F84=true:=by kernel_rfl
theorem ok85:okFun Tryz.prog 85 F85=true:=by kernel_rfl
theorem ok86:okFun Tryz.prog 86 F86=true:=by kernel_rfl
theorem ok87:okFun Tryz.prog 87 F87=true:=by kernel_rfl
theorem ok88:okFun Tryz.prog 88 F88=true:=by kernel_rfl
theorem ok89:okFun Tryz.prog 89 F89=true:=by kernel_rfl
theorem ok90:okFun Tryz.prog 90 F90=true:=by kernel_rfl
theorem ok91:okFun Tryz.prog 91 F91=true:=by kernel_rfl
theorem ok92:okFun Tryz.prog 92 F92=true:=by kernel_rfl
theorem ok93:okFun Tryz.prog 93 F93=true:=by kernel_rfl
theorem ok94:okFun Tryz.prog 94 F94=true:=by kernel_rfl
theorem ok95:okFun Tryz.prog 95 F95=true:=by kernel_rfl
theorem ok96:okFun Tryz.prog 96 F96=true:=by kernel_rfl
theorem ok98:okFun Tryz.prog 98 F98=true:=by kernel_rfl
theorem ok99:okFun Tryz.prog 99 F99=true:=by kernel_rfl
theorem ok100:okFun Tryz.prog 100 F100=true:=by kernel_rfl
theorem ok101:okFun Tryz.prog 101 F101=true:=by kernel_rfl
theorem ok102:okFun Tryz.prog 102 F102=true:=by kernel_rfl
theorem ok109:okFun Tryz.prog 109 F109=true:=by kernel_rfl
theorem ok110:okFun Tryz.prog 110 F110=true:=by kernel_rfl
theorem ok111:okFun Tryz.prog 111 F111=true:=by kernel_rfl
theorem ok112:okFun Tryz.prog 112 F112=true:=by kernel_rfl
theorem ok113:okFun Tryz.prog 113 F113=true:=by kernel_rfl
theorem ok114:okFun Tryz.prog 114 F114=true:=by kernel_rfl
theorem ok115:okFun Tryz.prog 115 F115=true:=by kernel_rfl
theorem ok116:okFun Tryz.prog 116 F116=true:=by kernel_rfl
theorem ok117:okFun Tryz.prog 117 F117=true:=by kernel_rfl
theorem ok118:okFun Tryz.prog 118 F118=true:=by kernel_rfl
theorem ok119:okFun Tryz.prog 119 F119=true:=by kernel_rfl
theorem ok120:okFun Tryz.prog 120 F120=true:=by kernel_rfl
theorem ok121:okFun Tryz.prog 121 F121=true:=by kernel_rfl
theorem ok122:okFun Tryz.prog 122 F122=true:=by kernel_rfl
theorem ok123:okFun Tryz.prog 123 F123=true:=by kernel_rfl
theorem ok124:okFun Tryz.prog 124 F124=true:=by kernel_rfl
theorem ok125:okFun Tryz.prog 125 F125=true:=by kernel_rfl
theorem ok126:okFun Tryz.prog 126 F126=true:=by kernel_rfl
theorem ok127:okFun Tryz.prog 127 F127=true:=by kernel_rfl
theorem ok129:okFun Tryz.prog 129 F129=true:=by kernel_rfl
theorem ok130:okFun Tryz.prog 130 F130=true:=by kernel_rfl
theorem ok131:okFun Tryz.prog 131 F131=true:=by kernel_rfl
theorem ok137:okFun Tryz.prog 137 F137=true:=by kernel_rfl
theorem ok138:okFun Tryz.prog 138 F138=true:=by kernel_rfl
theorem ok139:okFun Tryz.prog 139 F139=true:=by kernel_rfl
theorem ok140:okFun Tryz.prog 140 F140=true:=by kernel_rfl
theorem ok141:okFun Tryz.prog 141 F141=true:=by kernel_rfl
theorem ok142:okFun Tryz.prog 142 F142=true:=by kernel_rfl
theorem ok143:okFun Tryz.prog 143 F143=true:=by kernel_rfl
theorem ok144:okFun Tryz.prog 144 F144=true:=by kernel_rfl
theorem ok145:okFun Tryz.prog 145 F145=true:=by kernel_rfl
theorem ok146:okFun Tryz.prog 146 F146=true:=by kernel_rfl
theorem ok147:okFun Tryz.prog 147 F147=true:=by kernel_rfl
theorem ok148:okFun Tryz.prog 148 F148=true:=by kernel_rfl
theorem ok149:okFun Tryz.prog 149 F149=true:=by kernel_rfl
theorem ok150:okFun Tryz.prog 150 F150=true:=by kernel_rfl
theorem ok153:okFun Tryz.prog 153 F153=true:=by kernel_rfl
theorem ok154:okFun Tryz.prog 154 F154=true:=by kernel_rfl
theorem ok157:okFun Tryz.prog 157 F157=true:=by kernel_rfl
theorem ok158:okFun Tryz.prog 158 F158=true:=by kernel_rfl
theorem ok159:okFun Tryz.prog 159 F159=true:=by kernel_rfl
theorem ok160:okFun Tryz.prog 160 F160=true:=by kernel_rfl
theorem ok163:okFun Tryz.prog 163 F163=true:=by kernel_rfl
theorem mix:Tryz.prog.follows .mixedOrders=true:=by kernel_rfl
def T0:FuncId->Option AFun
 | 11=>some F11
 | 12=>some F12
 | 13=>some F13
 | 15=>some F15
 | 16=>some F16
 | 18=>some F18
 | 19=>some F19
 | 20=>some F20
 | 21=>some F21
 | 22=>some F22
 | 23=>some F23
 | 24=>some F24
 | 27=>some F27
 | 28=>some F28
 | 29=>some F29
 | 30=>some F30
 | 31=>some F31
 | 32=>some F32
 | 34=>some F34
 | 38=>some F38
 | 39=>some F39
 | 40=>some F40
 | 41=>some F41
 | 42=>some F42
 | 43=>some F43
 | 44=>some F44
 | 45=>some F45
 | 46=>some F46
 | 47=>some F47
 | 50=>some F50
 | 51=>some F51
 | 52=>some F52
 | 53=>some F53
 | 54=>some F54
 | 55=>some F55
 | 56=>some F56
 | 57=>some F57
 | 58=>some F58
 | 59=>some F59
 | 60=>some F60
 | 61=>some F61
 | 62=>some F62
 | 63=>some F63
 | 65=>some F65
 | 66=>some F66
 | 67=>some F67
 | 68=>some F68
 | 69=>some F69
 | 70=>some F70
 | 71=>some F71
 | 72=>some F72
 | 73=>some F73
 | 74=>some F74
 | 75=>some F75
 | 76=>some F76
 | 77=>some F77
 | 78=>some F78
 | 79=>some F79
 | 84=>some F84
 | 85=>some F85
 | 86=>some F86
 | 87=>some F87
 | 88=>some F88
 | 89=>some F89
 | 90=>some F90
 | 91=>some F91
 | 92=>some F92
 | 93=>some F93
 | 94=>some F94
 | 95=>some F95
 | 96=>some F96
 | 98=>some F98
 | 99=>some F99
 | 100=>some F100
 | 101=>some F101
 | 102=>some F102
 | 109=>some F109
 | 110=>some F110
 | 111=>some F111
 | 112=>some F112
 | 113=>some F113
 | 114=>some F114
 | 115=>some F115
 | 116=>some F116
 | 117=>some F117
 | 118=>some F118
 | 119=>some F119
 | 120=>some F120
 | 121=>some F121
 | 122=>some F122
 | 123=>some F123
 | 124=>some F124
 | 125=>some F125
 | 126=>some F126
 | 127=>some F127
 | 129=>some F129
 | 130=>some F130
 | 131=>some F131
 | 137=>some F137
 | 138=>some F138
 | 139=>some F139
 | 140=>some F140
 | 141=>some F141
 | 142=>some F142
 | 143=>some F143
 | 144=>some F144
 | 145=>some F145
 | 146=>some F146
 | 147=>some F147
 | 148=>some F148
 | 149=>some F149
 | 150=>some F150
 | 153=>some F153
 | 154=>some F154
 | 157=>some F157
 | 158=>some F158
 | 159=>some F159
 | 160=>some F160
 | 163=>some F163
 | _=>none
theorem T0_ok:∀ f F,T0 f=some F->okFun Tryz.prog f F=true:=by
 intro f F h;unfold T0 at h
 split at h
 ·cases h;exact ok11
 ·cases h;exact ok12
 ·cases h;exact ok13
 ·cases h;exact ok15
 ·cases h;exact ok16
 ·cases h;exact ok18
 ·cases h;exact ok19
 ·cases h;exact ok20
 ·cases h;exact ok21
 ·cases h;exact ok22
 ·cases h;exact ok23
 ·cases h;exact ok24
 ·cases h;exact ok27
 ·cases h;exact ok28
 ·cases h;exact ok29
 ·cases h;exact ok30
 ·cases h;exact ok31
 ·cases h;exact ok32
 ·cases h;exact ok34
 ·cases h;exact ok38
 ·cases h;exact ok39
 ·cases h;exact ok40
 ·cases h;exact ok41
 ·cases h;exact ok42
 ·cases h;exact ok43
 ·cases h;exact ok44
 ·cases h;exact ok45
 ·cases h;exact ok46
 ·cases h;exact ok47
 ·cases h;exact ok50
 ·cases h;exact ok51
 ·cases h;exact ok52
 ·cases h;exact ok53
 ·cases h;exact ok54
 ·cases h;exact ok55
 ·cases h;exact ok56
 ·cases h;exact ok57
 ·cases h;exact ok58
 ·cases h;exact ok59
 ·cases h;exact ok60
 ·cases h;exact ok61
 ·cases h;exact ok62
 ·cases h;exact ok63
 ·cases h;exact ok65
 ·cases h;exact ok66
 ·cases h;exact ok67
 ·cases h;exact ok68
 ·cases h;exact ok69
 ·cases h;exact ok70
 ·cases h;exact ok71
 ·cases h;exact ok72
 ·cases h;exact ok73
 ·cases h;exact ok74
 ·cases h;exact ok75
 ·cases h;exact ok76
 ·cases h;exact ok77
 ·cases h;exact ok78
 ·cases h;exact ok79
 ·cases h;exact ok84
 ·cases h;exact ok85
 ·cases h;exact ok86
 ·cases h;exact ok87
 ·cases h;exact ok88
 ·cases h;exact ok89
 ·cases h;exact ok90
 ·cases h;exact ok91
 ·cases h;exact ok92
 ·cases h;exact ok93
 ·cases h;exact ok94
 ·cases h;exact ok95
 ·cases h;exact ok96
 ·cases h;exact ok98
 ·cases h;exact ok99
 ·cases h;exact ok100
 ·cases h;exact ok101
 ·cases h;exact ok102
 ·cases h;exact ok109
 ·cases h;exact ok110
 ·cases h;exact ok111
 ·cases h;exact ok112
 ·cases h;exact ok113
 ·cases h;exact ok114
 ·cases h;exact ok115
 ·cases h;exact ok116
 ·cases h;exact ok117
 ·cases h;exact ok118
 ·cases h;exact ok119
 ·cases h;exact ok120
 ·cases h;exact ok121
 ·cases h;exact ok122
 ·cases h;exact ok123
 ·cases h;exact ok124
 ·cases h;exact ok125
 ·cases h;exact ok126
 ·cases h;exact ok127
 ·cases h;exact ok129
 ·cases h;exact ok130
 ·cases h;exact ok131
 ·cases h;exact ok137
 ·cases h;exact ok138
 ·cases h;exact ok139
 ·cases h;exact ok140
 ·cases h;exact ok141
 ·cases h;exact ok142
 ·cases h;exact ok143
 ·cases h;exact ok144
 ·cases h;exact ok145
 ·cases h;exact ok146
 ·cases h;exact ok147
 ·cases h;exact ok148
 ·cases h;exact ok149
 ·cases h;exact ok150
 ·cases h;exact ok153
 ·cases h;exact ok154
 ·cases h;exact ok157
 ·cases h;exact ok158
 ·cases h;exact ok159
 ·cases h;exact ok160
 ·cases h;exact ok163
 ·cases h
theorem ok57s:okFun Tryz.prog 57 F57s=true:=by kernel_rfl
theorem ok88s:okFun Tryz.prog 88 F88s=true:=by kernel_rfl
def T1:FuncId->Option AFun
 | 57=>some F57s
 | 88=>some F88s
 | _=>none
theorem T1_ok:∀ f F,T1 f=some F->okFun Tryz.prog f F=true:=by
 intro f F h;unfold T1 at h
 split at h
 ·cases h;exact ok57s
 ·cases h;exact ok88s
 ·cases h
noncomputable abbrev G1:Calls':=Gx (fun _ _ _=>none) T1
theorem G1_good:Good Tryz.prog G1:=Gx_good mix (fun _ _ _ _ _ h=>by cases h) T1_ok
theorem okc103:okCloneV Tryz.prog 103 3 32 [.int .i64 0,.str [],.int .i64 0]=true:=by kernel_rfl
noncomputable def B0:Calls':=fun f args sh=>match f with
 | 57=>(match sh with | []=>none | c :: sh=>G1 57 args (c :: sh))
 | 155=>ibB 155 155 args sh
 | 103=>cloneV 3 32 args sh
 | _=>none
theorem B0_good:Good Tryz.prog B0:=by
 intro f args sh r sh' h;unfold B0 at h
 split at h
 ·split at h
  ·cases h
  ·exact G1_good _ _ _ _ _ h
 ·exact ibB_sound (f0:=155) (fn:=Tryz.f155) Tryz.func155 (by kernel_rfl) (by kernel_rfl) (by kernel_rfl) rfl _ _ _ _ _ h
 ·exact .inl (cloneVB_sound mix okc103 (by decide) h)
 ·cases h
noncomputable abbrev G0:Calls':=Gx B0 T0
theorem G0_good:Good Tryz.prog G0:=Gx_good mix B0_good T0_ok
end Go.Av
