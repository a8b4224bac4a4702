/- The functions' bodies as abstract code, held against the program by the kernel. No conditions. -/
import Derived.Test.YtigalfbihapdnaaGreatDoorProg
import Derived.Test.YtigalfbihapdnaaGreatDoorEv20to24
import Derived.Test.YtigalfbihapdnaaGreatDoorEv25to29
import Derived.KernelRfl
set_option linter.unusedSimpArgs false
set_option linter.unusedVariables false
namespace Go.Av
open Go.Proofs
def op (d:Nat) (k:AK) (a:List AR):AOper:=⟨some d,k,a,.none,none,none⟩
def mv (d s:Nat):AOper:=⟨some d,.mv,[.t s],.none,none,none⟩
abbrev ze8:List AV:=[.sl .no 3 [],.sl .no 3 [],.str [],.str [],.str [],.str [],.int .i64 0,.int .i64 0]
instance seatTabs:Gtab:=⟨fun i=>match i with
 | 1=>some (.u64,[1,10,100,1000,10000,100000,1000000,10000000,100000000,1000000000,10000000000,100000000000,1000000000000,10000000000000,100000000000000,1000000000000000,10000000000000000,100000000000000000,1000000000000000000,10000000000000000000])
 | _=>none⟩
/- bitext/bitextlaw16.MemoryKeys -/
def F4:AFun:=
{nargs:=3,keep:=false,res:=[.tmp 6],body:=
  .seq (.reg false [] [(op 6 .mv [.c (.bool false)])] [6]) <|
  .seq (.seq (.reg false [] [
  (mv 10 0),
  (op 11 (.len false) [.t 10]),
  (op 12 (.bin .gtr) [.t 11,.c (.int .i64 80)]),
  (mv 13 12),
  ⟨(some 14),.mv,[.t 1],.none,none,(some (13,false))⟩,
  ⟨(some 15),(.len false),[.t 14],.none,none,(some (13,false))⟩,
  ⟨(some 16),(.bin .gtr),[.t 15,.c (.int .i64 80)],.none,none,(some (13,false))⟩,
  (op 17 .pick [.t 13,.c (.bool true),.t 16])] [10,11,12,13,14,15,16]) <|
  .cond (.t 17) (.seq (.reg false [] [
  (op 18 (.call 20) []),
  (mv 6 18)] [18]) <|
  .ret)
  (.skip)) <|
  .seq (.reg false [7,8] [
  (mv 19 0),
  (op 20 (.call 21) [.t 19,.c (.int .i64 0)]),
  (mv 21 1),
  (op 22 (.call 21) [.t 21,.c (.int .i64 0)]),
  ⟨(some 7),(.alloc [.sl .full 3 [],.sl .full 3 [],.str [],.str [],.str [],.str [],.int .i64 0,.int .i64 0]),[],(.lo 7),none,none⟩,
  ⟨(some 8),(.alloc [.sl .full 3 [],.sl .full 3 [],.str [],.str [],.str [],.str [],.int .i64 0,.int .i64 0]),[],(.lo 8),none,none⟩,
  ⟨none,(.st 8),[.t 7,.t 20],(.lo 7),none,none⟩,
  ⟨none,(.st 8),[.t 8,.t 22],(.lo 8),none,none⟩] [19,20,21,22,0,1]) <|
  .seq (.seq (.reg false [] [
  (mv 23 2),
  (op 24 (.bin .and) [.t 23,.c (.int .i64 1)]),
  (op 25 (.bin .eql) [.t 24,.c (.int .i64 1)])] [23,24]) <|
  .cond (.t 25) (.seq (.reg false [] [
  (op 26 (.fa 0) [.t 7]),
  ⟨(some 27),(.ld false 1),[.t 26],(.lo 7),none,none⟩,
  (op 28 (.fa 0) [.t 8]),
  ⟨none,(.st 1),[.t 28,.t 27],(.lo 8),none,none⟩] [26,27,28]) <|
  .reg false [] [
  (op 29 (.fa 1) [.t 8]),
  ⟨none,(.st 1),[.t 29,.c (.sl .full 3 [])],(.lo 8),none,none⟩] [29])
  (.skip)) <|
  .seq (.seq (.reg false [] [
  (mv 30 2),
  (op 31 (.bin .and) [.t 30,.c (.int .i64 2)]),
  (op 32 (.bin .eql) [.t 31,.c (.int .i64 2)])] [30,31]) <|
  .cond (.t 32) (.reg false [] [
  (op 33 (.fa 2) [.t 7]),
  ⟨(some 34),(.ld false 1),[.t 33],(.lo 7),none,none⟩,
  (op 35 (.fa 2) [.t 8]),
  ⟨none,(.st 1),[.t 35,.t 34],(.lo 8),none,none⟩] [33,34,35])
  (.skip)) <|
  .seq (.seq (.reg false [] [
  (mv 36 2),
  (op 37 (.bin .and) [.t 36,.c (.int .i64 4)]),
  (op 38 (.bin .eql) [.t 37,.c (.int .i64 4)])] [36,37,2]) <|
  .cond (.t 38) (.reg false [] [
  (op 39 (.fa 3) [.t 7]),
  ⟨(some 40),(.ld false 1),[.t 39],(.lo 7),none,none⟩,
  (op 41 (.fa 3) [.t 8]),
  ⟨none,(.st 1),[.t 41,.t 40],(.lo 8),none,none⟩] [39,40,41])
  (.skip)) <|
  .seq (.reg false [] [
  (op 42 (.fa 0) [.t 7]),
  ⟨(some 43),(.ld false 1),[.t 42],(.lo 7),none,none⟩,
  (op 44 (.fa 0) [.t 8]),
  ⟨(some 45),(.ld false 1),[.t 44],(.lo 8),none,none⟩,
  (op 46 (.call 22) [.t 43,.t 45]),
  (mv 47 46),
  ⟨(some 48),(.fa 2),[.t 7],.none,none,(some (47,true))⟩,
  ⟨(some 49),(.ld false 1),[.t 48],(.lo 7),none,(some (47,true))⟩,
  ⟨(some 50),(.fa 2),[.t 8],.none,none,(some (47,true))⟩,
  ⟨(some 51),(.ld false 1),[.t 50],(.lo 8),none,(some (47,true))⟩,
  ⟨(some 52),(.bin .eql),[.t 49,.t 51],.none,none,(some (47,true))⟩,
  (op 53 .pick [.t 47,.t 52,.c (.bool false)]),
  (mv 54 53),
  ⟨(some 55),(.fa 3),[.t 7],.none,none,(some (54,true))⟩,
  ⟨(some 56),(.ld false 1),[.t 55],(.lo 7),none,(some (54,true))⟩,
  ⟨(some 57),(.fa 3),[.t 8],.none,none,(some (54,true))⟩,
  ⟨(some 58),(.ld false 1),[.t 57],(.lo 8),none,(some (54,true))⟩,
  ⟨(some 59),(.bin .eql),[.t 56,.t 58],.none,none,(some (54,true))⟩,
  (op 60 .pick [.t 54,.t 59,.c (.bool false)]),
  (mv 9 60)] [42,43,44,45,46,47,48,49,50,51,52,53,54,55,56,57,58,59,60]) <|
  .seq (.reg true [] [
  ⟨(some 61),(.ld true 8),[.t 7],(.lo 7),none,none⟩,
  (op 62 (.call 23) [.t 61]),
  (op 63 (.bin .eql) [.t 62,.c (.int .i64 0)]),
  (mv 64 63),
  ⟨(some 65),(.ld true 8),[.t 8],(.lo 8),none,(some (64,true))⟩,
  ⟨(some 66),(.call 23),[.t 65],.none,none,(some (64,true))⟩,
  ⟨(some 67),(.bin .eql),[.t 66,.c (.int .i64 0)],.none,none,(some (64,true))⟩,
  (op 68 .pick [.t 64,.t 67,.c (.bool false)]),
  (mv 69 68),
  ⟨(some 70),(.ld true 8),[.t 7],(.lo 7),none,(some (69,true))⟩,
  ⟨(some 71),(.call 24),[.t 70],.none,none,(some (69,true))⟩,
  ⟨(some 72),(.bin .neq),[.t 71,.c (.str [])],.none,none,(some (69,true))⟩,
  (op 73 .pick [.t 69,.t 72,.c (.bool false)]),
  (mv 74 73),
  ⟨(some 75),(.ld true 8),[.t 7],(.lo 7),none,(some (74,true))⟩,
  ⟨(some 76),(.call 24),[.t 75],.none,none,(some (74,true))⟩,
  ⟨(some 77),(.ld true 8),[.t 8],(.lo 8),none,(some (74,true))⟩,
  ⟨(some 78),(.call 24),[.t 77],.none,none,(some (74,true))⟩,
  ⟨(some 79),(.bin .eql),[.t 76,.t 78],.none,none,(some (74,true))⟩,
  ⟨(some 80),.mv,[.t 9],.none,none,(some (74,true))⟩,
  ⟨(some 81),(.beq false),[.t 79,.t 80],.none,none,(some (74,true))⟩,
  (op 82 .pick [.t 74,.t 81,.c (.bool false)]),
  (mv 83 82),
  ⟨(some 84),(.call 20),[],.none,none,(some (83,true))⟩,
  (op 85 .pick [.t 83,.t 84,.c (.bool false)]),
  (mv 6 85)] [61,62,63,64,65,66,67,68,69,70,71,72,73,74,75,76,77,78,79,80,81,82,83,84,85,7,8,9]) <|
  .ret }

/- bitext/bitextmake.Place -/
def F16:AFun:=
{nargs:=2,keep:=false,res:=[.tmp 4],body:=
  .seq (.reg false [] [(op 4 .mv [.c (.int .i64 0)])] [4]) <|
  .seq (.reg false [] [
  (mv 5 0),
  (mv 6 1),
  (op 7 (.bin .rem) [.t 5,.t 6]),
  (mv 0 7)] [5,6,7]) <|
  .seq (.seq (.reg false [] [
  (mv 8 0),
  (op 9 (.bin .lss) [.t 8,.c (.int .i64 0)])] [8]) <|
  .cond (.t 9) (.reg false [] [
  (mv 10 0),
  (mv 11 1),
  (op 12 (.bin .add) [.t 10,.t 11]),
  (mv 0 12)] [10,11,12,1])
  (.skip)) <|
  .seq (.reg false [] [
  (mv 13 0),
  (mv 4 13)] [13,0]) <|
  .ret }

/- bitext/bitextlaw16.known -/
def F20:AFun:=
{nargs:=0,keep:=false,res:=[.tmp 0],body:=
  .seq (.reg false [] [(op 0 .mv [.c (.bool false)])] [0]) <|
  .seq (.reg false [1] [
  (op 4 (.build [.int .i64 0,.str [],.int .i64 0] [(0,1),(1,1)]) [.c (.int .i64 1),.c (.str [83,97,118,101])]),
  (op 5 (.mks 3 [.int .i64 0,.str [],.int .i64 0] 1 [0]) [.t 4]),
  (op 6 (.build [.int .i64 0,.str [],.int .i64 0] [(0,1),(1,1)]) [.c (.int .i64 1),.c (.str [83,105,99,104,101,114,110])]),
  (op 7 (.mks 3 [.int .i64 0,.str [],.int .i64 0] 1 [0]) [.t 6]),
  (op 8 (.build ze8 [(0,1),(1,1),(3,1),(7,1)]) [.t 5,.t 7,.c (.str [120]),.c (.int .i64 1)]),
  ⟨(some 1),(.alloc [.sl .full 3 [],.sl .full 3 [],.str [],.str [],.str [],.str [],.int .i64 0,.int .i64 0]),[],(.lo 1),none,none⟩,
  ⟨none,(.st 8),[.t 1,.t 8],(.lo 1),none,none⟩] [4,5,6,7,8]) <|
  .seq (.reg false [] [
  ⟨(some 10),(.ld true 8),[.t 1],(.lo 1),none,none⟩,
  (op 11 (.call 27) [.c (.sl .full 8 []),.t 10]),
  (mv 9 11),
  (op 12 (.ext 0) [.t 9]),
  (op 13 (.ext 1) [.t 9]),
  ⟨(some 2),.mvo,[.t 12],.none,(some 12),none⟩,
  (mv 3 13)] [10,11,9,12,13]) <|
  .seq (.reg false [] [
  (mv 14 3),
  (op 15 (.bin .eql) [.t 14,.c (.int .i64 0)]),
  (mv 16 15),
  ⟨(some 17),.mv,[.t 2],.none,none,(some (16,true))⟩,
  ⟨(some 18),(.len false),[.t 17],.none,none,(some (16,true))⟩,
  ⟨(some 19),(.bin .eql),[.t 18,.c (.int .i64 1)],.none,none,(some (16,true))⟩,
  (op 20 .pick [.t 16,.t 19,.c (.bool false)]),
  (mv 21 20),
  ⟨(some 22),(.ld true 8),[.t 1],(.lo 1),none,(some (21,true))⟩,
  ⟨(some 23),(.call 24),[.t 22],.none,none,(some (21,true))⟩,
  ⟨(some 24),(.bin .eql),[.t 23,.c (.str [83,97,118,101,10,10,120])],.none,none,(some (21,true))⟩,
  (op 25 .pick [.t 21,.t 24,.c (.bool false)]),
  (mv 26 25),
  ⟨(some 27),.mv,[.t 2],.none,none,(some (26,true))⟩,
  ⟨(some 28),(.call 35),[.t 27,.c (.str [83,97,118,101,10,10,120])],.none,none,(some (26,true))⟩,
  ⟨(some 29),(.bin .eql),[.t 28,.c (.int .i64 0)],.none,none,(some (26,true))⟩,
  (op 30 .pick [.t 26,.t 29,.c (.bool false)]),
  (mv 31 30),
  ⟨(some 32),.mv,[.t 2],.none,none,(some (31,true))⟩,
  ⟨(some 33),(.call 35),[.t 32,.c (.str [83,97,118,101])],.none,none,(some (31,true))⟩,
  ⟨(some 34),(.bin .eql),[.t 33,.c (.int .i64 (-1))],.none,none,(some (31,true))⟩,
  (op 35 .pick [.t 31,.t 34,.c (.bool false)]),
  (mv 0 35)] [14,15,16,17,18,19,20,21,22,23,24,25,26,27,28,29,30,31,32,33,34,35,3,2,1]) <|
  .ret }

/- bitext/bitextlaw16.entry -/
def F21:AFun:=
{nargs:=2,keep:=false,res:=[.cell 4 true 8],body:=
  .seq (.reg false [4] [⟨(some 4),(.alloc [.sl .full 3 [],.sl .full 3 [],.str [],.str [],.str [],.str [],.int .i64 0,.int .i64 0]),[],(.lo 4),none,none⟩] []) <|
  .seq (.reg false [] [
  (mv 7 0),
  (op 8 (.build [.sl .full 1 [],.int .i64 0] [(0,1)]) [.t 7]),
  ⟨(some 9),(.boxS 2),[.t 8],.sh,none,none⟩,
  (mv 5 9)] [7,8,9,0]) <|
  .seq (.reg false [6] [
  (mv 10 5),
  ⟨(some 11),(.call 55),[.t 10],.sh,none,none⟩,
  ⟨(some 6),(.alloc [.sl .full 3 [],.sl .full 3 [],.str [],.str [],.str [],.str [],.int .i64 0,.int .i64 0]),[],(.lo 6),none,none⟩,
  ⟨none,(.st 8),[.t 6,.t 11],(.lo 6),none,none⟩] [10,11]) <|
  .seq (.seq (.reg false [] [
  (mv 12 1),
  (op 13 (.call 16) [.t 12,.c (.int .i64 16)])] [12,1]) <|
  .block 0 (.seq (.reg false [] [
  (op 15 (.bin .eql) [.t 13,.c (.int .i64 1)]),
  (mv 14 15)] [15]) <|
  .cond (.t 14) (.reg false [] [
  (mv 16 5),
  ⟨(some 17),(.call 57),[.t 16,.c (.int .i64 4)],.sh,none,none⟩,
  (op 18 (.fa 0) [.t 6]),
  ⟨none,(.st 1),[.t 18,.t 17],(.lo 6),none,none⟩] [16,17,18,5])
  (.seq (.reg false [] [
  (op 20 (.bin .eql) [.t 13,.c (.int .i64 3)]),
  (mv 19 20)] [20]) <|
  .cond (.t 19) (.reg false [] [
  (mv 21 5),
  ⟨(some 22),(.call 57),[.t 21,.c (.int .i64 4)],.sh,none,none⟩,
  (op 23 (.fa 1) [.t 6]),
  ⟨none,(.st 1),[.t 23,.t 22],(.lo 6),none,none⟩] [21,22,23,5])
  (.seq (.reg false [] [
  (op 25 (.bin .eql) [.t 13,.c (.int .i64 5)]),
  (mv 24 25)] [25]) <|
  .cond (.t 24) (.reg false [] [
  (op 26 (.fa 2) [.t 6]),
  ⟨none,(.st 1),[.t 26,.c (.str [97,60])],(.lo 6),none,none⟩] [26])
  (.seq (.reg false [] [
  (op 28 (.bin .eql) [.t 13,.c (.int .i64 7)]),
  (mv 27 28)] [28]) <|
  .cond (.t 27) (.reg false [] [
  (op 29 (.fa 3) [.t 6]),
  ⟨none,(.st 1),[.t 29,.c (.str [10])],(.lo 6),none,none⟩] [29])
  (.seq (.reg false [] [
  (op 31 (.bin .eql) [.t 13,.c (.int .i64 9)]),
  (mv 30 31)] [31]) <|
  .cond (.t 30) (.reg false [] [
  (op 32 (.fa 4) [.t 6]),
  ⟨none,(.st 1),[.t 32,.c (.str [65,110,110])],(.lo 6),none,none⟩] [32])
  (.seq (.reg false [] [
  (op 34 (.bin .eql) [.t 13,.c (.int .i64 11)]),
  (mv 33 34)] [34]) <|
  .cond (.t 33) (.reg false [] [
  (op 35 (.fa 6) [.t 6]),
  ⟨none,(.st 1),[.t 35,.c (.int .i64 (-1))],(.lo 6),none,none⟩] [35])
  (.seq (.reg false [] [
  (op 37 (.bin .eql) [.t 13,.c (.int .i64 13)]),
  (mv 36 37)] [37]) <|
  .cond (.t 36) (.reg false [] [
  (op 38 (.fa 7) [.t 6]),
  ⟨none,(.st 1),[.t 38,.c (.int .i64 4)],(.lo 6),none,none⟩] [38])
  (.seq (.reg false [] [
  (op 40 (.bin .eql) [.t 13,.c (.int .i64 15)]),
  (mv 39 40)] [40,13]) <|
  .cond (.t 39) (.reg true [] [
  (op 41 (.fa 1) [.t 6]),
  ⟨(some 42),(.ld false 1),[.t 41],(.lo 6),none,none⟩,
  (mv 43 5),
  ⟨(some 44),(.call 54),[.t 43,.c (.int .i64 3)],.sh,none,none⟩,
  (op 45 (.bin .add) [.c (.int .i64 40),.t 44]),
  (op 46 (.build [.int .i64 0,.str [],.int .i64 0] [(0,1),(1,1),(2,1)]) [.c (.int .i64 4),.c (.str [98,114]),.t 45]),
  (op 47 (.mks 3 [.int .i64 0,.str [],.int .i64 0] 1 [0]) [.t 46]),
  (op 48 (.call 58) [.t 42,.t 47]),
  (op 49 (.fa 1) [.t 6]),
  ⟨none,(.st 1),[.t 49,.t 48],(.lo 6),none,none⟩] [41,42,43,44,45,46,47,48,49,5])
  (.skip)))))))))) <|
  .seq (.reg false [] [
  ⟨(some 50),(.ld true 8),[.t 6],(.lo 6),none,none⟩,
  ⟨none,(.st 8),[.t 4,.t 50],(.lo 4),none,none⟩] [50,6]) <|
  .ret }

/- bitext/bitextref3.Same -/
def L22_0:ACode:=
  .loop [14,15,5,16,17,18,19,20,21,22,23,24,4,25] (.seq (.reg false [] [(op 14 (.bin .lss) [.t 13,.t 12])] []) <|
  .seq (.cond (.t 14) (.skip)
  (.exit 0)) <|
  .seq (.block 1 (.seq (.reg false [] [
  (mv 15 13),
  (mv 5 15)] [15]) <|
  .seq (.reg true [] [
  (mv 16 0),
  (mv 17 5),
  (op 18 (.ia 3) [.t 16,.t 17]),
  (op 19 (.ld true 3) [.t 18]),
  (mv 20 1),
  (mv 21 5),
  (op 22 (.ia 3) [.t 20,.t 21]),
  (op 23 (.ld true 3) [.t 22]),
  (op 24 (.seq true [0,2,0]) [.t 19,.t 23])] [16,17,18,19,20,21,22,23,5]) <|
  .cond (.t 24) (.seq (.reg false [] [(op 4 .mv [.c (.bool false)])] []) <|
  .ret)
  (.skip))) <|
  .reg false [] [
  (op 25 (.bin .add) [.t 13,.c (.int .i64 1)]),
  (mv 13 25)] [25])
def F22:AFun:=
{nargs:=2,keep:=false,res:=[.tmp 4],body:=
  .seq (.reg false [] [(op 4 .mv [.c (.bool false)])] [4]) <|
  .seq (.seq (.reg false [] [
  (mv 6 0),
  (op 7 (.len false) [.t 6]),
  (mv 8 1),
  (op 9 (.len false) [.t 8]),
  (op 10 (.bin .neq) [.t 7,.t 9])] [6,7,8,9]) <|
  .cond (.t 10) (.seq (.reg false [] [(op 4 .mv [.c (.bool false)])] []) <|
  .ret)
  (.skip)) <|
  .seq (.seq (.reg false [] [
  (mv 11 0),
  (op 12 (.len false) [.t 11]),
  (op 13 .mv [.c (.int .i64 0)])] [11]) <|
  .block 0 (L22_0)) <|
  .seq (.reg false [] [(op 4 .mv [.c (.bool true)])] []) <|
  .ret }

/- bitext/memory.Validate -/
def F23:AFun:=
{nargs:=1,keep:=false,res:=[.tmp 2],body:=
  .seq (.reg false [1] [
  ⟨(some 1),(.box 8),[.t 0],(.lo 1),none,none⟩,
  (op 2 .mv [.c (.int .i64 0)])] [2,0]) <|
  .seq (.seq (.reg false [] [
  (op 13 (.fa 0) [.t 1]),
  ⟨(some 14),(.ld false 1),[.t 13],(.lo 1),none,none⟩,
  (op 15 (.call 59) [.t 14]),
  (mv 3 15)] [13,14,15]) <|
  .seq (.reg false [] [
  (mv 16 3),
  (op 17 (.bin .neq) [.t 16,.c (.int .i64 0)])] [16]) <|
  .cond (.t 17) (.seq (.reg false [] [
  (mv 18 3),
  (mv 2 18)] [18,3]) <|
  .ret)
  (.skip)) <|
  .seq (.seq (.reg false [] [
  (op 19 (.fa 1) [.t 1]),
  ⟨(some 20),(.ld false 1),[.t 19],(.lo 1),none,none⟩,
  (op 21 (.call 59) [.t 20]),
  (mv 4 21)] [19,20,21]) <|
  .seq (.reg false [] [
  (mv 22 4),
  (op 23 (.bin .neq) [.t 22,.c (.int .i64 0)])] [22]) <|
  .cond (.t 23) (.seq (.reg false [] [
  (mv 24 4),
  (mv 2 24)] [24,4]) <|
  .ret)
  (.skip)) <|
  .seq (.reg false [] [
  (op 26 (.fa 0) [.t 1]),
  ⟨(some 27),(.ld false 1),[.t 26],(.lo 1),none,none⟩,
  (op 28 (.fa 1) [.t 1]),
  ⟨(some 29),(.ld false 1),[.t 28],(.lo 1),none,none⟩,
  (op 30 (.call 60) [.t 27,.t 29]),
  (mv 25 30),
  (op 31 (.ext 0) [.t 25]),
  (op 32 (.ext 1) [.t 25]),
  ⟨(some 5),.mvo,[.t 31],.none,(some 31),none⟩,
  ⟨(some 6),.mvo,[.t 32],.none,(some 32),none⟩] [26,27,28,29,30,25,31,32]) <|
  .seq (.seq (.reg false [] [
  (op 33 (.fa 0) [.t 1]),
  ⟨(some 34),(.ld false 1),[.t 33],(.lo 1),none,none⟩,
  (op 35 (.len false) [.t 34]),
  (op 36 (.bin .eql) [.t 35,.c (.int .i64 0)]),
  (mv 37 36),
  ⟨(some 38),.mv,[.t 5],.none,none,(some (37,false))⟩,
  ⟨(some 39),(.fa 0),[.t 1],.none,none,(some (37,false))⟩,
  ⟨(some 40),(.ld false 1),[.t 39],(.lo 1),none,(some (37,false))⟩,
  ⟨(some 41),(.call 61),[.t 38,.t 40],.none,none,(some (37,false))⟩,
  ⟨(some 42),(.un .not),[.t 41],.none,none,(some (37,false))⟩,
  (op 43 .pick [.t 37,.c (.bool true),.t 42]),
  (mv 44 43),
  ⟨(some 45),.mv,[.t 6],.none,none,(some (44,false))⟩,
  ⟨(some 46),(.fa 1),[.t 1],.none,none,(some (44,false))⟩,
  ⟨(some 47),(.ld false 1),[.t 46],(.lo 1),none,(some (44,false))⟩,
  ⟨(some 48),(.call 61),[.t 45,.t 47],.none,none,(some (44,false))⟩,
  ⟨(some 49),(.un .not),[.t 48],.none,none,(some (44,false))⟩,
  (op 50 .pick [.t 44,.c (.bool true),.t 49])] [33,34,35,36,37,38,39,40,41,42,43,44,45,46,47,48,49,5,6]) <|
  .cond (.t 50) (.seq (.reg false [] [(op 2 .mv [.c (.int .i64 1)])] []) <|
  .ret)
  (.skip)) <|
  .seq (.seq (.reg false [] [
  (op 52 (.fa 2) [.t 1]),
  ⟨(some 53),(.ld false 1),[.t 52],(.lo 1),none,none⟩,
  (op 54 (.call 62) [.t 53]),
  (mv 51 54),
  (op 55 (.ext 0) [.t 51]),
  (op 56 (.ext 1) [.t 51]),
  (op 57 (.ext 2) [.t 51]),
  ⟨(some 7),.mvo,[.t 55],.none,(some 55),none⟩,
  (mv 8 56),
  (mv 9 57)] [52,53,54,51,55,56,57,7,8]) <|
  .seq (.reg false [] [
  (mv 58 9),
  (op 59 (.bin .neq) [.t 58,.c (.int .i64 0)])] [58]) <|
  .cond (.t 59) (.seq (.reg false [] [
  (mv 60 9),
  (mv 2 60)] [60,9]) <|
  .ret)
  (.skip)) <|
  .seq (.seq (.reg false [] [
  (op 62 (.fa 3) [.t 1]),
  ⟨(some 63),(.ld false 1),[.t 62],(.lo 1),none,none⟩,
  (op 64 (.call 62) [.t 63]),
  (mv 61 64),
  (op 65 (.ext 0) [.t 61]),
  (op 66 (.ext 1) [.t 61]),
  (op 67 (.ext 2) [.t 61]),
  ⟨(some 10),.mvo,[.t 65],.none,(some 65),none⟩,
  (mv 11 66),
  (mv 12 67)] [62,63,64,61,65,66,67,10,11]) <|
  .seq (.reg false [] [
  (mv 68 12),
  (op 69 (.bin .neq) [.t 68,.c (.int .i64 0)])] [68]) <|
  .cond (.t 69) (.seq (.reg false [] [
  (mv 70 12),
  (mv 2 70)] [70,12]) <|
  .ret)
  (.skip)) <|
  .seq (.seq (.reg false [] [
  (op 71 (.fa 4) [.t 1]),
  ⟨(some 72),(.ld false 1),[.t 71],(.lo 1),none,none⟩,
  (op 73 (.bin .neq) [.t 72,.c (.str [])]),
  (mv 74 73),
  ⟨(some 75),(.fa 4),[.t 1],.none,none,(some (74,true))⟩,
  ⟨(some 76),(.ld false 1),[.t 75],(.lo 1),none,(some (74,true))⟩,
  ⟨(some 77),(.call 63),[.t 76],.none,none,(some (74,true))⟩,
  ⟨(some 78),(.un .not),[.t 77],.none,none,(some (74,true))⟩,
  (op 79 .pick [.t 74,.t 78,.c (.bool false)]),
  (mv 80 79),
  ⟨(some 81),(.fa 5),[.t 1],.none,none,(some (80,false))⟩,
  ⟨(some 82),(.ld false 1),[.t 81],(.lo 1),none,(some (80,false))⟩,
  ⟨(some 83),(.bin .neq),[.t 82,.c (.str [])],.none,none,(some (80,false))⟩,
  ⟨(some 84),.mv,[.t 83],.none,none,(some (80,false))⟩,
  ⟨(some 85),(.fa 5),[.t 1],.none,none,(some (84,true))⟩,
  ⟨(some 86),(.ld false 1),[.t 85],(.lo 1),none,(some (84,true))⟩,
  ⟨(some 87),(.call 63),[.t 86],.none,none,(some (84,true))⟩,
  ⟨(some 88),(.un .not),[.t 87],.none,none,(some (84,true))⟩,
  ⟨(some 89),.pick,[.t 84,.t 88,.c (.bool false)],.none,none,(some (80,false))⟩,
  (op 90 .pick [.t 80,.c (.bool true),.t 89])] [71,72,73,74,75,76,77,78,79,80,81,82,83,84,85,86,87,88,89]) <|
  .cond (.t 90) (.seq (.reg false [] [(op 2 .mv [.c (.int .i64 4)])] []) <|
  .ret)
  (.skip)) <|
  .seq (.seq (.reg false [] [
  (op 91 (.fa 6) [.t 1]),
  ⟨(some 92),(.ld false 1),[.t 91],(.lo 1),none,none⟩,
  (op 93 (.bin .lss) [.t 92,.c (.int .i64 0)]),
  (mv 94 93),
  ⟨(some 95),(.fa 6),[.t 1],.none,none,(some (94,false))⟩,
  ⟨(some 96),(.ld false 1),[.t 95],(.lo 1),none,(some (94,false))⟩,
  ⟨(some 97),(.bin .gtr),[.t 96,.c (.int .i64 1073741824)],.none,none,(some (94,false))⟩,
  (op 98 .pick [.t 94,.c (.bool true),.t 97]),
  (mv 99 98),
  ⟨(some 100),(.fa 7),[.t 1],.none,none,(some (99,false))⟩,
  ⟨(some 101),(.ld false 1),[.t 100],(.lo 1),none,(some (99,false))⟩,
  ⟨(some 102),(.bin .lss),[.t 101,.c (.int .i64 1)],.none,none,(some (99,false))⟩,
  (op 103 .pick [.t 99,.c (.bool true),.t 102]),
  (mv 104 103),
  ⟨(some 105),(.fa 7),[.t 1],.none,none,(some (104,false))⟩,
  ⟨(some 106),(.ld false 1),[.t 105],(.lo 1),none,(some (104,false))⟩,
  ⟨(some 107),(.bin .gtr),[.t 106,.c (.int .i64 3)],.none,none,(some (104,false))⟩,
  (op 108 .pick [.t 104,.c (.bool true),.t 107])] [91,92,93,94,95,96,97,98,99,100,101,102,103,104,105,106,107,1]) <|
  .cond (.t 108) (.seq (.reg false [] [(op 2 .mv [.c (.int .i64 1)])] []) <|
  .ret)
  (.skip)) <|
  .seq (.reg false [] [(op 2 .mv [.c (.int .i64 0)])] []) <|
  .ret }

/- bitext/memory.Key -/
def F24:AFun:=
{nargs:=1,keep:=false,res:=[.tmp 2],body:=
  .seq (.reg false [1] [
  ⟨(some 1),(.box 8),[.t 0],(.lo 1),none,none⟩,
  (op 2 .mv [.c (.str [])])] [2,0]) <|
  .seq (.seq (.reg false [] [
  ⟨(some 3),(.ld true 8),[.t 1],(.lo 1),none,none⟩,
  (op 4 (.call 23) [.t 3]),
  (op 5 (.bin .neq) [.t 4,.c (.int .i64 0)])] [3,4]) <|
  .cond (.t 5) (.seq (.reg false [] [(op 2 .mv [.c (.str [])])] []) <|
  .ret)
  (.skip)) <|
  .seq (.reg false [] [
  ⟨(some 6),(.ld true 8),[.t 1],(.lo 1),none,none⟩,
  (op 7 (.call 64) [.t 6]),
  (mv 2 7)] [6,7,1]) <|
  .ret }

/- bitext/memory.Put -/
def F27:AFun:=
{nargs:=2,keep:=false,res:=[.tmp 4,.tmp 5],body:=
  .seq (.reg false [3] [
  ⟨(some 3),(.box 8),[.t 1],(.lo 3),none,none⟩,
  (op 4 .mv [.c (.sl .full 8 [])]),
  (op 5 .mv [.c (.int .i64 0)])] [4,5,1]) <|
  .seq (.reg false [] [
  (mv 13 0),
  (op 14 (.call 66) [.t 13]),
  (mv 12 14),
  (op 15 (.ext 0) [.t 12]),
  (op 16 (.ext 1) [.t 12]),
  ⟨(some 6),.mvo,[.t 15],.none,(some 15),none⟩,
  (mv 7 16)] [13,14,12,15,16]) <|
  .seq (.seq (.reg false [] [
  (mv 17 7),
  (op 18 (.un .not) [.t 17])] [17,7]) <|
  .cond (.t 18) (.seq (.reg false [] [
  (op 4 .mv [.c (.sl .full 8 [])]),
  (op 5 .mv [.c (.int .i64 1)])] []) <|
  .ret)
  (.skip)) <|
  .seq (.seq (.reg false [] [
  ⟨(some 19),(.ld true 8),[.t 3],(.lo 3),none,none⟩,
  (op 20 (.call 23) [.t 19]),
  (mv 8 20)] [19,20]) <|
  .seq (.reg false [] [
  (mv 21 8),
  (op 22 (.bin .neq) [.t 21,.c (.int .i64 0)])] [21]) <|
  .cond (.t 22) (.seq (.reg false [] [
  (mv 23 8),
  (op 4 .mv [.c (.sl .full 8 [])]),
  (mv 5 23)] [23,8]) <|
  .ret)
  (.skip)) <|
  .seq (.reg false [] [
  (mv 25 6),
  ⟨(some 26),(.ld true 8),[.t 3],(.lo 3),none,none⟩,
  (op 27 (.call 64) [.t 26]),
  (op 28 (.call 67) [.t 25,.t 27]),
  (mv 24 28),
  (op 29 (.ext 0) [.t 24]),
  (op 30 (.ext 1) [.t 24]),
  (mv 9 29),
  (mv 10 30)] [25,26,27,28,24,29,30,6]) <|
  .seq (.seq (.reg false [] [
  (mv 31 10),
  (op 32 (.un .not) [.t 31]),
  (mv 33 32),
  ⟨(some 34),.mv,[.t 0],.none,none,(some (33,true))⟩,
  ⟨(some 35),(.len false),[.t 34],.none,none,(some (33,true))⟩,
  ⟨(some 36),(.bin .geq),[.t 35,.c (.int .i64 1024)],.none,none,(some (33,true))⟩,
  (op 37 .pick [.t 33,.t 36,.c (.bool false)])] [31,32,33,34,35,36]) <|
  .cond (.t 37) (.seq (.reg false [] [
  (op 4 .mv [.c (.sl .full 8 [])]),
  (op 5 .mv [.c (.int .i64 3)])] []) <|
  .ret)
  (.skip)) <|
  .seq (.reg false [] [
  (mv 38 0),
  ⟨(some 39),(.call 68),[.t 38],.sh,none,none⟩,
  ⟨(some 11),.mvo,[.t 39],.none,(some 39),none⟩] [38,39,0]) <|
  .seq (.seq (.reg false [] [(mv 40 10)] [10]) <|
  .cond (.t 40) (.seq (.reg false [] [
  (mv 41 11),
  (mv 42 9),
  ⟨(some 43),(.ld true 8),[.t 3],(.lo 3),none,none⟩,
  (op 44 (.call 69) [.t 43]),
  (op 45 (.ia 8) [.t 41,.t 42]),
  ⟨none,(.st 8),[.t 45,.t 44],.sh,none,none⟩] [41,42,43,44,45,9,3]) <|
  .seq (.reg false [] [
  (mv 46 11),
  ⟨(some 4),.mvo,[.t 46],.none,(some 46),none⟩,
  (op 5 .mv [.c (.int .i64 0)])] [46,11]) <|
  .ret)
  (.skip)) <|
  .seq (.reg false [] [
  (mv 47 11),
  (mv 48 9),
  ⟨(some 49),(.ld true 8),[.t 3],(.lo 3),none,none⟩,
  (op 50 (.call 69) [.t 49]),
  (op 51 (.mks 8 [.sl .full 3 [],.sl .full 3 [],.str [],.str [],.str [],.str [],.int .i64 0,.int .i64 0] 1 [0]) [.t 50]),
  ⟨(some 52),(.call 70),[.t 47,.t 48,.t 51],.sh,none,none⟩,
  ⟨(some 4),.mvo,[.t 52],.none,(some 52),none⟩,
  (op 5 .mv [.c (.int .i64 0)])] [47,48,49,50,51,52,11,9,3]) <|
  .ret }

/- bitext/memory.Find -/
def F35:AFun:=
{nargs:=2,keep:=false,res:=[.tmp 4],body:=
  .seq (.reg false [] [(op 4 .mv [.c (.int .i64 0)])] [4]) <|
  .seq (.reg false [] [
  (mv 9 0),
  (op 10 (.call 66) [.t 9]),
  (mv 8 10),
  (op 11 (.ext 0) [.t 8]),
  (op 12 (.ext 1) [.t 8]),
  ⟨(some 5),.mvo,[.t 11],.none,(some 11),none⟩,
  (mv 6 12)] [9,10,8,11,12,0]) <|
  .seq (.reg false [] [
  (mv 13 5),
  (mv 14 1),
  (op 15 (.call 74) [.t 13,.t 14]),
  (mv 7 15)] [13,14,15]) <|
  .seq (.seq (.reg false [] [
  (mv 16 6),
  (op 17 (.un .not) [.t 16]),
  (mv 18 17),
  ⟨(some 19),.mv,[.t 7],.none,none,(some (18,false))⟩,
  ⟨(some 20),.mv,[.t 5],.none,none,(some (18,false))⟩,
  ⟨(some 21),(.len false),[.t 20],.none,none,(some (18,false))⟩,
  ⟨(some 22),(.bin .eql),[.t 19,.t 21],.none,none,(some (18,false))⟩,
  (op 23 .pick [.t 18,.c (.bool true),.t 22]),
  (mv 24 23),
  ⟨(some 25),.mv,[.t 5],.none,none,(some (24,false))⟩,
  ⟨(some 26),.mv,[.t 7],.none,none,(some (24,false))⟩,
  ⟨(some 27),(.ia 1),[.t 25,.t 26],.none,none,(some (24,false))⟩,
  ⟨(some 28),(.ld false 1),[.t 27],.none,none,(some (24,false))⟩,
  ⟨(some 29),.mv,[.t 1],.none,none,(some (24,false))⟩,
  ⟨(some 30),(.bin .neq),[.t 28,.t 29],.none,none,(some (24,false))⟩,
  (op 31 .pick [.t 24,.c (.bool true),.t 30])] [16,17,18,19,20,21,22,23,24,25,26,27,28,29,30,6,5,1]) <|
  .cond (.t 31) (.seq (.reg false [] [(op 4 .mv [.c (.int .i64 (-1))])] []) <|
  .ret)
  (.skip)) <|
  .seq (.reg false [] [
  (mv 32 7),
  (mv 4 32)] [32,7]) <|
  .ret }

/- (*bitext/bitextmake.Numbers).Next -/
def F54:AFun:=
{nargs:=2,keep:=false,res:=[.tmp 4],body:=
  .seq (.reg false [] [(op 4 .mv [.c (.int .i64 0)])] [4]) <|
  .seq (.reg false [] [(op 5 .mv [.c (.int .i64 0)])] []) <|
  .seq (.seq (.reg true [] [
  (mv 6 0),
  (op 7 .nilc [.t 6]),
  (op 8 (.fa 1) [.t 7]),
  ⟨(some 9),(.ld false 1),[.t 8],.sh,none,none⟩,
  (mv 10 0),
  (op 11 .nilc [.t 10]),
  (op 12 (.fa 0) [.t 11]),
  ⟨(some 13),(.ld false 1),[.t 12],.sh,none,none⟩,
  (op 14 (.len false) [.t 13]),
  (op 15 (.bin .lss) [.t 9,.t 14])] [6,7,8,9,10,11,12,13,14]) <|
  .cond (.t 15) (.reg true [] [
  (mv 16 0),
  (op 17 .nilc [.t 16]),
  (op 18 (.fa 0) [.t 17]),
  ⟨(some 19),(.ld false 1),[.t 18],.sh,none,none⟩,
  (mv 20 0),
  (op 21 .nilc [.t 20]),
  (op 22 (.fa 1) [.t 21]),
  ⟨(some 23),(.ld false 1),[.t 22],.sh,none,none⟩,
  (op 24 (.ia 1) [.t 19,.t 23]),
  (op 25 (.ld false 1) [.t 24]),
  (mv 5 25)] [16,17,18,19,20,21,22,23,24,25])
  (.skip)) <|
  .seq (.reg false [] [
  (mv 26 0),
  (op 27 .nilc [.t 26]),
  (op 28 (.fa 1) [.t 27]),
  ⟨(some 29),(.ld false 1),[.t 28],.sh,none,none⟩,
  (op 30 (.bin .add) [.t 29,.c (.int .i64 1)]),
  (op 31 .nilc [.t 26]),
  (op 32 (.fa 1) [.t 31]),
  ⟨none,(.st 1),[.t 32,.t 30],.sh,none,none⟩] [26,27,28,29,30,31,32,0]) <|
  .seq (.reg false [] [
  (mv 33 5),
  (mv 34 1),
  (op 35 (.call 16) [.t 33,.t 34]),
  (mv 4 35)] [33,34,35,5,1]) <|
  .ret }

/- bitext/bitextmake.Entry -/
def F55:AFun:=
{nargs:=1,keep:=false,res:=[.cell 2 true 8],body:=
  .seq (.reg false [2] [⟨(some 2),(.alloc [.sl .full 3 [],.sl .full 3 [],.str [],.str [],.str [],.str [],.int .i64 0,.int .i64 0]),[],(.lo 2),none,none⟩] []) <|
  .seq (.reg false [] [
  (mv 7 0),
  ⟨(some 8),(.call 97),[.t 7,.c (.int .i64 4),.c (.bool true),.c (.bool true)],.sh,none,none⟩,
  ⟨(some 3),.mvo,[.t 8],.none,(some 8),none⟩] [7,8]) <|
  .seq (.seq (.reg false [] [
  (mv 9 3),
  (op 10 (.len false) [.t 9]),
  (op 11 (.bin .eql) [.t 10,.c (.int .i64 0)])] [9,10]) <|
  .cond (.t 11) (.reg false [] [
  (op 12 (.mks 1 [.str []] 3 [0,1,2]) [.c (.str [83,97,118,101]),.c (.str [114,101,100,32,99,97,114]),.c (.str [82,101,100,32,99,97,114,115])]),
  (mv 13 0),
  ⟨(some 14),(.call 54),[.t 13,.c (.int .i64 3)],.sh,none,none⟩,
  (op 15 (.ia 1) [.t 12,.t 14]),
  (op 16 (.ld false 1) [.t 15]),
  (op 17 (.build [.int .i64 0,.str [],.int .i64 0] [(0,1),(1,1)]) [.c (.int .i64 1),.t 16]),
  (op 18 (.mks 3 [.int .i64 0,.str [],.int .i64 0] 1 [0]) [.t 17]),
  ⟨(some 3),.mvo,[.t 18],.none,(some 18),none⟩] [12,13,14,15,16,17,18])
  (.skip)) <|
  .seq (.reg false [] [
  (mv 19 0),
  (mv 20 3),
  ⟨(some 21),(.call 98),[.t 19,.t 20],.sh,none,none⟩,
  ⟨(some 4),.mvo,[.t 21],.none,(some 21),none⟩] [19,20,21]) <|
  .seq (.reg false [] [
  (mv 23 3),
  (mv 24 4),
  (op 25 (.call 76) [.t 23,.t 24]),
  (mv 22 25),
  (op 26 (.ext 0) [.t 22]),
  (op 27 (.ext 1) [.t 22]),
  ⟨(some 5),.mvo,[.t 26],.none,(some 26),none⟩,
  ⟨(some 6),.mvo,[.t 27],.none,(some 27),none⟩] [23,24,25,22,26,27,3,4]) <|
  .seq (.reg true [] [
  (mv 28 5),
  (mv 29 6),
  (op 30 (.mks 1 [.str []] 4 [0,1,2,3]) [.c (.str []),.c (.str []),.c (.str [83,97,118,101]),.c (.str [114,101,100,32,99,97,114])]),
  (mv 31 0),
  ⟨(some 32),(.call 54),[.t 31,.c (.int .i64 4)],.sh,none,none⟩,
  (op 33 (.ia 1) [.t 30,.t 32]),
  (op 34 (.ld false 1) [.t 33]),
  (op 35 (.mks 1 [.str []] 4 [0,1,2,3]) [.c (.str []),.c (.str []),.c (.str [120]),.c (.str [83,97,118,101])]),
  (mv 36 0),
  ⟨(some 37),(.call 54),[.t 36,.c (.int .i64 4)],.sh,none,none⟩,
  (op 38 (.ia 1) [.t 35,.t 37]),
  (op 39 (.ld false 1) [.t 38]),
  (op 40 (.mks 1 [.str []] 3 [0,1,2]) [.c (.str []),.c (.str [97,110,110]),.c (.str [98,111,98])]),
  (mv 41 0),
  ⟨(some 42),(.call 54),[.t 41,.c (.int .i64 3)],.sh,none,none⟩,
  (op 43 (.ia 1) [.t 40,.t 42]),
  (op 44 (.ld false 1) [.t 43]),
  (op 45 (.mks 1 [.str []] 3 [0,1,2]) [.c (.str []),.c (.str [112]),.c (.str [113])]),
  (mv 46 0),
  ⟨(some 47),(.call 54),[.t 46,.c (.int .i64 3)],.sh,none,none⟩,
  (op 48 (.ia 1) [.t 45,.t 47]),
  (op 49 (.ld false 1) [.t 48]),
  (mv 50 0),
  ⟨(some 51),(.call 54),[.t 50,.c (.int .i64 50)],.sh,none,none⟩,
  (mv 52 0),
  ⟨(some 53),(.call 54),[.t 52,.c (.int .i64 3)],.sh,none,none⟩,
  (op 54 (.bin .add) [.c (.int .i64 1),.t 53]),
  (op 55 (.build ze8 [(0,1),(1,1),(2,1),(3,1),(4,1),(5,1),(6,1),(7,1)]) [.t 28,.t 29,.t 34,.t 39,.t 44,.t 49,.t 51,.t 54]),
  ⟨none,(.st 8),[.t 2,.t 55],(.lo 2),none,none⟩] [28,29,30,31,32,33,34,35,36,37,38,39,40,41,42,43,44,45,46,47,48,49,50,51,52,53,54,55,5,6,0]) <|
  .ret }

/- bitext/bitextref3.Concat -/
def F58:AFun:=
{nargs:=2,keep:=false,res:=[.tmp 4],body:=
  .seq (.reg false [] [(op 4 .mv [.c (.sl .full 3 [])])] [4]) <|
  .seq (.reg false [] [
  (mv 5 0),
  (op 6 (.app false 3 32) [.c (.sl .full 3 []),.t 5]),
  (mv 7 1),
  ⟨(some 8),(.app false 3 32),[.t 6,.t 7],.none,(some 6),none⟩,
  (op 9 (.call 99) [.t 8]),
  ⟨(some 4),.mvo,[.t 9],.none,(some 9),none⟩] [5,6,7,8,9,0,1]) <|
  .ret }

/- bitext/item.Validate -/
def L59_0:ACode:=
  .loop [16,17,18,19,4,3,20,21,22,23,2,24,25,26,27,28,29,30,31,32,33,34] (.seq (.reg false [] [(op 16 (.bin .lss) [.t 15,.t 14])] []) <|
  .seq (.cond (.t 16) (.skip)
  (.exit 0)) <|
  .seq (.block 1 (.seq (.reg false [4] [
  (mv 17 15),
  (op 18 (.ia 3) [.t 13,.t 15]),
  (op 19 (.ld true 3) [.t 18]),
  ⟨(some 4),(.alloc [.int .i64 0,.str [],.int .i64 0]),[],(.lo 4),none,none⟩,
  (mv 3 17),
  ⟨none,(.st 3),[.t 4,.t 19],(.lo 4),none,none⟩] [17,18,19]) <|
  .seq (.seq (.reg false [] [
  (mv 20 0),
  (mv 21 3),
  (op 22 (.call 101) [.t 20,.t 21]),
  (op 23 (.un .not) [.t 22])] [20,21,22]) <|
  .cond (.t 23) (.seq (.reg false [] [(op 2 .mv [.c (.int .i64 1)])] []) <|
  .ret)
  (.skip)) <|
  .seq (.reg true [] [
  ⟨(some 24),(.ld true 3),[.t 4],(.lo 4),none,none⟩,
  (op 25 (.call 102) [.t 24]),
  (mv 26 25),
  ⟨(some 27),.mv,[.t 0],.none,none,(some (26,true))⟩,
  ⟨(some 28),.mv,[.t 3],.none,none,(some (26,true))⟩,
  ⟨(some 29),(.slc false 3 false true),[.t 27,.t 28],.none,none,(some (26,true))⟩,
  ⟨(some 30),(.ld true 3),[.t 4],(.lo 4),none,(some (26,true))⟩,
  ⟨(some 31),(.call 103),[.t 29,.t 30],.none,none,(some (26,true))⟩,
  ⟨(some 32),(.un .not),[.t 31],.none,none,(some (26,true))⟩,
  (op 33 .pick [.t 26,.t 32,.c (.bool false)])] [24,25,26,27,28,29,30,31,32,4,3]) <|
  .cond (.t 33) (.seq (.reg false [] [(op 2 .mv [.c (.int .i64 7)])] []) <|
  .ret)
  (.skip))) <|
  .reg false [] [
  (op 34 (.bin .add) [.t 15,.c (.int .i64 1)]),
  (mv 15 34)] [34])
def F59:AFun:=
{nargs:=1,keep:=false,res:=[.tmp 2],body:=
  .seq (.reg false [] [(op 2 .mv [.c (.int .i64 0)])] [2]) <|
  .seq (.seq (.reg false [] [
  (mv 5 0),
  (op 6 (.len false) [.t 5]),
  (op 7 (.bin .gtr) [.t 6,.c (.int .i64 512)]),
  (mv 8 7),
  ⟨(some 9),.mv,[.t 0],.none,none,(some (8,false))⟩,
  ⟨(some 10),(.call 100),[.t 9],.none,none,(some (8,false))⟩,
  ⟨(some 11),(.bin .gtr),[.t 10,.c (.int .i64 1024)],.none,none,(some (8,false))⟩,
  (op 12 .pick [.t 8,.c (.bool true),.t 11])] [5,6,7,8,9,10,11]) <|
  .cond (.t 12) (.seq (.reg false [] [(op 2 .mv [.c (.int .i64 3)])] []) <|
  .ret)
  (.skip)) <|
  .seq (.seq (.reg false [] [
  (mv 13 0),
  (op 14 (.len false) [.t 13]),
  (op 15 .mv [.c (.int .i64 0)])] []) <|
  .block 0 (L59_0)) <|
  .seq (.reg false [] [(op 2 .mv [.c (.int .i64 0)])] []) <|
  .ret }

/- bitext/item.Canonical -/
def L60_0:ACode:=
  .loop [15,16,17,8,18,19,20,21,22,23,24,25,26] (.seq (.reg false [] [(op 15 (.bin .lss) [.t 14,.t 13])] []) <|
  .seq (.cond (.t 15) (.skip)
  (.exit 0)) <|
  .seq (.block 1 (.seq (.reg false [] [
  (op 16 (.ia 1) [.t 12,.t 14]),
  (op 17 (.ld false 1) [.t 16]),
  (mv 8 17)] [16,17]) <|
  .seq (.reg false [] [
  (mv 18 6),
  (mv 19 8),
  (op 20 (.call 105) [.t 18,.t 19]),
  (op 21 (.un .not) [.t 20])] [18,19,20]) <|
  .cond (.t 21) (.reg false [] [
  ⟨(some 22),.mvo,[.t 6],.none,(some 6),none⟩,
  (mv 23 8),
  (op 24 (.mks 1 [.int .i64 0] 1 [0]) [.t 23]),
  ⟨(some 25),(.app false 1 8),[.t 22,.t 24],.none,(some 22),none⟩,
  ⟨(some 6),.mvo,[.t 25],.none,(some 25),none⟩] [22,23,24,25,8])
  (.skip))) <|
  .reg false [] [
  (op 26 (.bin .add) [.t 14,.c (.int .i64 1)]),
  (mv 14 26)] [26])
def F60:AFun:=
{nargs:=2,keep:=false,res:=[.tmp 4,.tmp 5],body:=
  .seq (.reg false [] [
  (op 4 .mv [.c (.sl .full 3 [])]),
  (op 5 .mv [.c (.sl .full 3 [])])] [4,5]) <|
  .seq (.reg false [] [
  (mv 9 0),
  (op 10 (.call 104) [.t 9]),
  ⟨(some 6),.mvo,[.t 10],.none,(some 10),none⟩] [9,10]) <|
  .seq (.seq (.reg false [] [
  (mv 11 1),
  (op 12 (.call 104) [.t 11]),
  (op 13 (.len false) [.t 12]),
  (op 14 .mv [.c (.int .i64 0)])] [11]) <|
  .block 0 (L60_0)) <|
  .seq (.reg false [] [
  (mv 27 0),
  (mv 28 6),
  (mv 29 6),
  (op 30 (.len false) [.t 29]),
  (op 31 (.call 107) [.t 30]),
  (op 32 (.call 106) [.t 27,.t 28,.t 31]),
  (mv 33 1),
  (mv 34 6),
  (mv 35 6),
  (op 36 (.len false) [.t 35]),
  (op 37 (.call 107) [.t 36]),
  (op 38 (.call 106) [.t 33,.t 34,.t 37]),
  ⟨(some 4),.mvo,[.t 32],.none,(some 32),none⟩,
  ⟨(some 5),.mvo,[.t 38],.none,(some 38),none⟩] [27,28,29,30,31,32,33,34,35,36,37,38,0,6,1]) <|
  .ret }

/- bitext/item.Same -/
def F61:AFun:=
{nargs:=2,keep:=false,res:=[.tmp 4],body:=
  .seq (.reg false [] [(op 4 .mv [.c (.bool false)])] [4]) <|
  .seq (.reg false [] [
  (mv 5 0),
  (mv 6 1),
  (op 7 (.call 108) [.t 5,.t 6]),
  (mv 4 7)] [5,6,7,0,1]) <|
  .ret }

/- bitext/notation.Parse -/
def L62_0:ACode:=
  .loop [12,13,14,15,17,18,19,20,16,21,22,23,6,7,8,24,25,26,2,4,27,28,9,29,30,31,32,33,34,35] (.seq (.seq (.reg false [] [
  (mv 12 3),
  (mv 13 0),
  (op 14 (.len true) [.t 13]),
  (op 15 (.bin .lss) [.t 12,.t 14])] [12,13,14]) <|
  .cond (.t 15) (.skip)
  (.exit 0)) <|
  .block 1 (.seq (.reg false [6] [
  (mv 17 0),
  (mv 18 3),
  (op 19 (.slc true 0 true false) [.t 17,.t 18]),
  (op 20 (.call 109) [.t 19]),
  (mv 16 20),
  (op 21 (.ext 0) [.t 16]),
  (op 22 (.ext 1) [.t 16]),
  (op 23 (.ext 2) [.t 16]),
  ⟨(some 6),(.alloc [.int .i64 0,.str [],.int .i64 0]),[],(.lo 6),none,none⟩,
  ⟨none,(.st 3),[.t 6,.t 21],(.lo 6),none,none⟩,
  (mv 7 22),
  (mv 8 23)] [17,18,19,20,16,21,22,23]) <|
  .seq (.seq (.reg false [] [
  (mv 24 8),
  (op 25 (.un .not) [.t 24])] [24,8]) <|
  .cond (.t 25) (.seq (.reg false [] [
  (mv 26 3),
  (op 2 .mv [.c (.sl .full 3 [])]),
  (mv 3 26),
  (op 4 .mv [.c (.int .i64 2)])] [26]) <|
  .ret)
  (.skip)) <|
  .seq (.seq (.reg false [] [
  ⟨(some 27),(.ld true 3),[.t 6],(.lo 6),none,none⟩,
  ⟨(some 28),(.call 110),[.t 5,.t 27],.sh,none,none⟩,
  (mv 9 28)] [27,28,6]) <|
  .seq (.reg false [] [
  (mv 29 9),
  (op 30 (.bin .neq) [.t 29,.c (.int .i64 0)])] [29]) <|
  .cond (.t 30) (.seq (.reg false [] [
  (mv 31 3),
  (mv 32 9),
  (op 2 .mv [.c (.sl .full 3 [])]),
  (mv 3 31),
  (mv 4 32)] [31,32,9]) <|
  .ret)
  (.skip)) <|
  .reg false [] [
  (mv 33 3),
  (mv 34 7),
  (op 35 (.bin .add) [.t 33,.t 34]),
  (mv 3 35)] [33,34,35,7]))
def F62:AFun:=
{nargs:=1,keep:=false,res:=[.tmp 2,.tmp 3,.tmp 4],body:=
  .seq (.reg false [] [
  (op 2 .mv [.c (.sl .full 3 [])]),
  (op 3 .mv [.c (.int .i64 0)]),
  (op 4 .mv [.c (.int .i64 0)])] [2,4]) <|
  .seq (.reg false [] [
  ⟨(some 10),.mkm,[],.sh,none,none⟩,
  (op 11 (.buildR [.sl .full 3 [],.sl .full 1 [],.int .i64 0,.any] [(3,1)]) [.t 10]),
  ⟨(some 5),(.allocS [.sl .full 3 [],.sl .full 1 [],.int .i64 0,.any]),[],.sh,none,none⟩,
  ⟨none,(.st 4),[.t 5,.t 11],.sh,none,none⟩] [10,11]) <|
  .seq (.block 0 (L62_0)) <|
  .seq (.reg false [] [⟨(some 36),(.call 111),[.t 5],.sh,none,none⟩] [36]) <|
  .seq (.reg false [] [
  (op 37 (.fa 0) [.t 5]),
  ⟨(some 38),(.ld false 1),[.t 37],.sh,none,none⟩,
  ⟨(some 2),.mvo,[.t 38],.none,(some 38),none⟩,
  (op 3 .mv [.c (.int .i64 0)]),
  (op 4 .mv [.c (.int .i64 0)])] [37,38,5]) <|
  .ret }

/- bitext/class.IsName -/
def L63_0:ACode:=
  .loop [23,24,25,26,29,30,31,4,32,33,34,35,36,37,38,39,40,41,42,43,44,45,46,47,48,49,50,2,27,28] (.seq (.seq (.reg false [] [
  (mv 23 3),
  (mv 24 0),
  (op 25 (.len true) [.t 24]),
  (op 26 (.bin .lss) [.t 23,.t 25])] [23,24,25]) <|
  .cond (.t 26) (.skip)
  (.exit 0)) <|
  .seq (.block 1 (.seq (.reg false [] [
  (mv 29 0),
  (mv 30 3),
  (op 31 .ixs [.t 29,.t 30]),
  (mv 4 31)] [29,30,31]) <|
  .seq (.reg false [] [
  (mv 32 4),
  (op 33 (.bin .geq) [.t 32,.c (.int .u8 97)]),
  (mv 34 33),
  ⟨(some 35),.mv,[.t 4],.none,none,(some (34,true))⟩,
  ⟨(some 36),(.bin .leq),[.t 35,.c (.int .u8 122)],.none,none,(some (34,true))⟩,
  (op 37 .pick [.t 34,.t 36,.c (.bool false)]),
  (mv 38 37),
  ⟨(some 39),.mv,[.t 4],.none,none,(some (38,false))⟩,
  ⟨(some 40),(.bin .geq),[.t 39,.c (.int .u8 48)],.none,none,(some (38,false))⟩,
  ⟨(some 41),.mv,[.t 40],.none,none,(some (38,false))⟩,
  ⟨(some 42),.mv,[.t 4],.none,none,(some (41,true))⟩,
  ⟨(some 43),(.bin .leq),[.t 42,.c (.int .u8 57)],.none,none,(some (41,true))⟩,
  ⟨(some 44),.pick,[.t 41,.t 43,.c (.bool false)],.none,none,(some (38,false))⟩,
  (op 45 .pick [.t 38,.c (.bool true),.t 44]),
  (mv 46 45),
  ⟨(some 47),.mv,[.t 4],.none,none,(some (46,false))⟩,
  ⟨(some 48),(.bin .eql),[.t 47,.c (.int .u8 45)],.none,none,(some (46,false))⟩,
  (op 49 .pick [.t 46,.c (.bool true),.t 48]),
  (op 50 (.un .not) [.t 49])] [32,33,34,35,36,37,38,39,40,41,42,43,44,45,46,47,48,49,4]) <|
  .cond (.t 50) (.seq (.reg false [] [(op 2 .mv [.c (.bool false)])] []) <|
  .ret)
  (.skip))) <|
  .reg false [] [
  (mv 27 3),
  (op 28 (.bin .add) [.t 27,.c (.int .i64 1)]),
  (mv 3 28)] [27,28])
def F63:AFun:=
{nargs:=1,keep:=false,res:=[.tmp 2],body:=
  .seq (.reg false [] [(op 2 .mv [.c (.bool false)])] [2]) <|
  .seq (.seq (.reg false [] [
  (mv 5 0),
  (op 6 (.len true) [.t 5]),
  (op 7 (.bin .lss) [.t 6,.c (.int .i64 1)]),
  (mv 8 7),
  ⟨(some 9),.mv,[.t 0],.none,none,(some (8,false))⟩,
  ⟨(some 10),(.len true),[.t 9],.none,none,(some (8,false))⟩,
  ⟨(some 11),(.bin .gtr),[.t 10,.c (.int .i64 24)],.none,none,(some (8,false))⟩,
  (op 12 .pick [.t 8,.c (.bool true),.t 11]),
  (mv 13 12),
  ⟨(some 14),.mv,[.t 0],.none,none,(some (13,false))⟩,
  ⟨(some 15),.ixs,[.t 14,.c (.int .i64 0)],.none,none,(some (13,false))⟩,
  ⟨(some 16),(.bin .lss),[.t 15,.c (.int .u8 97)],.none,none,(some (13,false))⟩,
  (op 17 .pick [.t 13,.c (.bool true),.t 16]),
  (mv 18 17),
  ⟨(some 19),.mv,[.t 0],.none,none,(some (18,false))⟩,
  ⟨(some 20),.ixs,[.t 19,.c (.int .i64 0)],.none,none,(some (18,false))⟩,
  ⟨(some 21),(.bin .gtr),[.t 20,.c (.int .u8 122)],.none,none,(some (18,false))⟩,
  (op 22 .pick [.t 18,.c (.bool true),.t 21])] [5,6,7,8,9,10,11,12,13,14,15,16,17,18,19,20,21]) <|
  .cond (.t 22) (.seq (.reg false [] [(op 2 .mv [.c (.bool false)])] []) <|
  .ret)
  (.skip)) <|
  .seq (.seq (.reg false [] [(op 3 .mv [.c (.int .i64 1)])] []) <|
  .block 0 (L63_0)) <|
  .seq (.reg false [] [(op 2 .mv [.c (.bool true)])] []) <|
  .ret }

/- bitext/memory.join -/
def F64:AFun:=
{nargs:=1,keep:=false,res:=[.tmp 2],body:=
  .seq (.reg false [1] [
  ⟨(some 1),(.box 8),[.t 0],(.lo 1),none,none⟩,
  (op 2 .mv [.c (.str [])])] [2,0]) <|
  .seq (.reg false [] [
  (op 6 (.fa 0) [.t 1]),
  ⟨(some 7),(.ld false 1),[.t 6],(.lo 1),none,none⟩,
  (op 8 (.call 79) [.t 7]),
  (mv 5 8),
  (op 9 (.ext 0) [.t 5]),
  (op 10 (.ext 1) [.t 5]),
  (mv 3 9),
  (mv 4 10)] [6,7,8,5,9,10,4]) <|
  .seq (.reg false [] [
  (mv 11 3),
  (op 12 (.bin .add) [.t 11,.c (.str [10])]),
  (op 13 (.fa 2) [.t 1]),
  ⟨(some 14),(.ld false 1),[.t 13],(.lo 1),none,none⟩,
  (op 15 (.bin .add) [.t 12,.t 14]),
  (op 16 (.bin .add) [.t 15,.c (.str [10])]),
  (op 17 (.fa 3) [.t 1]),
  ⟨(some 18),(.ld false 1),[.t 17],(.lo 1),none,none⟩,
  (op 19 (.bin .add) [.t 16,.t 18]),
  (mv 2 19)] [11,12,13,14,15,16,17,18,19,3,1]) <|
  .ret }

/- bitext/memory.keys -/
def L66_0:ACode:=
  .loop [13,14,15,16,6,5,17,18,19,2,3,20,21,22,23,24,25,26,27,28,29,30,31,32,33,34,35,36,37,38,39] (.seq (.reg false [] [(op 13 (.bin .lss) [.t 12,.t 11])] []) <|
  .seq (.cond (.t 13) (.skip)
  (.exit 0)) <|
  .seq (.block 1 (.seq (.reg false [6] [
  (mv 14 12),
  (op 15 (.ia 8) [.t 10,.t 12]),
  (op 16 (.ld true 8) [.t 15]),
  ⟨(some 6),(.alloc [.sl .full 3 [],.sl .full 3 [],.str [],.str [],.str [],.str [],.int .i64 0,.int .i64 0]),[],(.lo 6),none,none⟩,
  (mv 5 14),
  ⟨none,(.st 8),[.t 6,.t 16],(.lo 6),none,none⟩] [14,15,16]) <|
  .seq (.seq (.reg false [] [
  ⟨(some 17),(.ld true 8),[.t 6],(.lo 6),none,none⟩,
  (op 18 (.call 23) [.t 17]),
  (op 19 (.bin .neq) [.t 18,.c (.int .i64 0)])] [17,18]) <|
  .cond (.t 19) (.seq (.reg false [] [
  (op 2 .mv [.c (.sl .full 1 [])]),
  (op 3 .mv [.c (.bool false)])] []) <|
  .ret)
  (.skip)) <|
  .seq (.reg false [] [
  ⟨(some 20),.mvo,[.t 4],.none,(some 4),none⟩,
  ⟨(some 21),(.ld true 8),[.t 6],(.lo 6),none,none⟩,
  (op 22 (.call 64) [.t 21]),
  (op 23 (.mks 1 [.str []] 1 [0]) [.t 22]),
  ⟨(some 24),(.app false 1 16),[.t 20,.t 23],.none,(some 20),none⟩,
  ⟨(some 4),.mvo,[.t 24],.none,(some 24),none⟩] [20,21,22,23,24,6]) <|
  .seq (.reg true [] [
  (mv 25 5),
  (op 26 (.bin .gtr) [.t 25,.c (.int .i64 0)]),
  (mv 27 26),
  ⟨(some 28),.mv,[.t 4],.none,none,(some (27,true))⟩,
  ⟨(some 29),.mv,[.t 5],.none,none,(some (27,true))⟩,
  ⟨(some 30),(.bin .sub),[.t 29,.c (.int .i64 1)],.none,none,(some (27,true))⟩,
  ⟨(some 31),(.ia 1),[.t 28,.t 30],.none,none,(some (27,true))⟩,
  ⟨(some 32),(.ld false 1),[.t 31],.none,none,(some (27,true))⟩,
  ⟨(some 33),.mv,[.t 4],.none,none,(some (27,true))⟩,
  ⟨(some 34),.mv,[.t 5],.none,none,(some (27,true))⟩,
  ⟨(some 35),(.ia 1),[.t 33,.t 34],.none,none,(some (27,true))⟩,
  ⟨(some 36),(.ld false 1),[.t 35],.none,none,(some (27,true))⟩,
  ⟨(some 37),(.bin .geq),[.t 32,.t 36],.none,none,(some (27,true))⟩,
  (op 38 .pick [.t 27,.t 37,.c (.bool false)])] [25,26,27,28,29,30,31,32,33,34,35,36,37,5]) <|
  .cond (.t 38) (.seq (.reg false [] [
  (op 2 .mv [.c (.sl .full 1 [])]),
  (op 3 .mv [.c (.bool false)])] []) <|
  .ret)
  (.skip))) <|
  .reg false [] [
  (op 39 (.bin .add) [.t 12,.c (.int .i64 1)]),
  (mv 12 39)] [39])
def F66:AFun:=
{nargs:=1,keep:=false,res:=[.tmp 2,.tmp 3],body:=
  .seq (.reg false [] [
  (op 2 .mv [.c (.sl .full 1 [])]),
  (op 3 .mv [.c (.bool false)])] [2,3]) <|
  .seq (.seq (.reg false [] [
  (mv 7 0),
  (op 8 (.len false) [.t 7]),
  (op 9 (.bin .gtr) [.t 8,.c (.int .i64 1024)])] [7,8]) <|
  .cond (.t 9) (.seq (.reg false [] [
  (op 2 .mv [.c (.sl .full 1 [])]),
  (op 3 .mv [.c (.bool false)])] []) <|
  .ret)
  (.skip)) <|
  .seq (.reg false [] [(op 4 .mv [.c (.sl .full 1 [])])] []) <|
  .seq (.seq (.reg false [] [
  (mv 10 0),
  (op 11 (.len false) [.t 10]),
  (op 12 .mv [.c (.int .i64 0)])] [0]) <|
  .block 0 (L66_0)) <|
  .seq (.reg false [] [
  (mv 40 4),
  ⟨(some 2),.mvo,[.t 40],.none,(some 40),none⟩,
  (op 3 .mv [.c (.bool true)])] [40,4]) <|
  .ret }

/- slices.BinarySearch[[]string,string] -/
def L67_0:ACode:=
  .loop [13,14,15,16,17,18,19,20,21,9,22,23,24,25,26,27,28,29,30] (.seq (.seq (.reg false [] [
  (mv 13 7),
  (mv 14 8),
  (op 15 (.bin .lss) [.t 13,.t 14])] [13,14]) <|
  .cond (.t 15) (.skip)
  (.exit 0)) <|
  .block 1 (.seq (.reg false [] [
  (mv 16 7),
  (mv 17 8),
  (op 18 (.bin .add) [.t 16,.t 17]),
  (op 19 (.cvi .u64) [.t 18]),
  (op 20 (.shf false) [.t 19,.c (.int .u64 1)]),
  (op 21 (.cvi .i64) [.t 20]),
  (mv 9 21)] [16,17,18,19,20,21]) <|
  .seq (.reg false [] [
  (mv 22 0),
  (mv 23 9),
  (op 24 (.ia 1) [.t 22,.t 23]),
  (op 25 (.ld false 1) [.t 24]),
  (mv 26 1),
  (op 27 (.call 113) [.t 25,.t 26])] [22,23,24,25,26]) <|
  .cond (.t 27) (.reg false [] [
  (mv 28 9),
  (op 29 (.bin .add) [.t 28,.c (.int .i64 1)]),
  (mv 7 29)] [28,29,9])
  (.reg false [] [
  (mv 30 9),
  (mv 8 30)] [30,9])))
def F67:AFun:=
{nargs:=2,keep:=false,res:=[.tmp 4,.tmp 5],body:=
  .seq (.reg false [] [
  (op 4 .mv [.c (.int .i64 0)]),
  (op 5 .mv [.c (.bool false)])] [4,5]) <|
  .seq (.reg false [] [
  (mv 10 0),
  (op 11 (.len false) [.t 10]),
  (mv 6 11)] [10,11]) <|
  .seq (.reg false [] [
  (mv 12 6),
  (op 7 .mv [.c (.int .i64 0)]),
  (mv 8 12)] [12]) <|
  .seq (.block 0 (L67_0)) <|
  .seq (.reg false [] [
  (mv 31 7),
  (mv 32 7),
  (mv 33 6),
  (op 34 (.bin .lss) [.t 32,.t 33]),
  (mv 35 34),
  ⟨(some 36),.mv,[.t 0],.none,none,(some (35,true))⟩,
  ⟨(some 37),.mv,[.t 7],.none,none,(some (35,true))⟩,
  ⟨(some 38),(.ia 1),[.t 36,.t 37],.none,none,(some (35,true))⟩,
  ⟨(some 39),(.ld false 1),[.t 38],.none,none,(some (35,true))⟩,
  ⟨(some 40),.mv,[.t 1],.none,none,(some (35,true))⟩,
  ⟨(some 41),(.bin .eql),[.t 39,.t 40],.none,none,(some (35,true))⟩,
  ⟨(some 42),.mv,[.t 41],.none,none,(some (35,true))⟩,
  ⟨(some 43),.mv,[.t 0],.none,none,(some (42,false))⟩,
  ⟨(some 44),.mv,[.t 7],.none,none,(some (42,false))⟩,
  ⟨(some 45),(.ia 1),[.t 43,.t 44],.none,none,(some (42,false))⟩,
  ⟨(some 46),(.ld false 1),[.t 45],.none,none,(some (42,false))⟩,
  ⟨(some 47),(.call 114),[.t 46],.none,none,(some (42,false))⟩,
  ⟨(some 48),.mv,[.t 47],.none,none,(some (42,false))⟩,
  ⟨(some 49),.mv,[.t 1],.none,none,(some (48,true))⟩,
  ⟨(some 50),(.call 114),[.t 49],.none,none,(some (48,true))⟩,
  ⟨(some 51),.pick,[.t 48,.t 50,.c (.bool false)],.none,none,(some (42,false))⟩,
  ⟨(some 52),.pick,[.t 42,.c (.bool true),.t 51],.none,none,(some (35,true))⟩,
  (op 53 .pick [.t 35,.t 52,.c (.bool false)]),
  (mv 4 31),
  (mv 5 53)] [31,32,33,34,35,36,37,38,39,40,41,42,43,44,45,46,47,48,49,50,51,52,53,7,6,0,1]) <|
  .ret }

/- bitext/memory.copied -/
def L68_0:ACode:=
  .loop [13,14,15,5,16,17,18,19,20,21] (.seq (.reg false [] [(op 13 (.bin .lss) [.t 12,.t 11])] []) <|
  .seq (.cond (.t 13) (.skip)
  (.exit 0)) <|
  .seq (.block 1 (.seq (.reg false [5] [
  (op 14 (.ia 8) [.t 10,.t 12]),
  (op 15 (.ld true 8) [.t 14]),
  ⟨(some 5),(.alloc [.sl .full 3 [],.sl .full 3 [],.str [],.str [],.str [],.str [],.int .i64 0,.int .i64 0]),[],(.lo 5),none,none⟩,
  ⟨none,(.st 8),[.t 5,.t 15],(.lo 5),none,none⟩] [14,15]) <|
  .reg false [] [
  ⟨(some 16),.mvo,[.t 3],.none,(some 3),none⟩,
  ⟨(some 17),(.ld true 8),[.t 5],(.lo 5),none,none⟩,
  (op 18 (.call 69) [.t 17]),
  (op 19 (.mks 8 [.sl .full 3 [],.sl .full 3 [],.str [],.str [],.str [],.str [],.int .i64 0,.int .i64 0] 1 [0]) [.t 18]),
  ⟨(some 20),(.appS false 8 128),[.t 16,.t 19],.sh,none,none⟩,
  ⟨(some 3),.mvo,[.t 20],.none,(some 20),none⟩] [16,17,18,19,20,5])) <|
  .reg false [] [
  (op 21 (.bin .add) [.t 12,.c (.int .i64 1)]),
  (mv 12 21)] [21])
def F68:AFun:=
{nargs:=1,keep:=true,res:=[.tmpD 2],body:=
  .seq (.reg false [] [(op 2 .mv [.c (.sl .full 8 [])])] [2]) <|
  .seq (.reg false [] [
  (mv 6 0),
  (op 7 (.len false) [.t 6]),
  (op 8 (.bin .add) [.t 7,.c (.int .i64 1)]),
  ⟨(some 9),(.mkl 8 [.sl .full 3 [],.sl .full 3 [],.str [],.str [],.str [],.str [],.int .i64 0,.int .i64 0] 128),[.c (.int .i64 0),.t 8],.sh,none,none⟩,
  ⟨(some 3),.mvo,[.t 9],.none,(some 9),none⟩] [6,7,8,9]) <|
  .seq (.seq (.reg false [] [
  (mv 10 0),
  (op 11 (.len false) [.t 10]),
  (op 12 .mv [.c (.int .i64 0)])] [0]) <|
  .block 0 (L68_0)) <|
  .seq (.reg false [] [
  (mv 22 3),
  ⟨(some 2),.mvo,[.t 22],.none,(some 22),none⟩] [22,3]) <|
  .ret }

/- bitext/memory.clone -/
def F69:AFun:=
{nargs:=1,keep:=false,res:=[.cell 2 true 8],body:=
  .seq (.reg false [1,2] [
  ⟨(some 1),(.box 8),[.t 0],(.lo 1),none,none⟩,
  ⟨(some 2),(.alloc [.sl .full 3 [],.sl .full 3 [],.str [],.str [],.str [],.str [],.int .i64 0,.int .i64 0]),[],(.lo 2),none,none⟩] [0]) <|
  .seq (.reg true [] [
  (op 3 (.fa 0) [.t 1]),
  ⟨(some 4),(.ld false 1),[.t 3],(.lo 1),none,none⟩,
  (op 5 (.call 85) [.t 4]),
  (op 6 (.fa 1) [.t 1]),
  ⟨(some 7),(.ld false 1),[.t 6],(.lo 1),none,none⟩,
  (op 8 (.call 85) [.t 7]),
  (op 9 (.fa 0) [.t 1]),
  ⟨none,(.st 1),[.t 9,.t 5],(.lo 1),none,none⟩,
  (op 10 (.fa 1) [.t 1]),
  ⟨none,(.st 1),[.t 10,.t 8],(.lo 1),none,none⟩] [3,4,5,6,7,8,9,10]) <|
  .seq (.reg false [] [
  ⟨(some 11),(.ld true 8),[.t 1],(.lo 1),none,none⟩,
  ⟨none,(.st 8),[.t 2,.t 11],(.lo 2),none,none⟩] [11,1]) <|
  .ret }

/- slices.Insert[[]bitext/api.Entry,bitext/api.Entry] -/
def F70:AFun:=
{nargs:=3,keep:=true,res:=[.tmpD 6],body:=
  .seq (.reg false [] [(op 6 .mv [.c (.sl .full 8 [])])] [6]) <|
  .seq (.reg false [] [
  (mv 10 0),
  (mv 11 1),
  (op 12 (.slc false 8 true false) [.t 10,.t 11])] [10,11,12]) <|
  .seq (.reg false [] [
  (mv 13 2),
  (op 14 (.len false) [.t 13]),
  (mv 7 14)] [13,14]) <|
  .seq (.seq (.reg false [] [
  (mv 15 7),
  (op 16 (.bin .eql) [.t 15,.c (.int .i64 0)])] [15]) <|
  .cond (.t 16) (.seq (.reg false [] [
  (mv 17 0),
  ⟨(some 6),.mvo,[.t 17],.none,(some 17),none⟩] [17,0]) <|
  .ret)
  (.skip)) <|
  .seq (.reg false [] [
  (mv 18 0),
  (op 19 (.len false) [.t 18]),
  (mv 8 19)] [18,19]) <|
  .seq (.seq (.reg false [] [
  (mv 20 1),
  (mv 21 8),
  (op 22 (.bin .eql) [.t 20,.t 21])] [20,21]) <|
  .cond (.t 22) (.seq (.reg false [] [
  ⟨(some 23),.mvo,[.t 0],.none,(some 0),none⟩,
  (mv 24 2),
  ⟨(some 25),(.appS false 8 128),[.t 23,.t 24],.sh,none,none⟩,
  ⟨(some 6),.mvo,[.t 25],.none,(some 25),none⟩] [23,24,25,0,2]) <|
  .ret)
  (.skip)) <|
  .seq (.seq (.reg false [] [⟨none,.mv,[],.none,none,none⟩] []) <|
  .cond (.t 31) (.seq (.reg false [] [⟨none,.mv,[],.none,none,none⟩] []) <|
  .seq (.reg false [] [
  (mv 41 9),
  (mv 42 1),
  (op 43 (.slc false 8 true false) [.t 41,.t 42]),
  (mv 44 2),
  ⟨(some 45),(.cpy 8),[.t 43,.t 44],.sh,none,none⟩] [41,42,43,44,45,2]) <|
  .seq (.reg true [] [
  (mv 46 9),
  (mv 47 1),
  (mv 48 7),
  (op 49 (.bin .add) [.t 47,.t 48]),
  (op 50 (.slc false 8 true false) [.t 46,.t 49]),
  (mv 51 0),
  (mv 52 1),
  (op 53 (.slc false 8 true false) [.t 51,.t 52]),
  ⟨(some 54),(.cpy 8),[.t 50,.t 53],.sh,none,none⟩] [46,47,48,49,50,51,52,53,54,1,7,0]) <|
  .seq (.reg false [] [
  (mv 55 9),
  ⟨(some 6),.mvo,[.t 55],.none,(some 55),none⟩] [55,9]) <|
  .ret)
  (.skip)) <|
  .seq (.reg false [] [
  (mv 56 0),
  (mv 57 8),
  (mv 58 7),
  (op 59 (.bin .add) [.t 57,.t 58]),
  (op 60 (.slc false 8 false true) [.t 56,.t 59]),
  ⟨(some 0),.mvo,[.t 60],.none,(some 60),none⟩] [56,57,58,59,60]) <|
  .seq (.seq (.reg false [] [
  (mv 61 2),
  (mv 62 0),
  (mv 63 1),
  (mv 64 7),
  (op 65 (.bin .add) [.t 63,.t 64]),
  (op 66 (.slc false 8 true false) [.t 62,.t 65]),
  ⟨(some 67),(.callR 115),[.t 61,.t 66],.sh,none,none⟩,
  (op 68 (.un .not) [.t 67])] [61,62,63,64,65,66,67]) <|
  .cond (.t 68) (.seq (.reg true [] [
  (mv 69 0),
  (mv 70 1),
  (mv 71 7),
  (op 72 (.bin .add) [.t 70,.t 71]),
  (op 73 (.slc false 8 true false) [.t 69,.t 72]),
  (mv 74 0),
  (mv 75 1),
  (op 76 (.slc false 8 true false) [.t 74,.t 75]),
  ⟨(some 77),(.cpy 8),[.t 73,.t 76],.sh,none,none⟩] [69,70,71,72,73,74,75,76,77,7]) <|
  .seq (.reg false [] [
  (mv 78 0),
  (mv 79 1),
  (op 80 (.slc false 8 true false) [.t 78,.t 79]),
  (mv 81 2),
  ⟨(some 82),(.cpy 8),[.t 80,.t 81],.sh,none,none⟩] [78,79,80,81,82,1,2]) <|
  .seq (.reg false [] [
  (mv 83 0),
  ⟨(some 6),.mvo,[.t 83],.none,(some 83),none⟩] [83,0]) <|
  .ret)
  (.skip)) <|
  .seq (.reg false [] [
  (mv 84 0),
  (mv 85 8),
  (op 86 (.slc false 8 true false) [.t 84,.t 85]),
  (mv 87 2),
  ⟨(some 88),(.cpy 8),[.t 86,.t 87],.sh,none,none⟩] [84,85,86,87,88,8,2]) <|
  .seq (.reg false [] [
  (mv 89 0),
  (mv 90 1),
  (op 91 (.slc false 8 true false) [.t 89,.t 90]),
  (mv 92 7),
  ⟨(some 93),(.callR 116),[.t 91,.t 92],.sh,none,none⟩] [89,90,91,92,93,1,7]) <|
  .seq (.reg false [] [
  (mv 94 0),
  ⟨(some 6),.mvo,[.t 94],.none,(some 94),none⟩] [94,0]) <|
  .ret }

/- sort.SearchStrings -/
def F74:AFun:=
{nargs:=2,keep:=false,res:=[.tmp 4],body:=
  .seq (.reg false [] [
  ⟨(some 2),(.boxS 1),[.t 0],.sh,none,none⟩,
  ⟨(some 3),(.boxS 1),[.t 1],.sh,none,none⟩,
  (op 4 .mv [.c (.int .i64 0)])] [4,0,1]) <|
  .seq (.reg false [] [
  ⟨(some 5),(.ld false 1),[.t 2],.sh,none,none⟩,
  (op 6 (.len false) [.t 5]),
  (op 7 (.mkf 118) [.t 2,.t 3]),
  ⟨(some 8),(.call 117),[.t 6,.t 7],.sh,none,none⟩,
  (mv 4 8)] [5,6,7,8,2,3]) <|
  .ret }

/- bitext/bitextref3.Canonical -/
def F76:AFun:=
{nargs:=2,keep:=false,res:=[.tmp 4,.tmp 5],body:=
  .seq (.reg false [] [
  (op 4 .mv [.c (.sl .full 3 [])]),
  (op 5 .mv [.c (.sl .full 3 [])])] [4,5]) <|
  .seq (.reg false [] [
  (mv 8 0),
  (op 9 (.app false 3 32) [.c (.sl .full 3 []),.t 8]),
  (mv 10 1),
  ⟨(some 11),(.app false 3 32),[.t 9,.t 10],.none,(some 9),none⟩,
  (op 12 (.call 121) [.t 11]),
  ⟨(some 6),.mvo,[.t 12],.none,(some 12),none⟩] [8,9,10,11,12]) <|
  .seq (.reg false [] [
  (mv 13 6),
  (op 14 (.len false) [.t 13]),
  (op 15 (.call 122) [.t 14]),
  ⟨(some 7),.mvo,[.t 15],.none,(some 15),none⟩] [13,14,15]) <|
  .seq (.reg false [] [
  (mv 16 0),
  (mv 17 6),
  (mv 18 7),
  (op 19 (.call 123) [.t 16,.t 17,.t 18]),
  (mv 20 1),
  (mv 21 6),
  (mv 22 7),
  (op 23 (.call 123) [.t 20,.t 21,.t 22]),
  ⟨(some 4),.mvo,[.t 19],.none,(some 19),none⟩,
  ⟨(some 5),.mvo,[.t 23],.none,(some 23),none⟩] [16,17,18,19,20,21,22,23,0,6,7,1]) <|
  .ret }

/- bitext/notation.Format -/
def L79_0:ACode:=
  .loop [17,18,19,7,20,21,22,8,23,24,26,25,27,28,29,30,32,31,33,34,35,36,37,38,39,40,41,43,42,44,45,46,47,48,49,50,51,52,54,53,55,56,57,58,59,60,61,62,63,65,64,66,67,68,69,70,71,72] (.seq (.reg false [] [(op 17 (.bin .lss) [.t 16,.t 15])] []) <|
  .seq (.cond (.t 17) (.skip)
  (.exit 0)) <|
  .seq (.block 1 (.seq (.reg false [7] [
  (op 18 (.ia 3) [.t 14,.t 16]),
  (op 19 (.ld true 3) [.t 18]),
  ⟨(some 7),(.alloc [.int .i64 0,.str [],.int .i64 0]),[],(.lo 7),none,none⟩,
  ⟨none,(.st 3),[.t 7,.t 19],(.lo 7),none,none⟩] [18,19]) <|
  .seq (.reg false [] [
  (op 20 (.fa 2) [.t 7]),
  ⟨(some 21),(.ld false 1),[.t 20],(.lo 7),none,none⟩,
  (op 22 (.call 126) [.t 21]),
  (mv 8 22)] [20,21,22]) <|
  .seq (.reg false [] [
  (op 23 (.fa 0) [.t 7]),
  ⟨(some 24),(.ld false 1),[.t 23],(.lo 7),none,none⟩] [23]) <|
  .block 2 (.seq (.reg false [] [
  (op 26 (.bin .eql) [.t 24,.c (.int .i64 1)]),
  (mv 25 26)] [26]) <|
  .cond (.t 25) (.reg false [] [
  (mv 27 5),
  (op 28 (.fa 1) [.t 7]),
  ⟨(some 29),(.ld false 1),[.t 28],(.lo 7),none,none⟩,
  ⟨(some 30),(.call 127),[.t 27,.t 29],.sh,none,none⟩,
  ⟨(some 5),.mvo,[.t 30],.none,(some 30),none⟩] [27,28,29,30,7])
  (.seq (.reg false [] [
  (op 32 (.bin .eql) [.t 24,.c (.int .i64 2)]),
  (mv 31 32)] [32]) <|
  .cond (.t 31) (.reg false [] [
  ⟨(some 33),.mvo,[.t 5],.none,(some 5),none⟩,
  (mv 34 8),
  (op 35 (.bin .add) [.c (.str [60]),.t 34]),
  (op 36 (.bin .add) [.t 35,.c (.str [58])]),
  (op 37 (.fa 1) [.t 7]),
  ⟨(some 38),(.ld false 1),[.t 37],(.lo 7),none,none⟩,
  (op 39 (.bin .add) [.t 36,.t 38]),
  (op 40 (.bin .add) [.t 39,.c (.str [62])]),
  ⟨(some 41),(.appS true 1 1),[.t 33,.t 40],.sh,none,none⟩,
  ⟨(some 5),.mvo,[.t 41],.none,(some 41),none⟩] [33,34,35,36,37,38,39,40,41,8,7])
  (.seq (.reg false [] [
  (op 43 (.bin .eql) [.t 24,.c (.int .i64 3)]),
  (mv 42 43)] [43]) <|
  .cond (.t 42) (.reg false [] [
  ⟨(some 44),.mvo,[.t 5],.none,(some 5),none⟩,
  (mv 45 8),
  (op 46 (.bin .add) [.c (.str [60,47]),.t 45]),
  (op 47 (.bin .add) [.t 46,.c (.str [58])]),
  (op 48 (.fa 1) [.t 7]),
  ⟨(some 49),(.ld false 1),[.t 48],(.lo 7),none,none⟩,
  (op 50 (.bin .add) [.t 47,.t 49]),
  (op 51 (.bin .add) [.t 50,.c (.str [62])]),
  ⟨(some 52),(.appS true 1 1),[.t 44,.t 51],.sh,none,none⟩,
  ⟨(some 5),.mvo,[.t 52],.none,(some 52),none⟩] [44,45,46,47,48,49,50,51,52,8,7])
  (.seq (.reg false [] [
  (op 54 (.bin .eql) [.t 24,.c (.int .i64 4)]),
  (mv 53 54)] [54]) <|
  .cond (.t 53) (.reg false [] [
  ⟨(some 55),.mvo,[.t 5],.none,(some 5),none⟩,
  (mv 56 8),
  (op 57 (.bin .add) [.c (.str [60]),.t 56]),
  (op 58 (.bin .add) [.t 57,.c (.str [58])]),
  (op 59 (.fa 1) [.t 7]),
  ⟨(some 60),(.ld false 1),[.t 59],(.lo 7),none,none⟩,
  (op 61 (.bin .add) [.t 58,.t 60]),
  (op 62 (.bin .add) [.t 61,.c (.str [47,62])]),
  ⟨(some 63),(.appS true 1 1),[.t 55,.t 62],.sh,none,none⟩,
  ⟨(some 5),.mvo,[.t 63],.none,(some 63),none⟩] [55,56,57,58,59,60,61,62,63,8,7])
  (.seq (.reg false [] [
  (op 65 (.bin .eql) [.t 24,.c (.int .i64 5)]),
  (mv 64 65)] [65,24]) <|
  .cond (.t 64) (.reg false [] [
  ⟨(some 66),.mvo,[.t 5],.none,(some 5),none⟩,
  (op 67 (.fa 1) [.t 7]),
  ⟨(some 68),(.ld false 1),[.t 67],(.lo 7),none,none⟩,
  (op 69 (.bin .add) [.c (.str [123]),.t 68]),
  (op 70 (.bin .add) [.t 69,.c (.str [125])]),
  ⟨(some 71),(.appS true 1 1),[.t 66,.t 70],.sh,none,none⟩,
  ⟨(some 5),.mvo,[.t 71],.none,(some 71),none⟩] [66,67,68,69,70,71,7])
  (.skip)))))))) <|
  .reg false [] [
  (op 72 (.bin .add) [.t 16,.c (.int .i64 1)]),
  (mv 16 72)] [72])
def F79:AFun:=
{nargs:=1,keep:=false,res:=[.tmp 2,.tmp 3],body:=
  .seq (.reg false [] [
  (op 2 .mv [.c (.str [])]),
  (op 3 .mv [.c (.int .i64 0)])] [2,3]) <|
  .seq (.seq (.reg false [] [
  (mv 9 0),
  (op 10 (.call 59) [.t 9]),
  (mv 4 10)] [9,10]) <|
  .seq (.reg false [] [
  (mv 11 4),
  (op 12 (.bin .neq) [.t 11,.c (.int .i64 0)])] [11]) <|
  .cond (.t 12) (.seq (.reg false [] [
  (mv 13 4),
  (op 2 .mv [.c (.str [])]),
  (mv 3 13)] [13,4]) <|
  .ret)
  (.skip)) <|
  .seq (.reg false [] [(op 5 .mv [.c (.sl .full 1 [])])] []) <|
  .seq (.seq (.reg false [] [
  (mv 14 0),
  (op 15 (.len false) [.t 14]),
  (op 16 .mv [.c (.int .i64 0)])] [0]) <|
  .block 0 (L79_0)) <|
  .seq (.reg false [] [
  (mv 73 5),
  ⟨(some 74),.b2s,[.t 73],.sh,none,none⟩,
  (mv 2 74),
  (op 3 .mv [.c (.int .i64 0)])] [73,74,5]) <|
  .ret }

/- bitext/bitextmake.Line -/
def L89_0:ACode:=
  .loop [12,13,16,17,7,18,19,20,21,22,23,24,25,26,27,28,29,14,15] (.seq (.seq (.reg false [] [
  (mv 12 6),
  (op 13 (.bin .gtr) [.t 12,.c (.int .i64 0)])] [12]) <|
  .cond (.t 13) (.skip)
  (.exit 0)) <|
  .seq (.block 1 (.seq (.reg false [] [
  (mv 16 0),
  ⟨(some 17),(.call 134),[.t 16],.sh,none,none⟩,
  (mv 7 17)] [16,17]) <|
  .seq (.seq (.reg false [] [
  (mv 18 5),
  (op 19 (.bin .neq) [.t 18,.c (.str [])]),
  (mv 20 19),
  ⟨(some 21),.mv,[.t 0],.none,none,(some (20,true))⟩,
  ⟨(some 22),(.call 54),[.t 21,.c (.int .i64 3)],.sh,none,(some (20,true))⟩,
  ⟨(some 23),(.bin .gtr),[.t 22,.c (.int .i64 0)],.none,none,(some (20,true))⟩,
  (op 24 .pick [.t 20,.t 23,.c (.bool false)])] [18,19,20,21,22,23]) <|
  .cond (.t 24) (.reg false [] [
  (mv 25 5),
  (op 26 (.bin .add) [.t 25,.c (.str [32])]),
  (mv 5 26)] [25,26])
  (.skip)) <|
  .reg false [] [
  (mv 27 5),
  (mv 28 7),
  (op 29 (.bin .add) [.t 27,.t 28]),
  (mv 5 29)] [27,28,29,7])) <|
  .reg false [] [
  (mv 14 6),
  (op 15 (.bin .sub) [.t 14,.c (.int .i64 1)]),
  (mv 6 15)] [14,15])
def F89:AFun:=
{nargs:=2,keep:=false,res:=[.tmp 4],body:=
  .seq (.reg false [] [(op 4 .mv [.c (.str [])])] [4]) <|
  .seq (.reg false [] [(op 5 .mv [.c (.str [])])] []) <|
  .seq (.seq (.reg false [] [
  (mv 8 0),
  (mv 9 1),
  (op 10 (.bin .add) [.t 9,.c (.int .i64 1)]),
  ⟨(some 11),(.call 54),[.t 8,.t 10],.sh,none,none⟩,
  (mv 6 11)] [8,9,10,11,1]) <|
  .block 0 (L89_0)) <|
  .seq (.reg false [] [
  (mv 30 5),
  (mv 4 30)] [30,5]) <|
  .ret }

/- bitext/bitextmake.Fragment -/
def L97_0:ACode:=
  .loop [20,21,24,25,26,13,27,28,30,29,31,32,33,34,35,36,37,39,38,40,41,42,43,44,45,46,47,48,49,51,50,52,53,54,55,56,57,58,59,60,61,62,63,64,65,66,68,67,69,70,71,72,14,73,74,75,76,77,78,79,80,81,82,83,84,85,86,87,88,89,90,91,92,93,94,95,96,97,98,99,100,101,102,103,104,105,106,107,108,109,110,111,112,113,114,22,23] (.seq (.seq (.reg false [] [
  (mv 20 12),
  (op 21 (.bin .gtr) [.t 20,.c (.int .i64 0)])] [20]) <|
  .cond (.t 21) (.skip)
  (.exit 0)) <|
  .seq (.block 1 (.seq (.reg false [13] [
  (mv 24 0),
  ⟨(some 25),(.call 89),[.t 24,.c (.int .i64 3)],.sh,none,none⟩,
  (op 26 (.build [.int .i64 0,.str [],.int .i64 0] [(0,1),(1,1)]) [.c (.int .i64 1),.t 25]),
  ⟨(some 13),(.alloc [.int .i64 0,.str [],.int .i64 0]),[],(.lo 13),none,none⟩,
  ⟨none,(.st 3),[.t 13,.t 26],(.lo 13),none,none⟩] [24,25,26]) <|
  .seq (.seq (.reg false [] [
  (mv 27 0),
  ⟨(some 28),(.call 54),[.t 27,.c (.int .i64 8)],.sh,none,none⟩] [27]) <|
  .block 2 (.seq (.seq (.reg false [] [
  (op 30 (.bin .eql) [.t 28,.c (.int .i64 0)]),
  (mv 29 30)] [30]) <|
  .cond (.t 29) (.skip)
  (.reg false [] [
  (op 31 (.bin .eql) [.t 28,.c (.int .i64 1)]),
  (mv 29 31)] [31])) <|
  .cond (.t 29) (.reg false [] [
  (op 32 (.mks 1 [.str []] 3 [0,1,2]) [.c (.str [110]),.c (.str [110,97,109,101]),.c (.str [120,49])]),
  (mv 33 0),
  ⟨(some 34),(.call 54),[.t 33,.c (.int .i64 3)],.sh,none,none⟩,
  (op 35 (.ia 1) [.t 32,.t 34]),
  (op 36 (.ld false 1) [.t 35]),
  (op 37 (.build [.int .i64 0,.str [],.int .i64 0] [(0,1),(1,1)]) [.c (.int .i64 5),.t 36]),
  ⟨none,(.st 3),[.t 13,.t 37],(.lo 13),none,none⟩] [32,33,34,35,36,37])
  (.seq (.reg false [] [
  (op 39 (.bin .eql) [.t 28,.c (.int .i64 2)]),
  (mv 38 39)] [39]) <|
  .cond (.t 38) (.seq (.reg false [] [(mv 40 2)] []) <|
  .cond (.t 40) (.seq (.reg false [] [
  (mv 41 11),
  (op 42 (.bin .add) [.t 41,.c (.int .i64 1)]),
  (mv 11 42)] [41,42]) <|
  .reg false [] [
  (op 43 (.mks 1 [.str []] 2 [0,1]) [.c (.str [98,114]),.c (.str [105,109,103,32,97])]),
  (mv 44 0),
  ⟨(some 45),(.call 54),[.t 44,.c (.int .i64 2)],.sh,none,none⟩,
  (op 46 (.ia 1) [.t 43,.t 45]),
  (op 47 (.ld false 1) [.t 46]),
  (mv 48 11),
  (op 49 (.build [.int .i64 0,.str [],.int .i64 0] [(0,1),(1,1),(2,1)]) [.c (.int .i64 4),.t 47,.t 48]),
  ⟨none,(.st 3),[.t 13,.t 49],(.lo 13),none,none⟩] [43,44,45,46,47,48,49])
  (.skip))
  (.seq (.seq (.reg false [] [
  (op 51 (.bin .eql) [.t 28,.c (.int .i64 3)]),
  (mv 50 51)] [51]) <|
  .cond (.t 50) (.skip)
  (.reg false [] [
  (op 52 (.bin .eql) [.t 28,.c (.int .i64 4)]),
  (mv 50 52)] [52])) <|
  .cond (.t 50) (.seq (.reg false [] [(mv 53 2)] []) <|
  .cond (.t 53) (.seq (.reg false [] [
  (mv 54 11),
  (op 55 (.bin .add) [.t 54,.c (.int .i64 1)]),
  (mv 11 55)] [54,55]) <|
  .seq (.reg false [] [
  (op 56 (.mks 1 [.str []] 3 [0,1,2]) [.c (.str [98]),.c (.str [105]),.c (.str [97,32,104,61,49])]),
  (mv 57 0),
  ⟨(some 58),(.call 54),[.t 57,.c (.int .i64 3)],.sh,none,none⟩,
  (op 59 (.ia 1) [.t 56,.t 58]),
  (op 60 (.ld false 1) [.t 59]),
  (mv 61 11),
  (op 62 (.build [.int .i64 0,.str [],.int .i64 0] [(0,1),(1,1),(2,1)]) [.c (.int .i64 2),.t 60,.t 61]),
  ⟨none,(.st 3),[.t 13,.t 62],(.lo 13),none,none⟩] [56,57,58,59,60,61,62]) <|
  .reg false [] [
  ⟨(some 63),.mvo,[.t 10],.none,(some 10),none⟩,
  ⟨(some 64),(.ld true 3),[.t 13],(.lo 13),none,none⟩,
  (op 65 (.mks 3 [.int .i64 0,.str [],.int .i64 0] 1 [0]) [.t 64]),
  ⟨(some 66),(.app false 3 32),[.t 63,.t 65],.none,(some 63),none⟩,
  ⟨(some 10),.mvo,[.t 66],.none,(some 66),none⟩] [63,64,65,66])
  (.skip))
  (.seq (.seq (.reg false [] [
  (op 68 (.bin .eql) [.t 28,.c (.int .i64 5)]),
  (mv 67 68)] [68]) <|
  .cond (.t 67) (.skip)
  (.reg false [] [
  (op 69 (.bin .eql) [.t 28,.c (.int .i64 6)]),
  (mv 67 69)] [69,28])) <|
  .cond (.t 67) (.seq (.reg false [] [
  (mv 70 10),
  (op 71 (.len false) [.t 70]),
  (op 72 (.bin .sub) [.t 71,.c (.int .i64 1)]),
  (mv 14 72)] [70,71,72]) <|
  .seq (.reg false [] [
  (mv 73 14),
  (op 74 (.bin .geq) [.t 73,.c (.int .i64 0)])] [73]) <|
  .cond (.t 74) (.seq (.seq (.reg false [] [
  (mv 75 3),
  (op 76 (.un .not) [.t 75])] [75]) <|
  .cond (.t 76) (.reg false [] [
  (mv 77 0),
  (mv 78 14),
  (op 79 (.bin .add) [.t 78,.c (.int .i64 1)]),
  ⟨(some 80),(.call 54),[.t 77,.t 79],.sh,none,none⟩,
  (mv 14 80)] [77,78,79,80])
  (.skip)) <|
  .seq (.reg true [] [
  (mv 81 10),
  (mv 82 14),
  (op 83 (.ia 3) [.t 81,.t 82]),
  (op 84 (.fa 1) [.t 83]),
  (op 85 (.ld false 1) [.t 84]),
  (op 86 (.call 142) [.t 85]),
  (mv 87 10),
  (mv 88 14),
  (op 89 (.ia 3) [.t 87,.t 88]),
  (op 90 (.fa 2) [.t 89]),
  (op 91 (.ld false 1) [.t 90]),
  (op 92 (.build [.int .i64 0,.str [],.int .i64 0] [(0,1),(1,1),(2,1)]) [.c (.int .i64 3),.t 86,.t 91]),
  ⟨none,(.st 3),[.t 13,.t 92],(.lo 13),none,none⟩] [81,82,83,84,85,86,87,88,89,90,91,92]) <|
  .reg true [] [
  (mv 93 10),
  (mv 94 14),
  (op 95 (.slc false 3 false true) [.t 93,.t 94]),
  (op 96 (.app false 3 32) [.c (.sl .full 3 []),.t 95]),
  (mv 97 10),
  (mv 98 14),
  (op 99 (.bin .add) [.t 98,.c (.int .i64 1)]),
  (op 100 (.slc false 3 true false) [.t 97,.t 99]),
  ⟨(some 101),(.app false 3 32),[.t 96,.t 100],.none,(some 96),none⟩,
  ⟨(some 10),.mvo,[.t 101],.none,(some 101),none⟩] [93,94,95,96,97,98,99,100,101,14])
  (.seq (.reg false [] [
  (mv 102 2),
  (mv 103 102),
  ⟨(some 104),.mv,[.t 3],.none,none,(some (103,true))⟩,
  ⟨(some 105),(.un .not),[.t 104],.none,none,(some (103,true))⟩,
  (op 106 .pick [.t 103,.t 105,.c (.bool false)])] [102,103,104,105]) <|
  .cond (.t 106) (.seq (.reg false [] [
  (mv 107 11),
  (op 108 (.bin .add) [.t 107,.c (.int .i64 1)]),
  (mv 11 108)] [107,108]) <|
  .reg false [] [
  (mv 109 11),
  (op 110 (.build [.int .i64 0,.str [],.int .i64 0] [(0,1),(1,1),(2,1)]) [.c (.int .i64 3),.c (.str [98]),.t 109]),
  ⟨none,(.st 3),[.t 13,.t 110],(.lo 13),none,none⟩] [109,110])
  (.skip)))
  (.skip)))))) <|
  .reg false [] [
  (mv 111 9),
  ⟨(some 112),(.ld true 3),[.t 13],(.lo 13),none,none⟩,
  (op 113 (.mks 3 [.int .i64 0,.str [],.int .i64 0] 1 [0]) [.t 112]),
  ⟨(some 114),(.call 58),[.t 111,.t 113],.sh,none,none⟩,
  ⟨(some 9),.mvo,[.t 114],.none,(some 114),none⟩] [111,112,113,114,13])) <|
  .reg false [] [
  (mv 22 12),
  (op 23 (.bin .sub) [.t 22,.c (.int .i64 1)]),
  (mv 12 23)] [22,23])
def L97_1:ACode:=
  .loop [118,119,120,121,122,125,126,127,128,129,130,131,132,133,134,135,136,137,138,139,123,124] (.seq (.seq (.reg false [] [
  (mv 118 15),
  (op 119 (.bin .geq) [.t 118,.c (.int .i64 0)]),
  (mv 120 119),
  ⟨(some 121),.mv,[.t 3],.none,none,(some (120,true))⟩,
  (op 122 .pick [.t 120,.t 121,.c (.bool false)])] [118,119,120,121]) <|
  .cond (.t 122) (.skip)
  (.exit 3)) <|
  .seq (.block 4 (.reg true [] [
  ⟨(some 125),.mvo,[.t 9],.none,(some 9),none⟩,
  (mv 126 10),
  (mv 127 15),
  (op 128 (.ia 3) [.t 126,.t 127]),
  (op 129 (.fa 1) [.t 128]),
  (op 130 (.ld false 1) [.t 129]),
  (op 131 (.call 142) [.t 130]),
  (mv 132 10),
  (mv 133 15),
  (op 134 (.ia 3) [.t 132,.t 133]),
  (op 135 (.fa 2) [.t 134]),
  (op 136 (.ld false 1) [.t 135]),
  (op 137 (.build [.int .i64 0,.str [],.int .i64 0] [(0,1),(1,1),(2,1)]) [.c (.int .i64 3),.t 131,.t 136]),
  (op 138 (.mks 3 [.int .i64 0,.str [],.int .i64 0] 1 [0]) [.t 137]),
  ⟨(some 139),(.appS false 3 32),[.t 125,.t 138],.sh,none,none⟩,
  ⟨(some 9),.mvo,[.t 139],.none,(some 139),none⟩] [125,126,127,128,129,130,131,132,133,134,135,136,137,138,139])) <|
  .reg false [] [
  (mv 123 15),
  (op 124 (.bin .sub) [.t 123,.c (.int .i64 1)]),
  (mv 15 124)] [123,124])
def F97:AFun:=
{nargs:=4,keep:=false,res:=[.tmp 8],body:=
  .seq (.reg false [] [(op 8 .mv [.c (.sl .full 3 [])])] [8]) <|
  .seq (.reg false [] [
  (op 9 .mv [.c (.sl .full 3 [])]),
  (op 10 .mv [.c (.sl .full 3 [])])] []) <|
  .seq (.reg false [] [(op 11 .mv [.c (.int .i64 0)])] []) <|
  .seq (.seq (.reg false [] [
  (mv 16 0),
  (mv 17 1),
  (op 18 (.bin .add) [.t 17,.c (.int .i64 1)]),
  ⟨(some 19),(.call 54),[.t 16,.t 18],.sh,none,none⟩,
  (mv 12 19)] [16,17,18,19,1]) <|
  .block 0 (L97_0)) <|
  .seq (.seq (.reg false [] [
  (mv 115 10),
  (op 116 (.len false) [.t 115]),
  (op 117 (.bin .sub) [.t 116,.c (.int .i64 1)]),
  (mv 15 117)] [115,116,117]) <|
  .block 3 (L97_1)) <|
  .seq (.reg false [] [
  (mv 140 9),
  ⟨(some 8),.mvo,[.t 140],.none,(some 140),none⟩] [140,9]) <|
  .ret }

/- bitext/bitextmake.Target -/
def L98_0:ACode:=
  .loop [11,12,6,13,14,15,16,7,17,18,19,20,21,22,23,24,25,26,27,28,29,30,31,32,33,34,35,36,37,38,39,40,41,42,43,44] (.seq (.reg false [] [(op 11 (.bin .lss) [.t 10,.t 9])] []) <|
  .seq (.cond (.t 11) (.skip)
  (.exit 0)) <|
  .seq (.block 1 (.seq (.reg false [] [
  (mv 12 10),
  (mv 6 12)] [12]) <|
  .seq (.reg false [7] [
  (mv 13 1),
  (mv 14 6),
  (op 15 (.ia 3) [.t 13,.t 14]),
  (op 16 (.ld true 3) [.t 15]),
  ⟨(some 7),(.alloc [.int .i64 0,.str [],.int .i64 0]),[],(.lo 7),none,none⟩,
  ⟨none,(.st 3),[.t 7,.t 16],(.lo 7),none,none⟩] [13,14,15,16,6]) <|
  .seq (.seq (.reg false [] [
  (op 17 (.fa 0) [.t 7]),
  ⟨(some 18),(.ld false 1),[.t 17],(.lo 7),none,none⟩,
  (op 19 (.bin .eql) [.t 18,.c (.int .i64 1)])] [17,18]) <|
  .cond (.t 19) (.reg true [] [
  (op 20 (.fa 1) [.t 7]),
  ⟨(some 21),(.ld false 1),[.t 20],(.lo 7),none,none⟩,
  (op 22 (.bin .add) [.c (.str [101,105,110,32]),.t 21]),
  (op 23 (.fa 1) [.t 7]),
  ⟨(some 24),(.ld false 1),[.t 23],(.lo 7),none,none⟩,
  (op 25 (.mks 1 [.str []] 5 [0,1,2,3,4]) [.c (.str [114,111,116]),.c (.str [100,97,115,32,65,117,116,111]),.c (.str []),.t 22,.t 24]),
  (mv 26 0),
  ⟨(some 27),(.call 54),[.t 26,.c (.int .i64 5)],.sh,none,none⟩,
  (op 28 (.ia 1) [.t 25,.t 27]),
  (op 29 (.ld false 1) [.t 28]),
  (op 30 (.fa 1) [.t 7]),
  ⟨none,(.st 1),[.t 30,.t 29],(.lo 7),none,none⟩] [20,21,22,23,24,25,26,27,28,29,30])
  (.seq (.reg false [] [
  (mv 31 0),
  ⟨(some 32),(.call 54),[.t 31,.c (.int .i64 3)],.sh,none,none⟩,
  (op 33 (.bin .eql) [.t 32,.c (.int .i64 0)])] [31,32]) <|
  .cond (.t 33) (.reg false [] [
  (mv 34 5),
  (mv 35 0),
  ⟨(some 36),(.call 89),[.t 35,.c (.int .i64 2)],.sh,none,none⟩,
  (op 37 (.build [.int .i64 0,.str [],.int .i64 0] [(0,1),(1,1)]) [.c (.int .i64 1),.t 36]),
  (op 38 (.mks 3 [.int .i64 0,.str [],.int .i64 0] 1 [0]) [.t 37]),
  (op 39 (.call 58) [.t 34,.t 38]),
  ⟨(some 5),.mvo,[.t 39],.none,(some 39),none⟩] [34,35,36,37,38,39])
  (.skip))) <|
  .reg false [] [
  (mv 40 5),
  ⟨(some 41),(.ld true 3),[.t 7],(.lo 7),none,none⟩,
  (op 42 (.mks 3 [.int .i64 0,.str [],.int .i64 0] 1 [0]) [.t 41]),
  (op 43 (.call 58) [.t 40,.t 42]),
  ⟨(some 5),.mvo,[.t 43],.none,(some 43),none⟩] [40,41,42,43,7])) <|
  .reg false [] [
  (op 44 (.bin .add) [.t 10,.c (.int .i64 1)]),
  (mv 10 44)] [44])
def F98:AFun:=
{nargs:=2,keep:=false,res:=[.tmp 4],body:=
  .seq (.reg false [] [(op 4 .mv [.c (.sl .full 3 [])])] [4]) <|
  .seq (.reg false [] [(op 5 .mv [.c (.sl .full 3 [])])] []) <|
  .seq (.seq (.reg false [] [
  (mv 8 1),
  (op 9 (.len false) [.t 8]),
  (op 10 .mv [.c (.int .i64 0)])] [8]) <|
  .block 0 (L98_0)) <|
  .seq (.reg false [] [
  (mv 45 5),
  ⟨(some 4),.mvo,[.t 45],.none,(some 45),none⟩] [45,5]) <|
  .ret }

/- bitext/bitextref3.Normalize -/
def L99_0:ACode:=
  .loop [10,11,4,12,13,14,15,5,16,17,18,19,20,21,22,23,24,25,26,27,6,28,29,30,31,32,33,34,35,36,37,38,39,40,41,42,43,44,45,46,47,48,49,50,51,52,53,54,55,56,57,58,59] (.seq (.reg false [] [(op 10 (.bin .lss) [.t 9,.t 8])] []) <|
  .seq (.cond (.t 10) (.skip)
  (.exit 0)) <|
  .seq (.block 1 (.seq (.reg false [] [
  (mv 11 9),
  (mv 4 11)] [11]) <|
  .seq (.reg false [5] [
  (mv 12 0),
  (mv 13 4),
  (op 14 (.ia 3) [.t 12,.t 13]),
  (op 15 (.ld true 3) [.t 14]),
  ⟨(some 5),(.alloc [.int .i64 0,.str [],.int .i64 0]),[],(.lo 5),none,none⟩,
  ⟨none,(.st 3),[.t 5,.t 15],(.lo 5),none,none⟩] [12,13,14,15,4]) <|
  .seq (.seq (.reg false [] [
  (op 16 (.fa 0) [.t 5]),
  ⟨(some 17),(.ld false 1),[.t 16],(.lo 5),none,none⟩,
  (op 18 (.bin .neq) [.t 17,.c (.int .i64 1)])] [16,17]) <|
  .cond (.t 18) (.seq (.reg false [] [
  ⟨(some 19),.mvo,[.t 3],.none,(some 3),none⟩,
  ⟨(some 20),(.ld true 3),[.t 5],(.lo 5),none,none⟩,
  (op 21 (.mks 3 [.int .i64 0,.str [],.int .i64 0] 1 [0]) [.t 20]),
  ⟨(some 22),(.appS false 3 32),[.t 19,.t 21],.sh,none,none⟩,
  ⟨(some 3),.mvo,[.t 22],.none,(some 22),none⟩] [19,20,21,22,5]) <|
  .exit 1)
  (.skip)) <|
  .seq (.seq (.reg false [] [
  (op 23 (.fa 1) [.t 5]),
  ⟨(some 24),(.ld false 1),[.t 23],(.lo 5),none,none⟩,
  (op 25 (.bin .eql) [.t 24,.c (.str [])])] [23,24]) <|
  .cond (.t 25) (.exit 1)
  (.skip)) <|
  .seq (.reg false [] [
  (mv 26 3),
  (op 27 (.len false) [.t 26]),
  (mv 6 27)] [26,27]) <|
  .seq (.reg false [] [
  (mv 28 6),
  (op 29 (.bin .gtr) [.t 28,.c (.int .i64 0)]),
  (mv 30 29),
  ⟨(some 31),.mv,[.t 3],.none,none,(some (30,true))⟩,
  ⟨(some 32),.mv,[.t 6],.none,none,(some (30,true))⟩,
  ⟨(some 33),(.bin .sub),[.t 32,.c (.int .i64 1)],.none,none,(some (30,true))⟩,
  ⟨(some 34),(.ia 3),[.t 31,.t 33],.none,none,(some (30,true))⟩,
  ⟨(some 35),(.fa 0),[.t 34],.none,none,(some (30,true))⟩,
  ⟨(some 36),(.ld false 1),[.t 35],.sh,none,(some (30,true))⟩,
  ⟨(some 37),(.bin .eql),[.t 36,.c (.int .i64 1)],.none,none,(some (30,true))⟩,
  (op 38 .pick [.t 30,.t 37,.c (.bool false)])] [28,29,30,31,32,33,34,35,36,37]) <|
  .cond (.t 38) (.reg true [] [
  (mv 39 3),
  (mv 40 6),
  (op 41 (.bin .sub) [.t 40,.c (.int .i64 1)]),
  (mv 42 3),
  (mv 43 6),
  (op 44 (.bin .sub) [.t 43,.c (.int .i64 1)]),
  (op 45 (.ia 3) [.t 42,.t 44]),
  (op 46 (.fa 1) [.t 45]),
  ⟨(some 47),(.ld false 1),[.t 46],.sh,none,none⟩,
  (op 48 (.fa 1) [.t 5]),
  ⟨(some 49),(.ld false 1),[.t 48],(.lo 5),none,none⟩,
  (op 50 (.bin .add) [.t 47,.t 49]),
  (op 51 (.build [.int .i64 0,.str [],.int .i64 0] [(0,1),(1,1)]) [.c (.int .i64 1),.t 50]),
  (op 52 (.ia 3) [.t 39,.t 41]),
  ⟨none,(.st 3),[.t 52,.t 51],.sh,none,none⟩] [39,40,41,42,43,44,45,46,47,48,49,50,51,52,6,5])
  (.reg false [] [
  ⟨(some 53),.mvo,[.t 3],.none,(some 3),none⟩,
  (op 54 (.fa 1) [.t 5]),
  ⟨(some 55),(.ld false 1),[.t 54],(.lo 5),none,none⟩,
  (op 56 (.build [.int .i64 0,.str [],.int .i64 0] [(0,1),(1,1)]) [.c (.int .i64 1),.t 55]),
  (op 57 (.mks 3 [.int .i64 0,.str [],.int .i64 0] 1 [0]) [.t 56]),
  ⟨(some 58),(.appS false 3 32),[.t 53,.t 57],.sh,none,none⟩,
  ⟨(some 3),.mvo,[.t 58],.none,(some 58),none⟩] [53,54,55,56,57,58,5]))) <|
  .reg false [] [
  (op 59 (.bin .add) [.t 9,.c (.int .i64 1)]),
  (mv 9 59)] [59])
def F99:AFun:=
{nargs:=1,keep:=false,res:=[.tmp 2],body:=
  .seq (.reg false [] [(op 2 .mv [.c (.sl .full 3 [])])] [2]) <|
  .seq (.reg false [] [(op 3 .mv [.c (.sl .full 3 [])])] []) <|
  .seq (.seq (.reg false [] [
  (mv 7 0),
  (op 8 (.len false) [.t 7]),
  (op 9 .mv [.c (.int .i64 0)])] [7]) <|
  .block 0 (L99_0)) <|
  .seq (.reg false [] [
  (mv 60 3),
  ⟨(some 2),.mvo,[.t 60],.none,(some 60),none⟩] [60,3]) <|
  .ret }

/- bitext/item.Length -/
def L100_0:ACode:=
  .loop [9,10,11,5,12,13,14,15,16] (.seq (.reg false [] [(op 9 (.bin .lss) [.t 8,.t 7])] []) <|
  .seq (.cond (.t 9) (.skip)
  (.exit 0)) <|
  .seq (.block 1 (.seq (.reg false [5] [
  (op 10 (.ia 3) [.t 6,.t 8]),
  (op 11 (.ld true 3) [.t 10]),
  ⟨(some 5),(.alloc [.int .i64 0,.str [],.int .i64 0]),[],(.lo 5),none,none⟩,
  ⟨none,(.st 3),[.t 5,.t 11],(.lo 5),none,none⟩] [10,11]) <|
  .reg false [] [
  (mv 12 3),
  ⟨(some 13),(.ld true 3),[.t 5],(.lo 5),none,none⟩,
  (op 14 (.call 143) [.t 13]),
  (op 15 (.bin .add) [.t 12,.t 14]),
  (mv 3 15)] [12,13,14,15,5])) <|
  .reg false [] [
  (op 16 (.bin .add) [.t 8,.c (.int .i64 1)]),
  (mv 8 16)] [16])
def F100:AFun:=
{nargs:=1,keep:=false,res:=[.tmp 2],body:=
  .seq (.reg false [] [(op 2 .mv [.c (.int .i64 0)])] [2]) <|
  .seq (.reg false [] [(op 3 .mv [.c (.int .i64 0)])] []) <|
  .seq (.seq (.reg false [] [
  (mv 6 0),
  (op 7 (.len false) [.t 6]),
  (op 8 .mv [.c (.int .i64 0)])] [0]) <|
  .block 0 (L100_0)) <|
  .seq (.reg false [] [
  (mv 17 3),
  (mv 2 17)] [17,3]) <|
  .ret }

/- bitext/item.wellFormed -/
def F101:AFun:=
{nargs:=2,keep:=false,res:=[.tmp 4],body:=
  .seq (.reg false [] [(op 4 .mv [.c (.bool false)])] [4]) <|
  .seq (.reg false [5] [
  (mv 6 0),
  (mv 7 1),
  (op 8 (.ia 3) [.t 6,.t 7]),
  (op 9 (.ld true 3) [.t 8]),
  ⟨(some 5),(.alloc [.int .i64 0,.str [],.int .i64 0]),[],(.lo 5),none,none⟩,
  ⟨none,(.st 3),[.t 5,.t 9],(.lo 5),none,none⟩] [6,7,8,9]) <|
  .seq (.seq (.reg false [] [
  (op 10 (.fa 0) [.t 5]),
  ⟨(some 11),(.ld false 1),[.t 10],(.lo 5),none,none⟩] [10]) <|
  .block 0 (.seq (.reg false [] [
  (op 13 (.bin .eql) [.t 11,.c (.int .i64 1)]),
  (mv 12 13)] [13]) <|
  .cond (.t 12) (.seq (.reg false [] [
  (op 14 (.fa 1) [.t 5]),
  ⟨(some 15),(.ld false 1),[.t 14],(.lo 5),none,none⟩,
  (op 16 (.bin .neq) [.t 15,.c (.str [])]),
  (mv 17 16),
  ⟨(some 18),(.fa 2),[.t 5],.none,none,(some (17,true))⟩,
  ⟨(some 19),(.ld false 1),[.t 18],(.lo 5),none,(some (17,true))⟩,
  ⟨(some 20),(.bin .eql),[.t 19,.c (.int .i64 0)],.none,none,(some (17,true))⟩,
  (op 21 .pick [.t 17,.t 20,.c (.bool false)]),
  (mv 22 21),
  ⟨(some 23),.mv,[.t 1],.none,none,(some (22,true))⟩,
  ⟨(some 24),(.bin .eql),[.t 23,.c (.int .i64 0)],.none,none,(some (22,true))⟩,
  ⟨(some 25),.mv,[.t 24],.none,none,(some (22,true))⟩,
  ⟨(some 26),.mv,[.t 0],.none,none,(some (25,false))⟩,
  ⟨(some 27),.mv,[.t 1],.none,none,(some (25,false))⟩,
  ⟨(some 28),(.bin .sub),[.t 27,.c (.int .i64 1)],.none,none,(some (25,false))⟩,
  ⟨(some 29),(.ia 3),[.t 26,.t 28],.none,none,(some (25,false))⟩,
  ⟨(some 30),(.fa 0),[.t 29],.none,none,(some (25,false))⟩,
  ⟨(some 31),(.ld false 1),[.t 30],.none,none,(some (25,false))⟩,
  ⟨(some 32),(.bin .neq),[.t 31,.c (.int .i64 1)],.none,none,(some (25,false))⟩,
  ⟨(some 33),.pick,[.t 25,.c (.bool true),.t 32],.none,none,(some (22,true))⟩,
  (op 34 .pick [.t 22,.t 33,.c (.bool false)]),
  (mv 4 34)] [14,15,16,17,18,19,20,21,22,23,24,25,26,27,28,29,30,31,32,33,34,5,1,0]) <|
  .ret)
  (.seq (.reg false [] [
  (op 36 (.bin .eql) [.t 11,.c (.int .i64 5)]),
  (mv 35 36)] [36]) <|
  .cond (.t 35) (.seq (.reg false [] [
  (op 37 (.fa 1) [.t 5]),
  ⟨(some 38),(.ld false 1),[.t 37],(.lo 5),none,none⟩,
  (op 39 (.call 63) [.t 38]),
  (mv 40 39),
  ⟨(some 41),(.fa 2),[.t 5],.none,none,(some (40,true))⟩,
  ⟨(some 42),(.ld false 1),[.t 41],(.lo 5),none,(some (40,true))⟩,
  ⟨(some 43),(.bin .eql),[.t 42,.c (.int .i64 0)],.none,none,(some (40,true))⟩,
  (op 44 .pick [.t 40,.t 43,.c (.bool false)]),
  (mv 4 44)] [37,38,39,40,41,42,43,44,5]) <|
  .ret)
  (.seq (.seq (.reg false [] [
  (op 46 (.bin .eql) [.t 11,.c (.int .i64 2)]),
  (mv 45 46)] [46]) <|
  .cond (.t 45) (.skip)
  (.reg false [] [
  (op 47 (.bin .eql) [.t 11,.c (.int .i64 4)]),
  (mv 45 47)] [47])) <|
  .cond (.t 45) (.seq (.reg false [] [
  (op 48 (.fa 1) [.t 5]),
  ⟨(some 49),(.ld false 1),[.t 48],(.lo 5),none,none⟩,
  (op 50 (.call 144) [.t 49]),
  (mv 51 50),
  ⟨(some 52),(.fa 2),[.t 5],.none,none,(some (51,true))⟩,
  ⟨(some 53),(.ld false 1),[.t 52],(.lo 5),none,(some (51,true))⟩,
  ⟨(some 54),(.bin .geq),[.t 53,.c (.int .i64 1)],.none,none,(some (51,true))⟩,
  (op 55 .pick [.t 51,.t 54,.c (.bool false)]),
  (mv 56 55),
  ⟨(some 57),(.fa 2),[.t 5],.none,none,(some (56,true))⟩,
  ⟨(some 58),(.ld false 1),[.t 57],(.lo 5),none,(some (56,true))⟩,
  ⟨(some 59),(.bin .leq),[.t 58,.c (.int .i64 999)],.none,none,(some (56,true))⟩,
  (op 60 .pick [.t 56,.t 59,.c (.bool false)]),
  (mv 4 60)] [48,49,50,51,52,53,54,55,56,57,58,59,60,5]) <|
  .ret)
  (.seq (.reg false [] [
  (op 62 (.bin .eql) [.t 11,.c (.int .i64 3)]),
  (mv 61 62)] [62,11]) <|
  .cond (.t 61) (.seq (.reg false [] [
  (op 63 (.fa 1) [.t 5]),
  ⟨(some 64),(.ld false 1),[.t 63],(.lo 5),none,none⟩,
  (op 65 (.call 63) [.t 64]),
  (mv 66 65),
  ⟨(some 67),(.fa 2),[.t 5],.none,none,(some (66,true))⟩,
  ⟨(some 68),(.ld false 1),[.t 67],(.lo 5),none,(some (66,true))⟩,
  ⟨(some 69),(.bin .geq),[.t 68,.c (.int .i64 1)],.none,none,(some (66,true))⟩,
  (op 70 .pick [.t 66,.t 69,.c (.bool false)]),
  (mv 71 70),
  ⟨(some 72),(.fa 2),[.t 5],.none,none,(some (71,true))⟩,
  ⟨(some 73),(.ld false 1),[.t 72],(.lo 5),none,(some (71,true))⟩,
  ⟨(some 74),(.bin .leq),[.t 73,.c (.int .i64 999)],.none,none,(some (71,true))⟩,
  (op 75 .pick [.t 71,.t 74,.c (.bool false)]),
  (mv 4 75)] [63,64,65,66,67,68,69,70,71,72,73,74,75,5]) <|
  .ret)
  (.skip)))))) <|
  .seq (.reg false [] [(op 4 .mv [.c (.bool false)])] []) <|
  .ret }

/- bitext/item.isTag -/
def F102:AFun:=
{nargs:=1,keep:=false,res:=[.tmp 2],body:=
  .seq (.reg false [1] [
  ⟨(some 1),(.box 3),[.t 0],(.lo 1),none,none⟩,
  (op 2 .mv [.c (.bool false)])] [2,0]) <|
  .seq (.reg false [] [
  (op 3 (.fa 0) [.t 1]),
  ⟨(some 4),(.ld false 1),[.t 3],(.lo 1),none,none⟩,
  (op 5 (.bin .eql) [.t 4,.c (.int .i64 2)]),
  (mv 6 5),
  ⟨(some 7),(.fa 0),[.t 1],.none,none,(some (6,false))⟩,
  ⟨(some 8),(.ld false 1),[.t 7],(.lo 1),none,(some (6,false))⟩,
  ⟨(some 9),(.bin .eql),[.t 8,.c (.int .i64 3)],.none,none,(some (6,false))⟩,
  (op 10 .pick [.t 6,.c (.bool true),.t 9]),
  (mv 11 10),
  ⟨(some 12),(.fa 0),[.t 1],.none,none,(some (11,false))⟩,
  ⟨(some 13),(.ld false 1),[.t 12],(.lo 1),none,(some (11,false))⟩,
  ⟨(some 14),(.bin .eql),[.t 13,.c (.int .i64 4)],.none,none,(some (11,false))⟩,
  (op 15 .pick [.t 11,.c (.bool true),.t 14]),
  (mv 2 15)] [3,4,5,6,7,8,9,10,11,12,13,14,15,1]) <|
  .ret }

/- bitext/item.fits -/
def L103_0:ACode:=
  .loop [10,11,12,6,13,14,15,16,17,18,19,20,21,22,23,24,25,26,27,28,29,30,31,32,33,34,35,36,37,38,4,39] (.seq (.reg false [] [(op 10 (.bin .lss) [.t 9,.t 8])] []) <|
  .seq (.cond (.t 10) (.skip)
  (.exit 0)) <|
  .seq (.block 1 (.seq (.reg false [6] [
  (op 11 (.ia 3) [.t 7,.t 9]),
  (op 12 (.ld true 3) [.t 11]),
  ⟨(some 6),(.alloc [.int .i64 0,.str [],.int .i64 0]),[],(.lo 6),none,none⟩,
  ⟨none,(.st 3),[.t 6,.t 12],(.lo 6),none,none⟩] [11,12]) <|
  .seq (.seq (.reg false [] [
  ⟨(some 13),(.ld true 3),[.t 6],(.lo 6),none,none⟩,
  (op 14 (.call 102) [.t 13]),
  (op 15 (.un .not) [.t 14]),
  (mv 16 15),
  ⟨(some 17),(.fa 2),[.t 6],.none,none,(some (16,false))⟩,
  ⟨(some 18),(.ld false 1),[.t 17],(.lo 6),none,(some (16,false))⟩,
  ⟨(some 19),(.fa 2),[.t 3],.none,none,(some (16,false))⟩,
  ⟨(some 20),(.ld false 1),[.t 19],(.lo 3),none,(some (16,false))⟩,
  ⟨(some 21),(.bin .neq),[.t 18,.t 20],.none,none,(some (16,false))⟩,
  (op 22 .pick [.t 16,.c (.bool true),.t 21])] [13,14,15,16,17,18,19,20,21]) <|
  .cond (.t 22) (.exit 1)
  (.skip)) <|
  .seq (.reg true [] [
  (op 23 (.fa 0) [.t 3]),
  ⟨(some 24),(.ld false 1),[.t 23],(.lo 3),none,none⟩,
  (op 25 (.bin .neq) [.t 24,.c (.int .i64 3)]),
  (mv 26 25),
  ⟨(some 27),(.fa 0),[.t 6],.none,none,(some (26,false))⟩,
  ⟨(some 28),(.ld false 1),[.t 27],(.lo 6),none,(some (26,false))⟩,
  ⟨(some 29),(.bin .neq),[.t 28,.c (.int .i64 2)],.none,none,(some (26,false))⟩,
  (op 30 .pick [.t 26,.c (.bool true),.t 29]),
  (mv 31 30),
  ⟨(some 32),(.fa 1),[.t 6],.none,none,(some (31,false))⟩,
  ⟨(some 33),(.ld false 1),[.t 32],(.lo 6),none,(some (31,false))⟩,
  ⟨(some 34),(.call 145),[.t 33],.none,none,(some (31,false))⟩,
  ⟨(some 35),(.fa 1),[.t 3],.none,none,(some (31,false))⟩,
  ⟨(some 36),(.ld false 1),[.t 35],(.lo 3),none,(some (31,false))⟩,
  ⟨(some 37),(.bin .neq),[.t 34,.t 36],.none,none,(some (31,false))⟩,
  (op 38 .pick [.t 31,.c (.bool true),.t 37])] [23,24,25,26,27,28,29,30,31,32,33,34,35,36,37,6]) <|
  .cond (.t 38) (.seq (.reg false [] [(op 4 .mv [.c (.bool false)])] []) <|
  .ret)
  (.skip))) <|
  .reg false [] [
  (op 39 (.bin .add) [.t 9,.c (.int .i64 1)]),
  (mv 9 39)] [39])
def F103:AFun:=
{nargs:=2,keep:=false,res:=[.tmp 4],body:=
  .seq (.reg false [3] [
  ⟨(some 3),(.box 3),[.t 1],(.lo 3),none,none⟩,
  (op 4 .mv [.c (.bool false)])] [4,1]) <|
  .seq (.seq (.reg false [] [
  (mv 7 0),
  (op 8 (.len false) [.t 7]),
  (op 9 .mv [.c (.int .i64 0)])] [0]) <|
  .block 0 (L103_0)) <|
  .seq (.reg false [] [(op 4 .mv [.c (.bool true)])] []) <|
  .ret }

/- bitext/item.Numbers -/
def L104_0:ACode:=
  .loop [11,12,13,6,14,15,16,17,18,19,20,21,22,23,24,25,26,27,28,29,30,31] (.seq (.reg false [] [(op 11 (.bin .lss) [.t 10,.t 9])] []) <|
  .seq (.cond (.t 11) (.skip)
  (.exit 0)) <|
  .seq (.block 1 (.seq (.reg false [6] [
  (op 12 (.ia 3) [.t 8,.t 10]),
  (op 13 (.ld true 3) [.t 12]),
  ⟨(some 6),(.alloc [.int .i64 0,.str [],.int .i64 0]),[],(.lo 6),none,none⟩,
  ⟨none,(.st 3),[.t 6,.t 13],(.lo 6),none,none⟩] [12,13]) <|
  .seq (.reg false [] [
  ⟨(some 14),(.ld true 3),[.t 6],(.lo 6),none,none⟩,
  (op 15 (.call 102) [.t 14]),
  (mv 16 15),
  ⟨(some 17),.mv,[.t 4],.none,none,(some (16,true))⟩,
  ⟨(some 18),(.fa 2),[.t 6],.none,none,(some (16,true))⟩,
  ⟨(some 19),(.ld false 1),[.t 18],(.lo 6),none,(some (16,true))⟩,
  ⟨(some 20),(.lkp false false [0] [.bool false]),[.t 17,.t 19],.sh,none,(some (16,true))⟩,
  ⟨(some 21),(.un .not),[.t 20],.none,none,(some (16,true))⟩,
  (op 22 .pick [.t 16,.t 21,.c (.bool false)])] [14,15,16,17,18,19,20,21]) <|
  .cond (.t 22) (.seq (.reg false [] [
  (mv 23 4),
  (op 24 (.fa 2) [.t 6]),
  ⟨(some 25),(.ld false 1),[.t 24],(.lo 6),none,none⟩,
  ⟨none,(.mup [0]),[.t 23,.t 25,.c (.bool true)],.sh,none,none⟩] [23,24,25]) <|
  .reg false [] [
  ⟨(some 26),.mvo,[.t 3],.none,(some 3),none⟩,
  (op 27 (.fa 2) [.t 6]),
  ⟨(some 28),(.ld false 1),[.t 27],(.lo 6),none,none⟩,
  (op 29 (.mks 1 [.int .i64 0] 1 [0]) [.t 28]),
  ⟨(some 30),(.app false 1 8),[.t 26,.t 29],.none,(some 26),none⟩,
  ⟨(some 3),.mvo,[.t 30],.none,(some 30),none⟩] [26,27,28,29,30,6])
  (.skip))) <|
  .reg false [] [
  (op 31 (.bin .add) [.t 10,.c (.int .i64 1)]),
  (mv 10 31)] [31])
def F104:AFun:=
{nargs:=1,keep:=false,res:=[.tmp 2],body:=
  .seq (.reg false [] [(op 2 .mv [.c (.sl .full 1 [])])] [2]) <|
  .seq (.reg false [] [(op 3 .mv [.c (.sl .full 1 [])])] []) <|
  .seq (.reg false [] [
  ⟨(some 7),.mkm,[],.sh,none,none⟩,
  (mv 4 7)] [7]) <|
  .seq (.seq (.reg false [] [
  (mv 8 0),
  (op 9 (.len false) [.t 8]),
  (op 10 .mv [.c (.int .i64 0)])] [0]) <|
  .block 0 (L104_0)) <|
  .seq (.reg false [] [
  (mv 32 3),
  ⟨(some 2),.mvo,[.t 32],.none,(some 32),none⟩] [32,3]) <|
  .ret }

/- slices.Contains[[]int,int] -/
def F105:AFun:=
{nargs:=2,keep:=false,res:=[.tmp 4],body:=
  .seq (.reg false [] [(op 4 .mv [.c (.bool false)])] [4]) <|
  .seq (.reg false [] [
  (mv 5 0),
  (mv 6 1),
  (op 7 (.call 146) [.t 5,.t 6]),
  (op 8 (.bin .geq) [.t 7,.c (.int .i64 0)]),
  (mv 4 8)] [5,6,7,8,0,1]) <|
  .ret }

/- bitext/item.Rename -/
def L106_0:ACode:=
  .loop [21,22,25,26,27,28,29,30,31,32,33,23,24] (.seq (.seq (.reg false [] [
  (mv 21 8),
  (op 22 (.bin .geq) [.t 21,.c (.int .i64 0)])] [21]) <|
  .cond (.t 22) (.skip)
  (.exit 0)) <|
  .seq (.block 1 (.reg true [] [
  (mv 25 7),
  (mv 26 1),
  (mv 27 8),
  (op 28 (.ia 1) [.t 26,.t 27]),
  (op 29 (.ld false 1) [.t 28]),
  (mv 30 2),
  (mv 31 8),
  (op 32 (.ia 1) [.t 30,.t 31]),
  (op 33 (.ld false 1) [.t 32]),
  ⟨none,(.mup [0]),[.t 25,.t 29,.t 33],.sh,none,none⟩] [25,26,27,28,29,30,31,32,33])) <|
  .reg false [] [
  (mv 23 8),
  (op 24 (.bin .sub) [.t 23,.c (.int .i64 1)]),
  (mv 8 24)] [23,24])
def L106_1:ACode:=
  .loop [37,38,39,11,40,41,43,44,45,46,42,47,48,12,13,49,50,51,52,53,54,55,56,57] (.seq (.reg false [] [(op 37 (.bin .lss) [.t 36,.t 35])] []) <|
  .seq (.cond (.t 37) (.skip)
  (.exit 2)) <|
  .seq (.block 3 (.seq (.reg false [11] [
  (op 38 (.ia 3) [.t 34,.t 36]),
  (op 39 (.ld true 3) [.t 38]),
  ⟨(some 11),(.alloc [.int .i64 0,.str [],.int .i64 0]),[],(.lo 11),none,none⟩,
  ⟨none,(.st 3),[.t 11,.t 39],(.lo 11),none,none⟩] [38,39]) <|
  .seq (.seq (.reg false [] [
  ⟨(some 40),(.ld true 3),[.t 11],(.lo 11),none,none⟩,
  (op 41 (.call 102) [.t 40])] [40]) <|
  .cond (.t 41) (.seq (.reg false [] [
  (mv 43 7),
  (op 44 (.fa 2) [.t 11]),
  ⟨(some 45),(.ld false 1),[.t 44],(.lo 11),none,none⟩,
  ⟨(some 46),(.lkp true false [0] [.int .i64 0]),[.t 43,.t 45],.sh,none,none⟩,
  (mv 42 46),
  (op 47 (.ext 0) [.t 42]),
  (op 48 (.ext 1) [.t 42]),
  (mv 12 47),
  (mv 13 48)] [43,44,45,46,42,47,48]) <|
  .seq (.seq (.reg false [] [
  (mv 49 13),
  (op 50 (.un .not) [.t 49])] [49,13]) <|
  .cond (.t 50) (.exit 3)
  (.skip)) <|
  .reg false [] [
  (mv 51 12),
  (op 52 (.fa 2) [.t 11]),
  ⟨none,(.st 1),[.t 52,.t 51],(.lo 11),none,none⟩] [51,52,12])
  (.skip)) <|
  .reg false [] [
  ⟨(some 53),.mvo,[.t 9],.none,(some 9),none⟩,
  ⟨(some 54),(.ld true 3),[.t 11],(.lo 11),none,none⟩,
  (op 55 (.mks 3 [.int .i64 0,.str [],.int .i64 0] 1 [0]) [.t 54]),
  ⟨(some 56),(.app false 3 32),[.t 53,.t 55],.none,(some 53),none⟩,
  ⟨(some 9),.mvo,[.t 56],.none,(some 56),none⟩] [53,54,55,56,11])) <|
  .reg false [] [
  (op 57 (.bin .add) [.t 36,.c (.int .i64 1)]),
  (mv 36 57)] [57])
def F106:AFun:=
{nargs:=3,keep:=false,res:=[.tmp 6],body:=
  .seq (.reg false [] [(op 6 .mv [.c (.sl .full 3 [])])] [6]) <|
  .seq (.reg false [] [
  ⟨(some 14),.mkm,[],.sh,none,none⟩,
  (mv 7 14)] [14]) <|
  .seq (.seq (.reg false [] [
  (mv 15 1),
  (op 16 (.len false) [.t 15]),
  (mv 17 2),
  (op 18 (.len false) [.t 17]),
  (op 19 (.mm false) [.t 16,.t 18]),
  (op 20 (.bin .sub) [.t 19,.c (.int .i64 1)]),
  (mv 8 20)] [15,16,17,18,19,20]) <|
  .block 0 (L106_0)) <|
  .seq (.reg false [] [(op 9 .mv [.c (.sl .full 3 [])])] []) <|
  .seq (.seq (.reg false [] [
  (mv 34 0),
  (op 35 (.len false) [.t 34]),
  (op 36 .mv [.c (.int .i64 0)])] [0]) <|
  .block 2 (L106_1)) <|
  .seq (.reg false [] [
  (mv 58 9),
  (op 59 (.call 147) [.t 58]),
  ⟨(some 6),.mvo,[.t 59],.none,(some 59),none⟩] [58,59,9]) <|
  .ret }

/- bitext/item.counting -/
def L107_0:ACode:=
  .loop [10,11,4,12,13,14,15,16,17] (.seq (.reg false [] [(op 10 (.bin .lss) [.t 9,.t 8])] []) <|
  .seq (.cond (.t 10) (.skip)
  (.exit 0)) <|
  .seq (.block 1 (.seq (.reg false [] [
  (mv 11 9),
  (mv 4 11)] [11]) <|
  .reg false [] [
  (mv 12 3),
  (mv 13 4),
  (mv 14 4),
  (op 15 (.bin .add) [.t 14,.c (.int .i64 1)]),
  (op 16 (.ia 1) [.t 12,.t 13]),
  ⟨none,(.st 1),[.t 16,.t 15],.sh,none,none⟩] [12,13,14,15,16,4])) <|
  .reg false [] [
  (op 17 (.bin .add) [.t 9,.c (.int .i64 1)]),
  (mv 9 17)] [17])
def F107:AFun:=
{nargs:=1,keep:=false,res:=[.tmp 2],body:=
  .seq (.reg false [] [(op 2 .mv [.c (.sl .full 1 [])])] [2]) <|
  .seq (.reg false [] [
  (mv 5 0),
  ⟨(some 6),(.mkl 1 [.int .i64 0] 8),[.t 5,.t 5],.sh,none,none⟩,
  ⟨(some 3),.mvo,[.t 6],.none,(some 6),none⟩] [5,6,0]) <|
  .seq (.seq (.reg false [] [
  (mv 7 3),
  (op 8 (.len false) [.t 7]),
  (op 9 .mv [.c (.int .i64 0)])] [7]) <|
  .block 0 (L107_0)) <|
  .seq (.reg false [] [
  (mv 18 3),
  ⟨(some 2),.mvo,[.t 18],.none,(some 18),none⟩] [18,3]) <|
  .ret }

/- slices.Equal[[]bitext/api.Item,bitext/api.Item] -/
def L108_0:ACode:=
  .loop [14,15,5,16,17,18,19,20,21,22,23,24,4,25] (.seq (.reg false [] [(op 14 (.bin .lss) [.t 13,.t 12])] []) <|
  .seq (.cond (.t 14) (.skip)
  (.exit 0)) <|
  .seq (.block 1 (.seq (.reg false [] [
  (mv 15 13),
  (mv 5 15)] [15]) <|
  .seq (.reg true [] [
  (mv 16 0),
  (mv 17 5),
  (op 18 (.ia 3) [.t 16,.t 17]),
  (op 19 (.ld true 3) [.t 18]),
  (mv 20 1),
  (mv 21 5),
  (op 22 (.ia 3) [.t 20,.t 21]),
  (op 23 (.ld true 3) [.t 22]),
  (op 24 (.seq true [0,2,0]) [.t 19,.t 23])] [16,17,18,19,20,21,22,23,5]) <|
  .cond (.t 24) (.seq (.reg false [] [(op 4 .mv [.c (.bool false)])] []) <|
  .ret)
  (.skip))) <|
  .reg false [] [
  (op 25 (.bin .add) [.t 13,.c (.int .i64 1)]),
  (mv 13 25)] [25])
def F108:AFun:=
{nargs:=2,keep:=false,res:=[.tmp 4],body:=
  .seq (.reg false [] [(op 4 .mv [.c (.bool false)])] [4]) <|
  .seq (.seq (.reg false [] [
  (mv 6 0),
  (op 7 (.len false) [.t 6]),
  (mv 8 1),
  (op 9 (.len false) [.t 8]),
  (op 10 (.bin .neq) [.t 7,.t 9])] [6,7,8,9]) <|
  .cond (.t 10) (.seq (.reg false [] [(op 4 .mv [.c (.bool false)])] []) <|
  .ret)
  (.skip)) <|
  .seq (.seq (.reg false [] [
  (mv 11 0),
  (op 12 (.len false) [.t 11]),
  (op 13 .mv [.c (.int .i64 0)])] [11]) <|
  .block 0 (L108_0)) <|
  .seq (.reg false [] [(op 4 .mv [.c (.bool true)])] []) <|
  .ret }

/- bitext/notation.element -/
def F109:AFun:=
{nargs:=1,keep:=false,res:=[.cell 2 true 3,.tmp 3,.tmp 4],body:=
  .seq (.reg false [2] [
  ⟨(some 2),(.alloc [.int .i64 0,.str [],.int .i64 0]),[],(.lo 2),none,none⟩,
  (op 3 .mv [.c (.int .i64 0)]),
  (op 4 .mv [.c (.bool false)])] [3,4]) <|
  .seq (.block 0 (.seq (.reg false [] [
  (mv 13 0),
  (op 14 .ixs [.t 13,.c (.int .i64 0)]),
  (op 15 (.bin .eql) [.t 14,.c (.int .u8 92)]),
  (mv 12 15)] [13,14,15]) <|
  .cond (.t 12) (.seq (.reg false [] [
  (mv 17 0),
  (op 18 (.call 148) [.t 17]),
  (mv 16 18),
  (op 19 (.ext 0) [.t 16]),
  (op 20 (.ext 1) [.t 16]),
  (op 21 (.ext 2) [.t 16]),
  (mv 5 19),
  (mv 6 20),
  (mv 7 21)] [17,18,16,19,20,21,0]) <|
  .seq (.reg false [] [
  (mv 22 5),
  (op 23 (.mks 1 [.int .u8 0] 1 [0]) [.t 22]),
  (op 24 .b2s [.t 23]),
  (op 25 (.build [.int .i64 0,.str [],.int .i64 0] [(0,1),(1,1)]) [.c (.int .i64 1),.t 24]),
  (mv 26 6),
  (mv 27 7),
  ⟨none,(.st 3),[.t 2,.t 25],(.lo 2),none,none⟩,
  (mv 3 26),
  (mv 4 27)] [22,23,24,25,26,27,5,6,7]) <|
  .ret)
  (.seq (.reg false [] [
  (mv 29 0),
  (op 30 .ixs [.t 29,.c (.int .i64 0)]),
  (op 31 (.bin .eql) [.t 30,.c (.int .u8 60)]),
  (mv 28 31)] [29,30,31]) <|
  .cond (.t 28) (.seq (.reg false [] [
  (mv 32 0),
  (op 33 (.call 149) [.t 32,.c (.int .u8 62)]),
  (mv 8 33)] [32,33]) <|
  .seq (.seq (.reg false [] [
  (mv 34 8),
  (op 35 (.bin .lss) [.t 34,.c (.int .i64 0)])] [34]) <|
  .cond (.t 35) (.seq (.reg false [] [
  (op 36 (.build [.int .i64 0,.str [],.int .i64 0] []) []),
  ⟨none,(.st 3),[.t 2,.t 36],(.lo 2),none,none⟩,
  (op 3 .mv [.c (.int .i64 0)]),
  (op 4 .mv [.c (.bool false)])] [36]) <|
  .ret)
  (.skip)) <|
  .seq (.reg false [9] [
  (mv 38 0),
  (mv 39 8),
  (op 40 (.slc true 0 true true) [.t 38,.c (.int .i64 1),.t 39]),
  (op 41 (.call 150) [.t 40]),
  (mv 37 41),
  (op 42 (.ext 0) [.t 37]),
  (op 43 (.ext 1) [.t 37]),
  ⟨(some 9),(.alloc [.int .i64 0,.str [],.int .i64 0]),[],(.lo 9),none,none⟩,
  ⟨none,(.st 3),[.t 9,.t 42],(.lo 9),none,none⟩,
  (mv 10 43)] [38,39,40,41,37,42,43,0]) <|
  .seq (.reg false [] [
  ⟨(some 44),(.ld true 3),[.t 9],(.lo 9),none,none⟩,
  (mv 45 8),
  (op 46 (.bin .add) [.t 45,.c (.int .i64 1)]),
  (mv 47 10),
  ⟨none,(.st 3),[.t 2,.t 44],(.lo 2),none,none⟩,
  (mv 3 46),
  (mv 4 47)] [44,45,46,47,9,8,10]) <|
  .ret)
  (.seq (.reg false [] [
  (mv 49 0),
  (op 50 .ixs [.t 49,.c (.int .i64 0)]),
  (op 51 (.bin .eql) [.t 50,.c (.int .u8 123)]),
  (mv 48 51)] [49,50,51]) <|
  .cond (.t 48) (.seq (.reg false [] [
  (mv 52 0),
  (op 53 (.call 149) [.t 52,.c (.int .u8 125)]),
  (mv 11 53)] [52,53]) <|
  .seq (.seq (.reg false [] [
  (mv 54 11),
  (op 55 (.bin .lss) [.t 54,.c (.int .i64 0)]),
  (mv 56 55),
  ⟨(some 57),.mv,[.t 0],.none,none,(some (56,false))⟩,
  ⟨(some 58),.mv,[.t 11],.none,none,(some (56,false))⟩,
  ⟨(some 59),(.slc true 0 true true),[.t 57,.c (.int .i64 1),.t 58],.none,none,(some (56,false))⟩,
  ⟨(some 60),(.call 63),[.t 59],.none,none,(some (56,false))⟩,
  ⟨(some 61),(.un .not),[.t 60],.none,none,(some (56,false))⟩,
  (op 62 .pick [.t 56,.c (.bool true),.t 61])] [54,55,56,57,58,59,60,61]) <|
  .cond (.t 62) (.seq (.reg false [] [
  (op 63 (.build [.int .i64 0,.str [],.int .i64 0] []) []),
  ⟨none,(.st 3),[.t 2,.t 63],(.lo 2),none,none⟩,
  (op 3 .mv [.c (.int .i64 0)]),
  (op 4 .mv [.c (.bool false)])] [63]) <|
  .ret)
  (.skip)) <|
  .seq (.reg false [] [
  (mv 64 0),
  (mv 65 11),
  (op 66 (.slc true 0 true true) [.t 64,.c (.int .i64 1),.t 65]),
  (op 67 (.build [.int .i64 0,.str [],.int .i64 0] [(0,1),(1,1)]) [.c (.int .i64 5),.t 66]),
  (mv 68 11),
  (op 69 (.bin .add) [.t 68,.c (.int .i64 1)]),
  ⟨none,(.st 3),[.t 2,.t 67],(.lo 2),none,none⟩,
  (mv 3 69),
  (op 4 .mv [.c (.bool true)])] [64,65,66,67,68,69,0,11]) <|
  .ret)
  (.skip))))) <|
  .seq (.reg true [] [
  (mv 70 0),
  (op 71 (.slc true 0 false true) [.t 70,.c (.int .i64 1)]),
  (op 72 (.build [.int .i64 0,.str [],.int .i64 0] [(0,1),(1,1)]) [.c (.int .i64 1),.t 71]),
  (mv 73 0),
  (op 74 .ixs [.t 73,.c (.int .i64 0)]),
  (op 75 (.call 151) [.t 74]),
  ⟨none,(.st 3),[.t 2,.t 72],(.lo 2),none,none⟩,
  (op 3 .mv [.c (.int .i64 1)]),
  (mv 4 75)] [70,71,72,73,74,75,0]) <|
  .ret }

/- (*bitext/notation.reader).add -/
def F110:AFun:=
{nargs:=2,keep:=false,res:=[.tmp 4],body:=
  .seq (.reg false [3] [
  ⟨(some 3),(.box 3),[.t 1],(.lo 3),none,none⟩,
  (op 4 .mv [.c (.int .i64 0)])] [4,1]) <|
  .seq (.reg false [] [
  (op 9 (.fa 0) [.t 3]),
  ⟨(some 10),(.ld false 1),[.t 9],(.lo 3),none,none⟩,
  (op 11 (.bin .neq) [.t 10,.c (.int .i64 1)]),
  (mv 12 11),
  ⟨(some 13),(.fa 0),[.t 3],.none,none,(some (12,true))⟩,
  ⟨(some 14),(.ld false 1),[.t 13],(.lo 3),none,(some (12,true))⟩,
  ⟨(some 15),(.bin .neq),[.t 14,.c (.int .i64 5)],.none,none,(some (12,true))⟩,
  (op 16 .pick [.t 12,.t 15,.c (.bool false)]),
  (mv 5 16)] [9,10,11,12,13,14,15,16]) <|
  .seq (.seq (.reg false [] [(mv 17 5)] []) <|
  .cond (.t 17) (.seq (.reg true [6] [
  (mv 19 0),
  (op 20 .nilc [.t 19]),
  (op 21 (.fa 3) [.t 20]),
  ⟨(some 22),(.ld false 1),[.t 21],.sh,none,none⟩,
  (op 23 (.fa 2) [.t 3]),
  ⟨(some 24),(.ld false 1),[.t 23],(.lo 3),none,none⟩,
  ⟨(some 25),(.lkp true true [0] [.int .i64 0,.str [],.int .i64 0]),[.t 22,.t 24],.sh,none,none⟩,
  (mv 18 25),
  (op 26 (.ext 0) [.t 18]),
  (op 27 (.ext 1) [.t 18]),
  ⟨(some 6),(.alloc [.int .i64 0,.str [],.int .i64 0]),[],(.lo 6),none,none⟩,
  ⟨none,(.st 3),[.t 6,.t 26],(.lo 6),none,none⟩,
  (mv 7 27)] [19,20,21,22,23,24,25,18,26,27]) <|
  .seq (.reg true [] [
  (mv 28 7),
  (mv 29 28),
  ⟨(some 30),(.fa 0),[.t 3],.none,none,(some (29,true))⟩,
  ⟨(some 31),(.ld false 1),[.t 30],(.lo 3),none,(some (29,true))⟩,
  ⟨(some 32),(.bin .neq),[.t 31,.c (.int .i64 3)],.none,none,(some (29,true))⟩,
  ⟨(some 33),.mv,[.t 32],.none,none,(some (29,true))⟩,
  ⟨(some 34),(.fa 0),[.t 6],.none,none,(some (33,false))⟩,
  ⟨(some 35),(.ld false 1),[.t 34],(.lo 6),none,(some (33,false))⟩,
  ⟨(some 36),(.bin .neq),[.t 35,.c (.int .i64 2)],.none,none,(some (33,false))⟩,
  ⟨(some 37),.pick,[.t 33,.c (.bool true),.t 36],.none,none,(some (29,true))⟩,
  ⟨(some 38),.mv,[.t 37],.none,none,(some (29,true))⟩,
  ⟨(some 39),(.fa 1),[.t 6],.none,none,(some (38,false))⟩,
  ⟨(some 40),(.ld false 1),[.t 39],(.lo 6),none,(some (38,false))⟩,
  ⟨(some 41),(.call 152),[.t 40],.none,none,(some (38,false))⟩,
  ⟨(some 42),(.fa 1),[.t 3],.none,none,(some (38,false))⟩,
  ⟨(some 43),(.ld false 1),[.t 42],(.lo 3),none,(some (38,false))⟩,
  ⟨(some 44),(.bin .neq),[.t 41,.t 43],.none,none,(some (38,false))⟩,
  ⟨(some 45),.pick,[.t 38,.c (.bool true),.t 44],.none,none,(some (29,true))⟩,
  (op 46 .pick [.t 29,.t 45,.c (.bool false)])] [28,29,30,31,32,33,34,35,36,37,38,39,40,41,42,43,44,45,7,6]) <|
  .cond (.t 46) (.seq (.reg false [] [(op 4 .mv [.c (.int .i64 7)])] []) <|
  .ret)
  (.skip))
  (.skip)) <|
  .seq (.reg false [] [
  (mv 47 0),
  (op 48 .nilc [.t 47]),
  (op 49 (.fa 0) [.t 48]),
  ⟨(some 50),(.ld false 1),[.t 49],.sh,none,none⟩,
  (op 51 (.len false) [.t 50]),
  (mv 8 51)] [47,48,49,50,51]) <|
  .seq (.seq (.reg false [] [
  (mv 52 0),
  (op 53 .nilc [.t 52]),
  (op 54 (.fa 1) [.t 53]),
  ⟨(some 55),(.ld false 1),[.t 54],.sh,none,none⟩,
  (op 56 (.len false) [.t 55]),
  (op 57 (.bin .gtr) [.t 56,.c (.int .i64 0)])] [52,53,54,55,56]) <|
  .cond (.t 57) (.reg false [] [
  (mv 58 8),
  (op 59 (.bin .add) [.t 58,.c (.int .i64 1)]),
  (mv 8 59)] [58,59])
  (.skip)) <|
  .seq (.seq (.reg false [] [
  (op 60 (.fa 0) [.t 3]),
  ⟨(some 61),(.ld false 1),[.t 60],(.lo 3),none,none⟩,
  (op 62 (.bin .neq) [.t 61,.c (.int .i64 1)]),
  (mv 63 62),
  ⟨(some 64),.mv,[.t 0],.none,none,(some (63,false))⟩,
  ⟨(some 65),.nilc,[.t 64],.none,none,(some (63,false))⟩,
  ⟨(some 66),(.fa 1),[.t 65],.none,none,(some (63,false))⟩,
  ⟨(some 67),(.ld false 1),[.t 66],.sh,none,(some (63,false))⟩,
  ⟨(some 68),(.len false),[.t 67],.none,none,(some (63,false))⟩,
  ⟨(some 69),(.bin .eql),[.t 68,.c (.int .i64 0)],.none,none,(some (63,false))⟩,
  (op 70 .pick [.t 63,.c (.bool true),.t 69])] [60,61,62,63,64,65,66,67,68,69]) <|
  .cond (.t 70) (.reg false [] [
  (mv 71 8),
  (op 72 (.bin .add) [.t 71,.c (.int .i64 1)]),
  (mv 8 72)] [71,72])
  (.skip)) <|
  .seq (.seq (.reg false [] [
  (mv 73 8),
  (op 74 (.bin .gtr) [.t 73,.c (.int .i64 512)]),
  (mv 75 74),
  ⟨(some 76),.mv,[.t 0],.none,none,(some (75,false))⟩,
  ⟨(some 77),.nilc,[.t 76],.none,none,(some (75,false))⟩,
  ⟨(some 78),(.fa 2),[.t 77],.none,none,(some (75,false))⟩,
  ⟨(some 79),(.ld false 1),[.t 78],.sh,none,(some (75,false))⟩,
  ⟨(some 80),(.bin .add),[.t 79,.c (.int .i64 1)],.none,none,(some (75,false))⟩,
  ⟨(some 81),(.bin .gtr),[.t 80,.c (.int .i64 1024)],.none,none,(some (75,false))⟩,
  (op 82 .pick [.t 75,.c (.bool true),.t 81])] [73,74,75,76,77,78,79,80,81,8]) <|
  .cond (.t 82) (.seq (.reg false [] [(op 4 .mv [.c (.int .i64 3)])] []) <|
  .ret)
  (.skip)) <|
  .seq (.reg false [] [
  (mv 83 0),
  (op 84 .nilc [.t 83]),
  (op 85 (.fa 2) [.t 84]),
  ⟨(some 86),(.ld false 1),[.t 85],.sh,none,none⟩,
  (op 87 (.bin .add) [.t 86,.c (.int .i64 1)]),
  (op 88 .nilc [.t 83]),
  (op 89 (.fa 2) [.t 88]),
  ⟨none,(.st 1),[.t 89,.t 87],.sh,none,none⟩] [83,84,85,86,87,88,89]) <|
  .seq (.seq (.reg false [] [
  (op 90 (.fa 0) [.t 3]),
  ⟨(some 91),(.ld false 1),[.t 90],(.lo 3),none,none⟩,
  (op 92 (.bin .eql) [.t 91,.c (.int .i64 1)])] [90,91]) <|
  .cond (.t 92) (.seq (.reg true [] [
  (mv 93 0),
  (mv 94 0),
  (op 95 .nilc [.t 94]),
  (op 96 (.fa 1) [.t 95]),
  ⟨(some 97),.ldo,[.t 96],.sh,none,none⟩,
  (op 98 (.fa 1) [.t 3]),
  ⟨(some 99),(.ld false 1),[.t 98],(.lo 3),none,none⟩,
  ⟨(some 100),(.app true 1 1),[.t 97,.t 99],.none,(some 97),none⟩,
  (op 101 .nilc [.t 93]),
  (op 102 (.fa 1) [.t 101]),
  ⟨none,.sto,[.t 102,.t 100],.sh,(some 100),none⟩] [93,94,95,96,97,98,99,100,101,102,0,3]) <|
  .seq (.reg false [] [(op 4 .mv [.c (.int .i64 0)])] []) <|
  .ret)
  (.skip)) <|
  .seq (.seq (.reg false [] [(mv 103 5)] [5]) <|
  .cond (.t 103) (.reg true [] [
  (mv 104 0),
  (op 105 .nilc [.t 104]),
  (op 106 (.fa 3) [.t 105]),
  ⟨(some 107),(.ld false 1),[.t 106],.sh,none,none⟩,
  (op 108 (.fa 2) [.t 3]),
  ⟨(some 109),(.ld false 1),[.t 108],(.lo 3),none,none⟩,
  ⟨(some 110),(.ld true 3),[.t 3],(.lo 3),none,none⟩,
  ⟨none,(.mup [0]),[.t 107,.t 109,.t 110],.sh,none,none⟩] [104,105,106,107,108,109,110])
  (.skip)) <|
  .seq (.reg false [] [
  (mv 111 0),
  ⟨(some 112),(.call 111),[.t 111],.sh,none,none⟩] [111,112]) <|
  .seq (.reg true [] [
  (mv 113 0),
  (mv 114 0),
  (op 115 .nilc [.t 114]),
  (op 116 (.fa 0) [.t 115]),
  ⟨(some 117),.ldo,[.t 116],.sh,none,none⟩,
  ⟨(some 118),(.ld true 3),[.t 3],(.lo 3),none,none⟩,
  (op 119 (.mks 3 [.int .i64 0,.str [],.int .i64 0] 1 [0]) [.t 118]),
  ⟨(some 120),(.app false 3 32),[.t 117,.t 119],.none,(some 117),none⟩,
  (op 121 .nilc [.t 113]),
  (op 122 (.fa 0) [.t 121]),
  ⟨none,.sto,[.t 122,.t 120],.sh,(some 120),none⟩] [113,114,115,116,117,118,119,120,121,122,0,3]) <|
  .seq (.reg false [] [(op 4 .mv [.c (.int .i64 0)])] []) <|
  .ret }

/- (*bitext/notation.reader).flush -/
def F111:AFun:=
{nargs:=1,keep:=false,res:=[],body:=
  .seq (.reg false [] [
  (mv 2 0),
  (op 3 .nilc [.t 2]),
  (op 4 (.fa 1) [.t 3]),
  ⟨(some 5),(.ld false 1),[.t 4],.sh,none,none⟩,
  (op 6 (.len false) [.t 5]),
  (op 7 (.bin .gtr) [.t 6,.c (.int .i64 0)])] [2,3,4,5,6]) <|
  .cond (.t 7) (.seq (.reg true [] [
  (mv 8 0),
  (mv 9 0),
  (op 10 .nilc [.t 9]),
  (op 11 (.fa 0) [.t 10]),
  ⟨(some 12),.ldo,[.t 11],.sh,none,none⟩,
  (mv 13 0),
  (op 14 .nilc [.t 13]),
  (op 15 (.fa 1) [.t 14]),
  ⟨(some 16),(.ld false 1),[.t 15],.sh,none,none⟩,
  (op 17 .b2s [.t 16]),
  (op 18 (.build [.int .i64 0,.str [],.int .i64 0] [(0,1),(1,1)]) [.c (.int .i64 1),.t 17]),
  (op 19 (.mks 3 [.int .i64 0,.str [],.int .i64 0] 1 [0]) [.t 18]),
  ⟨(some 20),(.app false 3 32),[.t 12,.t 19],.none,(some 12),none⟩,
  (op 21 .nilc [.t 8]),
  (op 22 (.fa 0) [.t 21]),
  ⟨none,.sto,[.t 22,.t 20],.sh,(some 20),none⟩] [8,9,10,11,12,13,14,15,16,17,18,19,20,21,22]) <|
  .reg false [] [
  (mv 23 0),
  (op 24 .nilc [.t 23]),
  (op 25 (.fa 1) [.t 24]),
  ⟨none,.sto,[.t 25,.c (.sl .full 1 [])],.sh,none,none⟩] [23,24,25,0])
  (.skip) }

/- cmp.Less[string] -/
def F113:AFun:=
{nargs:=2,keep:=false,res:=[.tmp 4],body:=
  .seq (.reg false [] [(op 4 .mv [.c (.bool false)])] [4]) <|
  .seq (.reg false [] [
  (mv 5 0),
  (op 6 (.call 128) [.t 5]),
  (mv 7 6),
  ⟨(some 8),.mv,[.t 1],.none,none,(some (7,true))⟩,
  ⟨(some 9),(.call 128),[.t 8],.none,none,(some (7,true))⟩,
  ⟨(some 10),(.un .not),[.t 9],.none,none,(some (7,true))⟩,
  (op 11 .pick [.t 7,.t 10,.c (.bool false)]),
  (mv 12 11),
  ⟨(some 13),.mv,[.t 0],.none,none,(some (12,false))⟩,
  ⟨(some 14),.mv,[.t 1],.none,none,(some (12,false))⟩,
  ⟨(some 15),(.bin .lss),[.t 13,.t 14],.none,none,(some (12,false))⟩,
  (op 16 .pick [.t 12,.c (.bool true),.t 15]),
  (mv 4 16)] [5,6,7,8,9,10,11,12,13,14,15,16,0,1]) <|
  .ret }

/- slices.isNaN[string] -/
def F114:AFun:=
{nargs:=1,keep:=false,res:=[.tmp 2],body:=
  .seq (.reg false [] [(op 2 .mv [.c (.bool false)])] [2]) <|
  .seq (.reg false [] [
  (mv 3 0),
  (mv 4 0),
  (op 5 (.bin .neq) [.t 3,.t 4]),
  (mv 2 5)] [3,4,5,0]) <|
  .ret }

/- sort.Search -/
def L117_0:ACode:=
  .loop [9,10,11,12,13,14,15,16,17,7,18,19,20,21,22,23,24] (.seq (.seq (.reg false [] [
  (mv 9 5),
  (mv 10 6),
  (op 11 (.bin .lss) [.t 9,.t 10])] [9,10]) <|
  .cond (.t 11) (.skip)
  (.exit 0)) <|
  .block 1 (.seq (.reg false [] [
  (mv 12 5),
  (mv 13 6),
  (op 14 (.bin .add) [.t 12,.t 13]),
  (op 15 (.cvi .u64) [.t 14]),
  (op 16 (.shf false) [.t 15,.c (.int .u64 1)]),
  (op 17 (.cvi .i64) [.t 16]),
  (mv 7 17)] [12,13,14,15,16,17]) <|
  .seq (.reg false [] [
  (mv 18 1),
  (mv 19 7),
  ⟨(some 20),.callv,[.t 18,.t 19],.sh,none,none⟩,
  (op 21 (.un .not) [.t 20])] [18,19,20]) <|
  .cond (.t 21) (.reg false [] [
  (mv 22 7),
  (op 23 (.bin .add) [.t 22,.c (.int .i64 1)]),
  (mv 5 23)] [22,23,7])
  (.reg false [] [
  (mv 24 7),
  (mv 6 24)] [24,7])))
def F117:AFun:=
{nargs:=2,keep:=false,res:=[.tmp 4],body:=
  .seq (.reg false [] [(op 4 .mv [.c (.int .i64 0)])] [4]) <|
  .seq (.reg false [] [
  (mv 8 0),
  (op 5 .mv [.c (.int .i64 0)]),
  (mv 6 8)] [8,0]) <|
  .seq (.block 0 (L117_0)) <|
  .seq (.reg false [] [
  (mv 25 5),
  (mv 4 25)] [25,5]) <|
  .ret }

/- sort.SearchStrings$1 -/
def F118:AFun:=
{nargs:=3,keep:=false,res:=[.tmp 4],body:=
  .seq (.reg false [] [(op 4 .mv [.c (.bool false)])] [4]) <|
  .seq (.reg true [] [
  ⟨(some 5),(.ld false 1),[.t 1],.sh,none,none⟩,
  (mv 6 0),
  (op 7 (.ia 1) [.t 5,.t 6]),
  (op 8 (.ld false 1) [.t 7]),
  ⟨(some 9),(.ld false 1),[.t 2],.sh,none,none⟩,
  (op 10 (.bin .geq) [.t 8,.t 9]),
  (mv 4 10)] [5,6,7,8,9,10,1,0,2]) <|
  .ret }

/- bitext/bitextref3.Numbers -/
def L121_0:ACode:=
  .loop [8,9,4,10,11,12,13,14,15,16,17,18,19,20,21,22,23,24,25,26,27,28,29,30,31,32,33] (.seq (.reg false [] [(op 8 (.bin .lss) [.t 7,.t 6])] []) <|
  .seq (.cond (.t 8) (.skip)
  (.exit 0)) <|
  .seq (.block 1 (.seq (.reg false [] [
  (mv 9 7),
  (mv 4 9)] [9]) <|
  .seq (.reg false [] [
  (mv 10 0),
  (mv 11 4),
  (op 12 (.ia 3) [.t 10,.t 11]),
  (op 13 (.ld true 3) [.t 12]),
  (op 14 (.call 157) [.t 13]),
  (mv 15 14),
  ⟨(some 16),.mv,[.t 3],.none,none,(some (15,true))⟩,
  ⟨(some 17),.mv,[.t 0],.none,none,(some (15,true))⟩,
  ⟨(some 18),.mv,[.t 4],.none,none,(some (15,true))⟩,
  ⟨(some 19),(.ia 3),[.t 17,.t 18],.none,none,(some (15,true))⟩,
  ⟨(some 20),(.fa 2),[.t 19],.none,none,(some (15,true))⟩,
  ⟨(some 21),(.ld false 1),[.t 20],.none,none,(some (15,true))⟩,
  ⟨(some 22),(.call 158),[.t 16,.t 21],.none,none,(some (15,true))⟩,
  ⟨(some 23),(.un .not),[.t 22],.none,none,(some (15,true))⟩,
  (op 24 .pick [.t 15,.t 23,.c (.bool false)])] [10,11,12,13,14,15,16,17,18,19,20,21,22,23]) <|
  .cond (.t 24) (.reg false [] [
  ⟨(some 25),.mvo,[.t 3],.none,(some 3),none⟩,
  (mv 26 0),
  (mv 27 4),
  (op 28 (.ia 3) [.t 26,.t 27]),
  (op 29 (.fa 2) [.t 28]),
  (op 30 (.ld false 1) [.t 29]),
  (op 31 (.mks 1 [.int .i64 0] 1 [0]) [.t 30]),
  ⟨(some 32),(.app false 1 8),[.t 25,.t 31],.none,(some 25),none⟩,
  ⟨(some 3),.mvo,[.t 32],.none,(some 32),none⟩] [25,26,27,28,29,30,31,32,4])
  (.skip))) <|
  .reg false [] [
  (op 33 (.bin .add) [.t 7,.c (.int .i64 1)]),
  (mv 7 33)] [33])
def F121:AFun:=
{nargs:=1,keep:=false,res:=[.tmp 2],body:=
  .seq (.reg false [] [(op 2 .mv [.c (.sl .full 1 [])])] [2]) <|
  .seq (.reg false [] [(op 3 .mv [.c (.sl .full 1 [])])] []) <|
  .seq (.seq (.reg false [] [
  (mv 5 0),
  (op 6 (.len false) [.t 5]),
  (op 7 .mv [.c (.int .i64 0)])] [5]) <|
  .block 0 (L121_0)) <|
  .seq (.reg false [] [
  (mv 34 3),
  ⟨(some 2),.mvo,[.t 34],.none,(some 34),none⟩] [34,3]) <|
  .ret }

/- bitext/bitextref3.upTo -/
def L122_0:ACode:=
  .loop [5,6,7,10,11,12,13,8,9] (.seq (.seq (.reg false [] [
  (mv 5 4),
  (mv 6 0),
  (op 7 (.bin .leq) [.t 5,.t 6])] [5,6]) <|
  .cond (.t 7) (.skip)
  (.exit 0)) <|
  .seq (.block 1 (.reg false [] [
  ⟨(some 10),.mvo,[.t 3],.none,(some 3),none⟩,
  (mv 11 4),
  (op 12 (.mks 1 [.int .i64 0] 1 [0]) [.t 11]),
  ⟨(some 13),(.app false 1 8),[.t 10,.t 12],.none,(some 10),none⟩,
  ⟨(some 3),.mvo,[.t 13],.none,(some 13),none⟩] [10,11,12,13])) <|
  .reg false [] [
  (mv 8 4),
  (op 9 (.bin .add) [.t 8,.c (.int .i64 1)]),
  (mv 4 9)] [8,9])
def F122:AFun:=
{nargs:=1,keep:=false,res:=[.tmp 2],body:=
  .seq (.reg false [] [(op 2 .mv [.c (.sl .full 1 [])])] [2]) <|
  .seq (.reg false [] [(op 3 .mv [.c (.sl .full 1 [])])] []) <|
  .seq (.seq (.reg false [] [(op 4 .mv [.c (.int .i64 1)])] []) <|
  .block 0 (L122_0)) <|
  .seq (.reg false [] [
  (mv 14 3),
  ⟨(some 2),.mvo,[.t 14],.none,(some 14),none⟩] [14,3]) <|
  .ret }

/- bitext/bitextref3.Rename -/
def L123_0:ACode:=
  .loop [27,28,29,30,31,32,33,34,35,36,39,40,41,42,43,44,45,46,47,48,49,50,51,52,53,54,55,56,57,37,38] (.seq (.seq (.reg false [] [
  (mv 27 10),
  (mv 28 1),
  (op 29 (.len false) [.t 28]),
  (op 30 (.bin .lss) [.t 27,.t 29]),
  (mv 31 30),
  ⟨(some 32),.mv,[.t 10],.none,none,(some (31,true))⟩,
  ⟨(some 33),.mv,[.t 2],.none,none,(some (31,true))⟩,
  ⟨(some 34),(.len false),[.t 33],.none,none,(some (31,true))⟩,
  ⟨(some 35),(.bin .lss),[.t 32,.t 34],.none,none,(some (31,true))⟩,
  (op 36 .pick [.t 31,.t 35,.c (.bool false)])] [27,28,29,30,31,32,33,34,35]) <|
  .cond (.t 36) (.skip)
  (.exit 2)) <|
  .seq (.block 3 (.seq (.reg true [] [
  (mv 39 1),
  (mv 40 10),
  (op 41 (.ia 1) [.t 39,.t 40]),
  (op 42 (.ld false 1) [.t 41]),
  (op 43 (.fa 2) [.t 9]),
  ⟨(some 44),(.ld false 1),[.t 43],(.lo 9),none,none⟩,
  (op 45 (.bin .eql) [.t 42,.t 44])] [39,40,41,42,43,44]) <|
  .cond (.t 45) (.seq (.reg true [] [
  ⟨(some 46),.mvo,[.t 7],.none,(some 7),none⟩,
  (op 47 (.fa 0) [.t 9]),
  ⟨(some 48),(.ld false 1),[.t 47],(.lo 9),none,none⟩,
  (op 49 (.fa 1) [.t 9]),
  ⟨(some 50),(.ld false 1),[.t 49],(.lo 9),none,none⟩,
  (mv 51 2),
  (mv 52 10),
  (op 53 (.ia 1) [.t 51,.t 52]),
  (op 54 (.ld false 1) [.t 53]),
  (op 55 (.build [.int .i64 0,.str [],.int .i64 0] [(0,1),(1,1),(2,1)]) [.t 48,.t 50,.t 54]),
  (op 56 (.mks 3 [.int .i64 0,.str [],.int .i64 0] 1 [0]) [.t 55]),
  ⟨(some 57),(.app false 3 32),[.t 46,.t 56],.none,(some 46),none⟩,
  ⟨(some 7),.mvo,[.t 57],.none,(some 57),none⟩] [46,47,48,49,50,51,52,53,54,55,56,57,9,10]) <|
  .exit 2)
  (.skip))) <|
  .reg false [] [
  (mv 37 10),
  (op 38 (.bin .add) [.t 37,.c (.int .i64 1)]),
  (mv 10 38)] [37,38])
def L123_1:ACode:=
  .loop [14,15,8,16,17,18,19,9,20,21,22,23,24,25,26,10,27,28,29,30,31,32,33,34,35,36,39,40,41,42,43,44,45,46,47,48,49,50,51,52,53,54,55,56,57,37,38,58] (.seq (.reg false [] [(op 14 (.bin .lss) [.t 13,.t 12])] []) <|
  .seq (.cond (.t 14) (.skip)
  (.exit 0)) <|
  .seq (.block 1 (.seq (.reg false [] [
  (mv 15 13),
  (mv 8 15)] [15]) <|
  .seq (.reg false [9] [
  (mv 16 0),
  (mv 17 8),
  (op 18 (.ia 3) [.t 16,.t 17]),
  (op 19 (.ld true 3) [.t 18]),
  ⟨(some 9),(.alloc [.int .i64 0,.str [],.int .i64 0]),[],(.lo 9),none,none⟩,
  ⟨none,(.st 3),[.t 9,.t 19],(.lo 9),none,none⟩] [16,17,18,19,8]) <|
  .seq (.seq (.reg false [] [
  ⟨(some 20),(.ld true 3),[.t 9],(.lo 9),none,none⟩,
  (op 21 (.call 157) [.t 20]),
  (op 22 (.un .not) [.t 21])] [20,21]) <|
  .cond (.t 22) (.seq (.reg false [] [
  ⟨(some 23),.mvo,[.t 7],.none,(some 7),none⟩,
  ⟨(some 24),(.ld true 3),[.t 9],(.lo 9),none,none⟩,
  (op 25 (.mks 3 [.int .i64 0,.str [],.int .i64 0] 1 [0]) [.t 24]),
  ⟨(some 26),(.app false 3 32),[.t 23,.t 25],.none,(some 23),none⟩,
  ⟨(some 7),.mvo,[.t 26],.none,(some 26),none⟩] [23,24,25,26,9]) <|
  .exit 1)
  (.skip)) <|
  .seq (.reg false [] [(op 10 .mv [.c (.int .i64 0)])] []) <|
  .block 2 (L123_0))) <|
  .reg false [] [
  (op 58 (.bin .add) [.t 13,.c (.int .i64 1)]),
  (mv 13 58)] [58])
def F123:AFun:=
{nargs:=3,keep:=false,res:=[.tmp 6],body:=
  .seq (.reg false [] [(op 6 .mv [.c (.sl .full 3 [])])] [6]) <|
  .seq (.reg false [] [(op 7 .mv [.c (.sl .full 3 [])])] []) <|
  .seq (.seq (.reg false [] [
  (mv 11 0),
  (op 12 (.len false) [.t 11]),
  (op 13 .mv [.c (.int .i64 0)])] [11]) <|
  .block 0 (L123_1)) <|
  .seq (.reg false [] [
  (mv 59 7),
  (op 60 (.call 99) [.t 59]),
  ⟨(some 6),.mvo,[.t 60],.none,(some 60),none⟩] [59,60,7]) <|
  .ret }

/- strconv.Itoa -/
def F126:AFun:=
{nargs:=1,keep:=false,res:=[.tmp 2],body:=
  .seq (.reg false [] [(op 2 .mv [.c (.str [])])] [2]) <|
  .seq (.reg false [] [
  (mv 3 0),
  (op 4 (.call 160) [.t 3]),
  (mv 2 4)] [3,4,0]) <|
  .ret }

/- bitext/notation.appendText -/
def L127_0:ACode:=
  .loop [7,8,9,10,13,14,15,6,26,27,25,28,29,30,31,33,34,32,35,36,37,39,40,38,41,42,43,45,46,47,48,49,50,51,52,53,54,44,55,56,57,58,16,17,18,19,20,21,22,23,24,11,12] (.seq (.seq (.reg false [] [
  (mv 7 5),
  (mv 8 1),
  (op 9 (.len true) [.t 8]),
  (op 10 (.bin .lss) [.t 7,.t 9])] [7,8,9]) <|
  .cond (.t 10) (.skip)
  (.exit 0)) <|
  .seq (.block 1 (.seq (.reg false [] [
  (mv 13 1),
  (mv 14 5),
  (op 15 .ixs [.t 13,.t 14]),
  (mv 6 15)] [13,14,15]) <|
  .block 2 (.seq (.reg false [] [
  (mv 26 6),
  (op 27 (.call 151) [.t 26]),
  (mv 25 27)] [26,27]) <|
  .cond (.t 25) (.reg false [] [
  ⟨(some 28),.mvo,[.t 0],.none,(some 0),none⟩,
  (mv 29 6),
  (op 30 (.mks 1 [.int .u8 0] 1 [0]) [.t 29]),
  ⟨(some 31),(.appS false 1 1),[.t 28,.t 30],.sh,none,none⟩,
  ⟨(some 0),.mvo,[.t 31],.none,(some 31),none⟩] [28,29,30,31,6])
  (.seq (.reg false [] [
  (mv 33 6),
  (op 34 (.bin .eql) [.t 33,.c (.int .u8 10)]),
  (mv 32 34)] [33,34]) <|
  .cond (.t 32) (.reg false [] [
  ⟨(some 35),.mvo,[.t 0],.none,(some 0),none⟩,
  (op 36 (.mks 1 [.int .u8 0] 2 [0,1]) [.c (.int .u8 92),.c (.int .u8 110)]),
  ⟨(some 37),(.appS false 1 1),[.t 35,.t 36],.sh,none,none⟩,
  ⟨(some 0),.mvo,[.t 37],.none,(some 37),none⟩] [35,36,37])
  (.seq (.reg false [] [
  (mv 39 6),
  (op 40 (.bin .eql) [.t 39,.c (.int .u8 9)]),
  (mv 38 40)] [39,40]) <|
  .cond (.t 38) (.reg false [] [
  ⟨(some 41),.mvo,[.t 0],.none,(some 0),none⟩,
  (op 42 (.mks 1 [.int .u8 0] 2 [0,1]) [.c (.int .u8 92),.c (.int .u8 116)]),
  ⟨(some 43),(.appS false 1 1),[.t 41,.t 42],.sh,none,none⟩,
  ⟨(some 0),.mvo,[.t 43],.none,(some 43),none⟩] [41,42,43])
  (.seq (.reg false [] [
  (mv 45 6),
  (op 46 (.bin .eql) [.t 45,.c (.int .u8 92)]),
  (mv 47 46),
  ⟨(some 48),.mv,[.t 6],.none,none,(some (47,false))⟩,
  ⟨(some 49),(.bin .eql),[.t 48,.c (.int .u8 60)],.none,none,(some (47,false))⟩,
  (op 50 .pick [.t 47,.c (.bool true),.t 49]),
  (mv 51 50),
  ⟨(some 52),.mv,[.t 6],.none,none,(some (51,false))⟩,
  ⟨(some 53),(.bin .eql),[.t 52,.c (.int .u8 123)],.none,none,(some (51,false))⟩,
  (op 54 .pick [.t 51,.c (.bool true),.t 53]),
  (mv 44 54)] [45,46,47,48,49,50,51,52,53,54]) <|
  .cond (.t 44) (.reg false [] [
  ⟨(some 55),.mvo,[.t 0],.none,(some 0),none⟩,
  (mv 56 6),
  (op 57 (.mks 1 [.int .u8 0] 2 [0,1]) [.c (.int .u8 92),.t 56]),
  ⟨(some 58),(.appS false 1 1),[.t 55,.t 57],.sh,none,none⟩,
  ⟨(some 0),.mvo,[.t 58],.none,(some 58),none⟩] [55,56,57,58,6])
  (.reg true [] [
  ⟨(some 16),.mvo,[.t 0],.none,(some 0),none⟩,
  (mv 17 6),
  (op 18 (.shf false) [.t 17,.c (.int .u64 4)]),
  (op 19 .ixs [.c (.str [48,49,50,51,52,53,54,55,56,57,97,98,99,100,101,102]),.t 18]),
  (mv 20 6),
  (op 21 (.bin .and) [.t 20,.c (.int .u8 15)]),
  (op 22 .ixs [.c (.str [48,49,50,51,52,53,54,55,56,57,97,98,99,100,101,102]),.t 21]),
  (op 23 (.mks 1 [.int .u8 0] 4 [0,1,2,3]) [.c (.int .u8 92),.c (.int .u8 120),.t 19,.t 22]),
  ⟨(some 24),(.appS false 1 1),[.t 16,.t 23],.sh,none,none⟩,
  ⟨(some 0),.mvo,[.t 24],.none,(some 24),none⟩] [16,17,18,19,20,21,22,23,24,6]))))))) <|
  .reg false [] [
  (mv 11 5),
  (op 12 (.bin .add) [.t 11,.c (.int .i64 1)]),
  (mv 5 12)] [11,12])
def F127:AFun:=
{nargs:=2,keep:=true,res:=[.tmpD 4],body:=
  .seq (.reg false [] [(op 4 .mv [.c (.sl .full 1 [])])] [4]) <|
  .seq (.seq (.reg false [] [(op 5 .mv [.c (.int .i64 0)])] []) <|
  .block 0 (L127_0)) <|
  .seq (.reg false [] [
  (mv 59 0),
  ⟨(some 4),.mvo,[.t 59],.none,(some 59),none⟩] [59,0]) <|
  .ret }

/- cmp.isNaN[string] -/
def F128:AFun:=
{nargs:=1,keep:=false,res:=[.tmp 2],body:=
  .seq (.reg false [] [(op 2 .mv [.c (.bool false)])] [2]) <|
  .seq (.reg false [] [
  (mv 3 0),
  (mv 4 0),
  (op 5 (.bin .neq) [.t 3,.t 4]),
  (mv 2 5)] [3,4,5,0]) <|
  .ret }

/- bitext/bitextmake.word -/
def F134:AFun:=
{nargs:=1,keep:=false,res:=[.tmp 2],body:=
  .seq (.reg false [] [(op 2 .mv [.c (.str [])])] [2]) <|
  .seq (.reg false [] [
  (op 3 (.mks 1 [.str []] 24 [0,1,2,3,4,5,6,7,8,9,10,11,12,13,14,15,16,17,18,19,20,21,22,23]) [.c (.str [114,101,100]),.c (.str [99,97,114]),.c (.str [82,101,100]),.c (.str [97]),.c (.str [99,97,114,115]),.c (.str [49,44,53]),.c (.str [50,50]),.c (.str [100,111,110,39,116]),.c (.str [46]),.c (.str [33]),.c (.str [32]),.c (.str [32,32]),.c (.str [60]),.c (.str [38]),.c (.str [123]),.c (.str [34]),.c (.str [92]),.c (.str [120,45,121]),.c (.str [10]),.c (.str [61]),.c (.str [125]),.c (.str [62]),.c (.str [9]),.c (.str [98])]),
  (mv 4 0),
  ⟨(some 5),(.call 54),[.t 4,.c (.int .i64 24)],.sh,none,none⟩,
  (op 6 (.ia 1) [.t 3,.t 5]),
  (op 7 (.ld false 1) [.t 6]),
  (mv 2 7)] [3,4,5,6,7,0]) <|
  .ret }

/- bitext/bitextref3.Name -/
def L142_0:ACode:=
  .loop [4,5,6,7,10,11,12,13,14,15,16,2,8,9] (.seq (.seq (.reg false [] [
  (mv 4 3),
  (mv 5 0),
  (op 6 (.len true) [.t 5]),
  (op 7 (.bin .lss) [.t 4,.t 6])] [4,5,6]) <|
  .cond (.t 7) (.skip)
  (.exit 0)) <|
  .seq (.block 1 (.seq (.reg false [] [
  (mv 10 0),
  (mv 11 3),
  (op 12 .ixs [.t 10,.t 11]),
  (op 13 (.bin .eql) [.t 12,.c (.int .u8 32)])] [10,11,12]) <|
  .cond (.t 13) (.seq (.reg false [] [
  (mv 14 0),
  (mv 15 3),
  (op 16 (.slc true 0 false true) [.t 14,.t 15]),
  (mv 2 16)] [14,15,16,0,3]) <|
  .ret)
  (.skip))) <|
  .reg false [] [
  (mv 8 3),
  (op 9 (.bin .add) [.t 8,.c (.int .i64 1)]),
  (mv 3 9)] [8,9])
def F142:AFun:=
{nargs:=1,keep:=false,res:=[.tmp 2],body:=
  .seq (.reg false [] [(op 2 .mv [.c (.str [])])] [2]) <|
  .seq (.seq (.reg false [] [(op 3 .mv [.c (.int .i64 0)])] []) <|
  .block 0 (L142_0)) <|
  .seq (.reg false [] [
  (mv 17 0),
  (mv 2 17)] [17,0]) <|
  .ret }

/- bitext/item.width -/
def F143:AFun:=
{nargs:=1,keep:=false,res:=[.tmp 2],body:=
  .seq (.reg false [1] [
  ⟨(some 1),(.box 3),[.t 0],(.lo 1),none,none⟩,
  (op 2 .mv [.c (.int .i64 0)])] [2,0]) <|
  .seq (.seq (.reg false [] [
  (op 3 (.fa 0) [.t 1]),
  ⟨(some 4),(.ld false 1),[.t 3],(.lo 1),none,none⟩,
  (op 5 (.bin .eql) [.t 4,.c (.int .i64 1)])] [3,4]) <|
  .cond (.t 5) (.seq (.reg false [] [
  (op 6 (.fa 1) [.t 1]),
  ⟨(some 7),(.ld false 1),[.t 6],(.lo 1),none,none⟩,
  (op 8 (.len true) [.t 7]),
  (mv 2 8)] [6,7,8,1]) <|
  .ret)
  (.skip)) <|
  .seq (.reg false [] [(op 2 .mv [.c (.int .i64 1)])] []) <|
  .ret }

/- bitext/item.IsContent -/
def L144_0:ACode:=
  .loop [23,24,25,26,29,30,31,32,33,34,35,36,37,38,39,40,41,42,43,44,45,2,27,28] (.seq (.seq (.reg false [] [
  (mv 23 3),
  (mv 24 0),
  (op 25 (.len true) [.t 24]),
  (op 26 (.bin .lss) [.t 23,.t 25])] [23,24,25]) <|
  .cond (.t 26) (.skip)
  (.exit 0)) <|
  .seq (.block 1 (.seq (.reg false [] [
  (mv 29 0),
  (mv 30 3),
  (op 31 .ixs [.t 29,.t 30]),
  (op 32 (.bin .lss) [.t 31,.c (.int .u8 32)]),
  (mv 33 32),
  ⟨(some 34),.mv,[.t 0],.none,none,(some (33,false))⟩,
  ⟨(some 35),.mv,[.t 3],.none,none,(some (33,false))⟩,
  ⟨(some 36),.ixs,[.t 34,.t 35],.none,none,(some (33,false))⟩,
  ⟨(some 37),(.bin .gtr),[.t 36,.c (.int .u8 126)],.none,none,(some (33,false))⟩,
  (op 38 .pick [.t 33,.c (.bool true),.t 37]),
  (mv 39 38),
  ⟨(some 40),.mv,[.t 0],.none,none,(some (39,false))⟩,
  ⟨(some 41),.mv,[.t 3],.none,none,(some (39,false))⟩,
  ⟨(some 42),.ixs,[.t 40,.t 41],.none,none,(some (39,false))⟩,
  ⟨(some 43),(.call 149),[.c (.str [60,62,123,125]),.t 42],.none,none,(some (39,false))⟩,
  ⟨(some 44),(.bin .geq),[.t 43,.c (.int .i64 0)],.none,none,(some (39,false))⟩,
  (op 45 .pick [.t 39,.c (.bool true),.t 44])] [29,30,31,32,33,34,35,36,37,38,39,40,41,42,43,44]) <|
  .cond (.t 45) (.seq (.reg false [] [(op 2 .mv [.c (.bool false)])] []) <|
  .ret)
  (.skip))) <|
  .reg false [] [
  (mv 27 3),
  (op 28 (.bin .add) [.t 27,.c (.int .i64 1)]),
  (mv 3 28)] [27,28])
def F144:AFun:=
{nargs:=1,keep:=false,res:=[.tmp 2],body:=
  .seq (.reg false [] [(op 2 .mv [.c (.bool false)])] [2]) <|
  .seq (.seq (.reg false [] [
  (mv 7 0),
  (op 8 (.len true) [.t 7]),
  (op 9 (.bin .gtr) [.t 8,.c (.int .i64 64)]),
  (mv 10 9),
  ⟨(some 11),.mv,[.t 0],.none,none,(some (10,false))⟩,
  ⟨(some 12),(.len true),[.t 11],.none,none,(some (10,false))⟩,
  ⟨(some 13),(.bin .eql),[.t 12,.c (.int .i64 0)],.none,none,(some (10,false))⟩,
  (op 14 .pick [.t 10,.c (.bool true),.t 13]),
  (mv 15 14),
  ⟨(some 16),.mv,[.t 0],.none,none,(some (15,false))⟩,
  ⟨(some 17),.mv,[.t 0],.none,none,(some (15,false))⟩,
  ⟨(some 18),(.len true),[.t 17],.none,none,(some (15,false))⟩,
  ⟨(some 19),(.bin .sub),[.t 18,.c (.int .i64 1)],.none,none,(some (15,false))⟩,
  ⟨(some 20),.ixs,[.t 16,.t 19],.none,none,(some (15,false))⟩,
  ⟨(some 21),(.bin .eql),[.t 20,.c (.int .u8 47)],.none,none,(some (15,false))⟩,
  (op 22 .pick [.t 15,.c (.bool true),.t 21])] [7,8,9,10,11,12,13,14,15,16,17,18,19,20,21]) <|
  .cond (.t 22) (.seq (.reg false [] [(op 2 .mv [.c (.bool false)])] []) <|
  .ret)
  (.skip)) <|
  .seq (.seq (.reg false [] [(op 3 .mv [.c (.int .i64 0)])] []) <|
  .block 0 (L144_0)) <|
  .seq (.reg false [] [
  (mv 47 0),
  (op 48 (.call 168) [.t 47,.c (.str [32])]),
  (mv 46 48),
  (op 49 (.ext 0) [.t 46]),
  (op 50 (.ext 1) [.t 46]),
  (op 51 (.ext 2) [.t 46]),
  (mv 4 49),
  (mv 5 50),
  (mv 6 51)] [47,48,46,49,50,51,0]) <|
  .seq (.reg false [] [
  (mv 52 4),
  (op 53 (.call 63) [.t 52]),
  (mv 54 53),
  ⟨(some 55),.mv,[.t 6],.none,none,(some (54,true))⟩,
  ⟨(some 56),(.un .not),[.t 55],.none,none,(some (54,true))⟩,
  ⟨(some 57),.mv,[.t 56],.none,none,(some (54,true))⟩,
  ⟨(some 58),.mv,[.t 5],.none,none,(some (57,false))⟩,
  ⟨(some 59),(.len true),[.t 58],.none,none,(some (57,false))⟩,
  ⟨(some 60),(.bin .gtr),[.t 59,.c (.int .i64 0)],.none,none,(some (57,false))⟩,
  ⟨(some 61),.pick,[.t 57,.c (.bool true),.t 60],.none,none,(some (54,true))⟩,
  (op 62 .pick [.t 54,.t 61,.c (.bool false)]),
  (mv 2 62)] [52,53,54,55,56,57,58,59,60,61,62,4,6,5]) <|
  .ret }

/- bitext/item.name -/
def F145:AFun:=
{nargs:=1,keep:=false,res:=[.tmp 2],body:=
  .seq (.reg false [] [(op 2 .mv [.c (.str [])])] [2]) <|
  .seq (.reg false [] [
  (mv 7 0),
  (op 8 (.call 168) [.t 7,.c (.str [32])]),
  (mv 6 8),
  (op 9 (.ext 0) [.t 6]),
  (op 10 (.ext 1) [.t 6]),
  (op 11 (.ext 2) [.t 6]),
  (mv 3 9),
  (mv 4 10),
  (mv 5 11)] [7,8,6,9,10,11,4,5,0]) <|
  .seq (.reg false [] [
  (mv 12 3),
  (mv 2 12)] [12,3]) <|
  .ret }

/- slices.Index[[]int,int] -/
def L146_0:ACode:=
  .loop [9,10,5,11,12,13,14,15,16,17,4,18] (.seq (.reg false [] [(op 9 (.bin .lss) [.t 8,.t 7])] []) <|
  .seq (.cond (.t 9) (.skip)
  (.exit 0)) <|
  .seq (.block 1 (.seq (.reg false [] [
  (mv 10 8),
  (mv 5 10)] [10]) <|
  .seq (.reg false [] [
  (mv 11 1),
  (mv 12 0),
  (mv 13 5),
  (op 14 (.ia 1) [.t 12,.t 13]),
  (op 15 (.ld false 1) [.t 14]),
  (op 16 (.bin .eql) [.t 11,.t 15])] [11,12,13,14,15]) <|
  .cond (.t 16) (.seq (.reg false [] [
  (mv 17 5),
  (mv 4 17)] [17,5]) <|
  .ret)
  (.skip))) <|
  .reg false [] [
  (op 18 (.bin .add) [.t 8,.c (.int .i64 1)]),
  (mv 8 18)] [18])
def F146:AFun:=
{nargs:=2,keep:=false,res:=[.tmp 4],body:=
  .seq (.reg false [] [(op 4 .mv [.c (.int .i64 0)])] [4]) <|
  .seq (.seq (.reg false [] [
  (mv 6 0),
  (op 7 (.len false) [.t 6]),
  (op 8 .mv [.c (.int .i64 0)])] [6]) <|
  .block 0 (L146_0)) <|
  .seq (.reg false [] [(op 4 .mv [.c (.int .i64 (-1))])] []) <|
  .ret }

/- bitext/item.Normalize -/
def L147_0:ACode:=
  .loop [25,26,27,28,29,30,31,32,33,34,35,36,37,38,39,40,41,42,43,44,45] (.seq (.seq (.reg false [] [
  (mv 25 4),
  (mv 26 0),
  (op 27 (.len false) [.t 26]),
  (op 28 (.bin .lss) [.t 25,.t 27]),
  (mv 29 28),
  ⟨(some 30),.mv,[.t 0],.none,none,(some (29,true))⟩,
  ⟨(some 31),.mv,[.t 4],.none,none,(some (29,true))⟩,
  ⟨(some 32),(.ia 3),[.t 30,.t 31],.none,none,(some (29,true))⟩,
  ⟨(some 33),(.fa 0),[.t 32],.none,none,(some (29,true))⟩,
  ⟨(some 34),(.ld false 1),[.t 33],.none,none,(some (29,true))⟩,
  ⟨(some 35),(.bin .eql),[.t 34,.c (.int .i64 1)],.none,none,(some (29,true))⟩,
  (op 36 .pick [.t 29,.t 35,.c (.bool false)])] [25,26,27,28,29,30,31,32,33,34,35]) <|
  .cond (.t 36) (.skip)
  (.exit 2)) <|
  .block 3 (.seq (.reg false [] [
  ⟨(some 37),.mvo,[.t 5],.none,(some 5),none⟩,
  (mv 38 0),
  (mv 39 4),
  (op 40 (.ia 3) [.t 38,.t 39]),
  (op 41 (.fa 1) [.t 40]),
  (op 42 (.ld false 1) [.t 41]),
  ⟨(some 43),(.app true 1 1),[.t 37,.t 42],.none,(some 37),none⟩,
  ⟨(some 5),.mvo,[.t 43],.none,(some 43),none⟩] [37,38,39,40,41,42,43]) <|
  .reg false [] [
  (mv 44 4),
  (op 45 (.bin .add) [.t 44,.c (.int .i64 1)]),
  (mv 4 45)] [44,45]))
def L147_1:ACode:=
  .loop [6,7,8,9,10,11,12,13,14,15,16,17,18,19,20,21,22,23,24,5,25,26,27,28,29,30,31,32,33,34,35,36,37,38,39,40,41,42,43,44,45,46,47,48,49,50,51,52,53,54] (.seq (.seq (.reg false [] [
  (mv 6 4),
  (mv 7 0),
  (op 8 (.len false) [.t 7]),
  (op 9 (.bin .lss) [.t 6,.t 8])] [6,7,8]) <|
  .cond (.t 9) (.skip)
  (.exit 0)) <|
  .block 1 (.seq (.seq (.reg false [] [
  (mv 10 0),
  (mv 11 4),
  (op 12 (.ia 3) [.t 10,.t 11]),
  (op 13 (.fa 0) [.t 12]),
  (op 14 (.ld false 1) [.t 13]),
  (op 15 (.bin .neq) [.t 14,.c (.int .i64 1)])] [10,11,12,13,14]) <|
  .cond (.t 15) (.seq (.reg false [] [
  ⟨(some 16),.mvo,[.t 3],.none,(some 3),none⟩,
  (mv 17 0),
  (mv 18 4),
  (op 19 (.ia 3) [.t 17,.t 18]),
  (op 20 (.ld true 3) [.t 19]),
  (op 21 (.mks 3 [.int .i64 0,.str [],.int .i64 0] 1 [0]) [.t 20]),
  ⟨(some 22),(.app false 3 32),[.t 16,.t 21],.none,(some 16),none⟩,
  ⟨(some 3),.mvo,[.t 22],.none,(some 22),none⟩] [16,17,18,19,20,21,22]) <|
  .seq (.reg false [] [
  (mv 23 4),
  (op 24 (.bin .add) [.t 23,.c (.int .i64 1)]),
  (mv 4 24)] [23,24]) <|
  .exit 1)
  (.skip)) <|
  .seq (.reg false [] [(op 5 .mv [.c (.sl .full 1 [])])] []) <|
  .seq (.block 2 (L147_0)) <|
  .seq (.reg false [] [
  (mv 46 5),
  (op 47 (.len false) [.t 46]),
  (op 48 (.bin .gtr) [.t 47,.c (.int .i64 0)])] [46,47]) <|
  .cond (.t 48) (.reg false [] [
  ⟨(some 49),.mvo,[.t 3],.none,(some 3),none⟩,
  (mv 50 5),
  (op 51 .b2s [.t 50]),
  (op 52 (.build [.int .i64 0,.str [],.int .i64 0] [(0,1),(1,1)]) [.c (.int .i64 1),.t 51]),
  (op 53 (.mks 3 [.int .i64 0,.str [],.int .i64 0] 1 [0]) [.t 52]),
  ⟨(some 54),(.app false 3 32),[.t 49,.t 53],.none,(some 49),none⟩,
  ⟨(some 3),.mvo,[.t 54],.none,(some 54),none⟩] [49,50,51,52,53,54,5])
  (.skip)))
def F147:AFun:=
{nargs:=1,keep:=false,res:=[.tmp 2],body:=
  .seq (.reg false [] [(op 2 .mv [.c (.sl .full 3 [])])] [2]) <|
  .seq (.reg false [] [(op 3 .mv [.c (.sl .full 3 [])])] []) <|
  .seq (.seq (.reg false [] [(op 4 .mv [.c (.int .i64 0)])] []) <|
  .block 0 (L147_1)) <|
  .seq (.reg false [] [
  (mv 55 3),
  ⟨(some 2),.mvo,[.t 55],.none,(some 55),none⟩] [55,3]) <|
  .ret }

/- bitext/notation.escape -/
def F148:AFun:=
{nargs:=1,keep:=false,res:=[.tmp 2,.tmp 3,.tmp 4],body:=
  .seq (.reg false [] [
  (op 2 .mv [.c (.int .u8 0)]),
  (op 3 .mv [.c (.int .i64 0)]),
  (op 4 .mv [.c (.bool false)])] [2,3,4]) <|
  .seq (.seq (.reg false [] [
  (mv 10 0),
  (op 11 (.len true) [.t 10]),
  (op 12 (.bin .lss) [.t 11,.c (.int .i64 2)])] [10,11]) <|
  .cond (.t 12) (.seq (.reg false [] [
  (op 2 .mv [.c (.int .u8 0)]),
  (op 3 .mv [.c (.int .i64 0)]),
  (op 4 .mv [.c (.bool false)])] []) <|
  .ret)
  (.skip)) <|
  .seq (.seq (.reg false [] [
  (mv 13 0),
  (op 14 .ixs [.t 13,.c (.int .i64 1)])] [13]) <|
  .block 0 (.seq (.seq (.reg false [] [
  (op 16 (.bin .eql) [.t 14,.c (.int .u8 92)]),
  (mv 15 16)] [16]) <|
  .cond (.t 15) (.skip)
  (.seq (.reg false [] [
  (op 17 (.bin .eql) [.t 14,.c (.int .u8 60)]),
  (mv 15 17)] [17]) <|
  .cond (.t 15) (.skip)
  (.reg false [] [
  (op 18 (.bin .eql) [.t 14,.c (.int .u8 123)]),
  (mv 15 18)] [18]))) <|
  .cond (.t 15) (.seq (.reg false [] [
  (mv 19 0),
  (op 20 .ixs [.t 19,.c (.int .i64 1)]),
  (mv 2 20),
  (op 3 .mv [.c (.int .i64 2)]),
  (op 4 .mv [.c (.bool true)])] [19,20,0]) <|
  .ret)
  (.seq (.reg false [] [
  (op 22 (.bin .eql) [.t 14,.c (.int .u8 110)]),
  (mv 21 22)] [22]) <|
  .cond (.t 21) (.seq (.reg false [] [
  (op 2 .mv [.c (.int .u8 10)]),
  (op 3 .mv [.c (.int .i64 2)]),
  (op 4 .mv [.c (.bool true)])] []) <|
  .ret)
  (.seq (.reg false [] [
  (op 24 (.bin .eql) [.t 14,.c (.int .u8 116)]),
  (mv 23 24)] [24]) <|
  .cond (.t 23) (.seq (.reg false [] [
  (op 2 .mv [.c (.int .u8 9)]),
  (op 3 .mv [.c (.int .i64 2)]),
  (op 4 .mv [.c (.bool true)])] []) <|
  .ret)
  (.seq (.reg false [] [
  (op 26 (.bin .eql) [.t 14,.c (.int .u8 120)]),
  (mv 25 26)] [26,14]) <|
  .cond (.t 25) (.seq (.seq (.reg false [] [
  (mv 27 0),
  (op 28 (.len true) [.t 27]),
  (op 29 (.bin .lss) [.t 28,.c (.int .i64 4)])] [27,28]) <|
  .cond (.t 29) (.seq (.reg false [] [
  (op 2 .mv [.c (.int .u8 0)]),
  (op 3 .mv [.c (.int .i64 0)]),
  (op 4 .mv [.c (.bool false)])] []) <|
  .ret)
  (.skip)) <|
  .seq (.reg false [] [
  (mv 31 0),
  (op 32 .ixs [.t 31,.c (.int .i64 2)]),
  (op 33 (.call 169) [.t 32]),
  (mv 30 33),
  (op 34 (.ext 0) [.t 30]),
  (op 35 (.ext 1) [.t 30]),
  (mv 5 34),
  (mv 6 35)] [31,32,33,30,34,35]) <|
  .seq (.reg false [] [
  (mv 37 0),
  (op 38 .ixs [.t 37,.c (.int .i64 3)]),
  (op 39 (.call 169) [.t 38]),
  (mv 36 39),
  (op 40 (.ext 0) [.t 36]),
  (op 41 (.ext 1) [.t 36]),
  (mv 7 40),
  (mv 8 41)] [37,38,39,36,40,41,0]) <|
  .seq (.reg false [] [
  (mv 42 5),
  (op 43 (.shf true) [.t 42,.c (.int .u64 4)]),
  (mv 44 7),
  (op 45 (.bin .or) [.t 43,.t 44]),
  (mv 9 45)] [42,43,44,45,5,7]) <|
  .seq (.reg false [] [
  (mv 46 9),
  (mv 47 6),
  (mv 48 47),
  ⟨(some 49),.mv,[.t 8],.none,none,(some (48,true))⟩,
  (op 50 .pick [.t 48,.t 49,.c (.bool false)]),
  (mv 51 50),
  ⟨(some 52),.mv,[.t 9],.none,none,(some (51,true))⟩,
  ⟨(some 53),(.bin .eql),[.t 52,.c (.int .u8 13)],.none,none,(some (51,true))⟩,
  ⟨(some 54),.mv,[.t 53],.none,none,(some (51,true))⟩,
  ⟨(some 55),.mv,[.t 9],.none,none,(some (54,false))⟩,
  ⟨(some 56),(.call 164),[.t 55],.none,none,(some (54,false))⟩,
  ⟨(some 57),(.bin .eql),[.t 56,.c (.int .i64 1)],.none,none,(some (54,false))⟩,
  ⟨(some 58),.pick,[.t 54,.c (.bool true),.t 57],.none,none,(some (51,true))⟩,
  (op 59 .pick [.t 51,.t 58,.c (.bool false)]),
  (mv 2 46),
  (op 3 .mv [.c (.int .i64 4)]),
  (mv 4 59)] [46,47,48,49,50,51,52,53,54,55,56,57,58,59,9,6,8]) <|
  .ret)
  (.skip)))))) <|
  .seq (.reg false [] [
  (op 2 .mv [.c (.int .u8 0)]),
  (op 3 .mv [.c (.int .i64 0)]),
  (op 4 .mv [.c (.bool false)])] []) <|
  .ret }

/- strings.IndexByte -/
def F149:AFun:=
{nargs:=2,keep:=false,res:=[.tmp 4],body:=
  .seq (.reg false [] [(op 4 .mv [.c (.int .i64 0)])] [4]) <|
  .seq (.reg false [] [
  (mv 5 0),
  (mv 6 1),
  (op 7 (.call 170) [.t 5,.t 6]),
  (mv 4 7)] [5,6,7,0,1]) <|
  .ret }

/- bitext/notation.tag -/
def F150:AFun:=
{nargs:=1,keep:=false,res:=[.cell 2 true 3,.tmp 3],body:=
  .seq (.reg false [2] [
  ⟨(some 2),(.alloc [.int .i64 0,.str [],.int .i64 0]),[],(.lo 2),none,none⟩,
  (op 3 .mv [.c (.bool false)])] [3]) <|
  .seq (.reg false [4] [
  (op 10 (.build [.int .i64 0,.str [],.int .i64 0] [(0,1)]) [.c (.int .i64 2)]),
  ⟨(some 4),(.alloc [.int .i64 0,.str [],.int .i64 0]),[],(.lo 4),none,none⟩,
  ⟨none,(.st 3),[.t 4,.t 10],(.lo 4),none,none⟩] [10]) <|
  .seq (.seq (.reg false [] [
  (mv 11 0),
  (op 12 (.call 171) [.t 11,.c (.str [47])])] [11]) <|
  .cond (.t 12) (.reg true [] [
  (mv 13 0),
  (op 14 (.slc true 0 true false) [.t 13,.c (.int .i64 1)]),
  (op 15 (.fa 0) [.t 4]),
  ⟨none,(.st 1),[.t 15,.c (.int .i64 3)],(.lo 4),none,none⟩,
  (mv 0 14)] [13,14,15])
  (.skip)) <|
  .seq (.reg false [] [
  (mv 17 0),
  (op 18 (.call 168) [.t 17,.c (.str [58])]),
  (mv 16 18),
  (op 19 (.ext 0) [.t 16]),
  (op 20 (.ext 1) [.t 16]),
  (op 21 (.ext 2) [.t 16]),
  (mv 5 19),
  (mv 6 20),
  (mv 7 21)] [17,18,16,19,20,21,0]) <|
  .seq (.seq (.reg false [] [
  (op 22 (.fa 0) [.t 4]),
  ⟨(some 23),(.ld false 1),[.t 22],(.lo 4),none,none⟩,
  (op 24 (.bin .eql) [.t 23,.c (.int .i64 2)]),
  (mv 25 24),
  ⟨(some 26),.mv,[.t 6],.none,none,(some (25,true))⟩,
  ⟨(some 27),(.call 172),[.t 26,.c (.str [47])],.none,none,(some (25,true))⟩,
  (op 28 .pick [.t 25,.t 27,.c (.bool false)])] [22,23,24,25,26,27]) <|
  .cond (.t 28) (.reg true [] [
  (mv 29 6),
  (mv 30 6),
  (op 31 (.len true) [.t 30]),
  (op 32 (.bin .sub) [.t 31,.c (.int .i64 1)]),
  (op 33 (.slc true 0 false true) [.t 29,.t 32]),
  (op 34 (.fa 0) [.t 4]),
  ⟨none,(.st 1),[.t 34,.c (.int .i64 4)],(.lo 4),none,none⟩,
  (mv 6 33)] [29,30,31,32,33,34])
  (.skip)) <|
  .seq (.reg false [] [
  (mv 36 5),
  (op 37 (.call 173) [.t 36]),
  (mv 35 37),
  (op 38 (.ext 0) [.t 35]),
  (op 39 (.ext 1) [.t 35]),
  (mv 8 38),
  (mv 9 39)] [36,37,35,38,39,5]) <|
  .seq (.seq (.reg false [] [
  (mv 40 7),
  (op 41 (.un .not) [.t 40]),
  (mv 42 41),
  ⟨(some 43),.mv,[.t 9],.none,none,(some (42,false))⟩,
  ⟨(some 44),(.un .not),[.t 43],.none,none,(some (42,false))⟩,
  (op 45 .pick [.t 42,.c (.bool true),.t 44])] [40,41,42,43,44,7,9]) <|
  .cond (.t 45) (.seq (.reg false [] [
  (op 46 (.build [.int .i64 0,.str [],.int .i64 0] []) []),
  ⟨none,(.st 3),[.t 2,.t 46],(.lo 2),none,none⟩,
  (op 3 .mv [.c (.bool false)])] [46]) <|
  .ret)
  (.skip)) <|
  .seq (.reg false [] [
  (mv 47 6),
  (mv 48 8),
  (op 49 (.fa 1) [.t 4]),
  ⟨none,(.st 1),[.t 49,.t 47],(.lo 4),none,none⟩,
  (op 50 (.fa 2) [.t 4]),
  ⟨none,(.st 1),[.t 50,.t 48],(.lo 4),none,none⟩] [47,48,49,50,8]) <|
  .seq (.seq (.reg false [] [
  (op 51 (.fa 0) [.t 4]),
  ⟨(some 52),(.ld false 1),[.t 51],(.lo 4),none,none⟩,
  (op 53 (.bin .eql) [.t 52,.c (.int .i64 3)])] [51,52]) <|
  .cond (.t 53) (.seq (.reg true [] [
  ⟨(some 54),(.ld true 3),[.t 4],(.lo 4),none,none⟩,
  (mv 55 6),
  (op 56 (.call 63) [.t 55]),
  ⟨none,(.st 3),[.t 2,.t 54],(.lo 2),none,none⟩,
  (mv 3 56)] [54,55,56,4,6]) <|
  .ret)
  (.skip)) <|
  .seq (.reg true [] [
  ⟨(some 57),(.ld true 3),[.t 4],(.lo 4),none,none⟩,
  (mv 58 6),
  (op 59 (.call 144) [.t 58]),
  ⟨none,(.st 3),[.t 2,.t 57],(.lo 2),none,none⟩,
  (mv 3 59)] [57,58,59,4,6]) <|
  .ret }

/- bitext/notation.plain -/
def F151:AFun:=
{nargs:=1,keep:=false,res:=[.tmp 2],body:=
  .seq (.reg false [] [(op 2 .mv [.c (.bool false)])] [2]) <|
  .seq (.reg false [] [
  (mv 3 0),
  (op 4 (.bin .neq) [.t 3,.c (.int .u8 92)]),
  (mv 5 4),
  ⟨(some 6),.mv,[.t 0],.none,none,(some (5,true))⟩,
  ⟨(some 7),(.bin .neq),[.t 6,.c (.int .u8 60)],.none,none,(some (5,true))⟩,
  (op 8 .pick [.t 5,.t 7,.c (.bool false)]),
  (mv 9 8),
  ⟨(some 10),.mv,[.t 0],.none,none,(some (9,true))⟩,
  ⟨(some 11),(.bin .neq),[.t 10,.c (.int .u8 123)],.none,none,(some (9,true))⟩,
  (op 12 .pick [.t 9,.t 11,.c (.bool false)]),
  (mv 13 12),
  ⟨(some 14),.mv,[.t 0],.none,none,(some (13,true))⟩,
  ⟨(some 15),(.bin .neq),[.t 14,.c (.int .u8 9)],.none,none,(some (13,true))⟩,
  (op 16 .pick [.t 13,.t 15,.c (.bool false)]),
  (mv 17 16),
  ⟨(some 18),.mv,[.t 0],.none,none,(some (17,true))⟩,
  ⟨(some 19),(.bin .neq),[.t 18,.c (.int .u8 10)],.none,none,(some (17,true))⟩,
  (op 20 .pick [.t 17,.t 19,.c (.bool false)]),
  (mv 21 20),
  ⟨(some 22),.mv,[.t 0],.none,none,(some (21,true))⟩,
  ⟨(some 23),(.bin .neq),[.t 22,.c (.int .u8 13)],.none,none,(some (21,true))⟩,
  (op 24 .pick [.t 21,.t 23,.c (.bool false)]),
  (mv 25 24),
  ⟨(some 26),.mv,[.t 0],.none,none,(some (25,true))⟩,
  ⟨(some 27),(.call 164),[.t 26],.none,none,(some (25,true))⟩,
  ⟨(some 28),(.bin .neq),[.t 27,.c (.int .i64 1)],.none,none,(some (25,true))⟩,
  (op 29 .pick [.t 25,.t 28,.c (.bool false)]),
  (mv 2 29)] [3,4,5,6,7,8,9,10,11,12,13,14,15,16,17,18,19,20,21,22,23,24,25,26,27,28,29,0]) <|
  .ret }

/- bitext/notation.name -/
def F152:AFun:=
{nargs:=1,keep:=false,res:=[.tmp 2],body:=
  .seq (.reg false [] [(op 2 .mv [.c (.str [])])] [2]) <|
  .seq (.reg false [] [
  (mv 7 0),
  (op 8 (.call 168) [.t 7,.c (.str [32])]),
  (mv 6 8),
  (op 9 (.ext 0) [.t 6]),
  (op 10 (.ext 1) [.t 6]),
  (op 11 (.ext 2) [.t 6]),
  (mv 3 9),
  (mv 4 10),
  (mv 5 11)] [7,8,6,9,10,11,4,5,0]) <|
  .seq (.reg false [] [
  (mv 12 3),
  (mv 2 12)] [12,3]) <|
  .ret }

/- bitext/bitextref3.IsTag -/
def F157:AFun:=
{nargs:=1,keep:=false,res:=[.tmp 2],body:=
  .seq (.reg false [1] [
  ⟨(some 1),(.box 3),[.t 0],(.lo 1),none,none⟩,
  (op 2 .mv [.c (.bool false)])] [2,0]) <|
  .seq (.reg false [] [
  (op 3 (.fa 0) [.t 1]),
  ⟨(some 4),(.ld false 1),[.t 3],(.lo 1),none,none⟩,
  (op 5 (.bin .eql) [.t 4,.c (.int .i64 2)]),
  (mv 6 5),
  ⟨(some 7),(.fa 0),[.t 1],.none,none,(some (6,false))⟩,
  ⟨(some 8),(.ld false 1),[.t 7],(.lo 1),none,(some (6,false))⟩,
  ⟨(some 9),(.bin .eql),[.t 8,.c (.int .i64 3)],.none,none,(some (6,false))⟩,
  (op 10 .pick [.t 6,.c (.bool true),.t 9]),
  (mv 11 10),
  ⟨(some 12),(.fa 0),[.t 1],.none,none,(some (11,false))⟩,
  ⟨(some 13),(.ld false 1),[.t 12],(.lo 1),none,(some (11,false))⟩,
  ⟨(some 14),(.bin .eql),[.t 13,.c (.int .i64 4)],.none,none,(some (11,false))⟩,
  (op 15 .pick [.t 11,.c (.bool true),.t 14]),
  (mv 2 15)] [3,4,5,6,7,8,9,10,11,12,13,14,15,1]) <|
  .ret }

/- bitext/bitextref3.Has -/
def L158_0:ACode:=
  .loop [9,10,5,11,12,13,14,15,16,4,17] (.seq (.reg false [] [(op 9 (.bin .lss) [.t 8,.t 7])] []) <|
  .seq (.cond (.t 9) (.skip)
  (.exit 0)) <|
  .seq (.block 1 (.seq (.reg false [] [
  (mv 10 8),
  (mv 5 10)] [10]) <|
  .seq (.reg false [] [
  (mv 11 0),
  (mv 12 5),
  (op 13 (.ia 1) [.t 11,.t 12]),
  (op 14 (.ld false 1) [.t 13]),
  (mv 15 1),
  (op 16 (.bin .eql) [.t 14,.t 15])] [11,12,13,14,15,5]) <|
  .cond (.t 16) (.seq (.reg false [] [(op 4 .mv [.c (.bool true)])] []) <|
  .ret)
  (.skip))) <|
  .reg false [] [
  (op 17 (.bin .add) [.t 8,.c (.int .i64 1)]),
  (mv 8 17)] [17])
def F158:AFun:=
{nargs:=2,keep:=false,res:=[.tmp 4],body:=
  .seq (.reg false [] [(op 4 .mv [.c (.bool false)])] [4]) <|
  .seq (.seq (.reg false [] [
  (mv 6 0),
  (op 7 (.len false) [.t 6]),
  (op 8 .mv [.c (.int .i64 0)])] [6]) <|
  .block 0 (L158_0)) <|
  .seq (.reg false [] [(op 4 .mv [.c (.bool false)])] []) <|
  .ret }

/- internal/strconv.Itoa -/
def F160:AFun:=
{nargs:=1,keep:=false,res:=[.tmp 2],body:=
  .seq (.reg false [] [(op 2 .mv [.c (.str [])])] [2]) <|
  .seq (.reg false [] [
  (mv 3 0),
  (op 4 (.call 176) [.t 3,.c (.int .i64 10)]),
  (mv 2 4)] [3,4,0]) <|
  .ret }

/- bitext/class.Of -/
def F164:AFun:=
{nargs:=1,keep:=false,res:=[.tmp 2],body:=
  .seq (.reg false [] [(op 2 .mv [.c (.int .i64 0)])] [2]) <|
  .seq (.block 0 (.seq (.reg false [] [
  (mv 4 0),
  (op 5 (.bin .eql) [.t 4,.c (.int .u8 9)]),
  (mv 6 5),
  ⟨(some 7),.mv,[.t 0],.none,none,(some (6,false))⟩,
  ⟨(some 8),(.bin .eql),[.t 7,.c (.int .u8 10)],.none,none,(some (6,false))⟩,
  (op 9 .pick [.t 6,.c (.bool true),.t 8]),
  (mv 10 9),
  ⟨(some 11),.mv,[.t 0],.none,none,(some (10,false))⟩,
  ⟨(some 12),(.bin .eql),[.t 11,.c (.int .u8 13)],.none,none,(some (10,false))⟩,
  (op 13 .pick [.t 10,.c (.bool true),.t 12]),
  (mv 14 13),
  ⟨(some 15),.mv,[.t 0],.none,none,(some (14,false))⟩,
  ⟨(some 16),(.bin .eql),[.t 15,.c (.int .u8 32)],.none,none,(some (14,false))⟩,
  (op 17 .pick [.t 14,.c (.bool true),.t 16]),
  (mv 3 17)] [4,5,6,7,8,9,10,11,12,13,14,15,16,17]) <|
  .cond (.t 3) (.seq (.reg false [] [(op 2 .mv [.c (.int .i64 2)])] []) <|
  .ret)
  (.seq (.reg false [] [
  (mv 19 0),
  (op 20 (.bin .lss) [.t 19,.c (.int .u8 32)]),
  (mv 21 20),
  ⟨(some 22),.mv,[.t 0],.none,none,(some (21,false))⟩,
  ⟨(some 23),(.bin .eql),[.t 22,.c (.int .u8 127)],.none,none,(some (21,false))⟩,
  (op 24 .pick [.t 21,.c (.bool true),.t 23]),
  (mv 18 24)] [19,20,21,22,23,24]) <|
  .cond (.t 18) (.seq (.reg false [] [(op 2 .mv [.c (.int .i64 1)])] []) <|
  .ret)
  (.seq (.reg false [] [
  (mv 26 0),
  (op 27 (.bin .geq) [.t 26,.c (.int .u8 48)]),
  (mv 28 27),
  ⟨(some 29),.mv,[.t 0],.none,none,(some (28,true))⟩,
  ⟨(some 30),(.bin .leq),[.t 29,.c (.int .u8 57)],.none,none,(some (28,true))⟩,
  (op 31 .pick [.t 28,.t 30,.c (.bool false)]),
  (mv 25 31)] [26,27,28,29,30,31]) <|
  .cond (.t 25) (.seq (.reg false [] [(op 2 .mv [.c (.int .i64 3)])] []) <|
  .ret)
  (.seq (.reg false [] [
  (mv 33 0),
  (op 34 (.bin .geq) [.t 33,.c (.int .u8 97)]),
  (mv 35 34),
  ⟨(some 36),.mv,[.t 0],.none,none,(some (35,true))⟩,
  ⟨(some 37),(.bin .leq),[.t 36,.c (.int .u8 122)],.none,none,(some (35,true))⟩,
  (op 38 .pick [.t 35,.t 37,.c (.bool false)]),
  (mv 39 38),
  ⟨(some 40),.mv,[.t 0],.none,none,(some (39,false))⟩,
  ⟨(some 41),(.bin .geq),[.t 40,.c (.int .u8 65)],.none,none,(some (39,false))⟩,
  ⟨(some 42),.mv,[.t 41],.none,none,(some (39,false))⟩,
  ⟨(some 43),.mv,[.t 0],.none,none,(some (42,true))⟩,
  ⟨(some 44),(.bin .leq),[.t 43,.c (.int .u8 90)],.none,none,(some (42,true))⟩,
  ⟨(some 45),.pick,[.t 42,.t 44,.c (.bool false)],.none,none,(some (39,false))⟩,
  (op 46 .pick [.t 39,.c (.bool true),.t 45]),
  (mv 47 46),
  ⟨(some 48),.mv,[.t 0],.none,none,(some (47,false))⟩,
  ⟨(some 49),(.bin .geq),[.t 48,.c (.int .u8 128)],.none,none,(some (47,false))⟩,
  (op 50 .pick [.t 47,.c (.bool true),.t 49]),
  (mv 32 50)] [33,34,35,36,37,38,39,40,41,42,43,44,45,46,47,48,49,50,0]) <|
  .cond (.t 32) (.seq (.reg false [] [(op 2 .mv [.c (.int .i64 4)])] []) <|
  .ret)
  (.skip)))))) <|
  .seq (.reg false [] [(op 2 .mv [.c (.int .i64 5)])] []) <|
  .ret }

/- strings.Cut -/
def F168:AFun:=
{nargs:=2,keep:=false,res:=[.tmp 4,.tmp 5,.tmp 6],body:=
  .seq (.reg false [] [
  (op 4 .mv [.c (.str [])]),
  (op 5 .mv [.c (.str [])]),
  (op 6 .mv [.c (.bool false)])] [4,5,6]) <|
  .seq (.reg false [] [
  (mv 7 0),
  (mv 8 1),
  (op 9 (.call 178) [.t 7,.t 8]),
  (op 10 (.ext 0) [.t 9]),
  (op 11 (.ext 1) [.t 9]),
  (op 12 (.ext 2) [.t 9]),
  (mv 4 10),
  (mv 5 11),
  (mv 6 12)] [7,8,9,10,11,12,0,1]) <|
  .ret }

/- bitext/notation.hex -/
def F169:AFun:=
{nargs:=1,keep:=false,res:=[.tmp 2,.tmp 3],body:=
  .seq (.reg false [] [
  (op 2 .mv [.c (.int .u8 0)]),
  (op 3 .mv [.c (.bool false)])] [2,3]) <|
  .seq (.block 0 (.seq (.reg false [] [
  (mv 5 0),
  (op 6 (.bin .geq) [.t 5,.c (.int .u8 48)]),
  (mv 7 6),
  ⟨(some 8),.mv,[.t 0],.none,none,(some (7,true))⟩,
  ⟨(some 9),(.bin .leq),[.t 8,.c (.int .u8 57)],.none,none,(some (7,true))⟩,
  (op 10 .pick [.t 7,.t 9,.c (.bool false)]),
  (mv 4 10)] [5,6,7,8,9,10]) <|
  .cond (.t 4) (.seq (.reg false [] [
  (mv 11 0),
  (op 12 (.bin .sub) [.t 11,.c (.int .u8 48)]),
  (mv 2 12),
  (op 3 .mv [.c (.bool true)])] [11,12,0]) <|
  .ret)
  (.seq (.reg false [] [
  (mv 14 0),
  (op 15 (.bin .geq) [.t 14,.c (.int .u8 97)]),
  (mv 16 15),
  ⟨(some 17),.mv,[.t 0],.none,none,(some (16,true))⟩,
  ⟨(some 18),(.bin .leq),[.t 17,.c (.int .u8 102)],.none,none,(some (16,true))⟩,
  (op 19 .pick [.t 16,.t 18,.c (.bool false)]),
  (mv 13 19)] [14,15,16,17,18,19]) <|
  .cond (.t 13) (.seq (.reg false [] [
  (mv 20 0),
  (op 21 (.bin .sub) [.t 20,.c (.int .u8 97)]),
  (op 22 (.bin .add) [.t 21,.c (.int .u8 10)]),
  (mv 2 22),
  (op 3 .mv [.c (.bool true)])] [20,21,22,0]) <|
  .ret)
  (.skip)))) <|
  .seq (.reg false [] [
  (op 2 .mv [.c (.int .u8 0)]),
  (op 3 .mv [.c (.bool false)])] []) <|
  .ret }

/- internal/stringslite.IndexByte -/
def F170:AFun:=
{nargs:=2,keep:=false,res:=[.tmp 4],body:=
  .seq (.reg false [] [(op 4 .mv [.c (.int .i64 0)])] [4]) <|
  .seq (.reg false [] [
  (mv 5 0),
  (mv 6 1),
  (op 7 (.call 179) [.t 5,.t 6]),
  (mv 4 7)] [5,6,7,0,1]) <|
  .ret }

/- strings.HasPrefix -/
def F171:AFun:=
{nargs:=2,keep:=false,res:=[.tmp 4],body:=
  .seq (.reg false [] [(op 4 .mv [.c (.bool false)])] [4]) <|
  .seq (.reg false [] [
  (mv 5 0),
  (mv 6 1),
  (op 7 (.call 180) [.t 5,.t 6]),
  (mv 4 7)] [5,6,7,0,1]) <|
  .ret }

/- strings.HasSuffix -/
def F172:AFun:=
{nargs:=2,keep:=false,res:=[.tmp 4],body:=
  .seq (.reg false [] [(op 4 .mv [.c (.bool false)])] [4]) <|
  .seq (.reg false [] [
  (mv 5 0),
  (mv 6 1),
  (op 7 (.call 181) [.t 5,.t 6]),
  (mv 4 7)] [5,6,7,0,1]) <|
  .ret }

/- bitext/notation.number -/
def L173_0:ACode:=
  .loop [19,20,21,22,25,26,27,28,29,30,31,32,33,34,2,3,35,36,37,38,39,40,41,42,23,24] (.seq (.seq (.reg false [] [
  (mv 19 5),
  (mv 20 0),
  (op 21 (.len true) [.t 20]),
  (op 22 (.bin .lss) [.t 19,.t 21])] [19,20,21]) <|
  .cond (.t 22) (.skip)
  (.exit 0)) <|
  .seq (.block 1 (.seq (.seq (.reg false [] [
  (mv 25 0),
  (mv 26 5),
  (op 27 .ixs [.t 25,.t 26]),
  (op 28 (.bin .lss) [.t 27,.c (.int .u8 48)]),
  (mv 29 28),
  ⟨(some 30),.mv,[.t 0],.none,none,(some (29,false))⟩,
  ⟨(some 31),.mv,[.t 5],.none,none,(some (29,false))⟩,
  ⟨(some 32),.ixs,[.t 30,.t 31],.none,none,(some (29,false))⟩,
  ⟨(some 33),(.bin .gtr),[.t 32,.c (.int .u8 57)],.none,none,(some (29,false))⟩,
  (op 34 .pick [.t 29,.c (.bool true),.t 33])] [25,26,27,28,29,30,31,32,33]) <|
  .cond (.t 34) (.seq (.reg false [] [
  (op 2 .mv [.c (.int .i64 0)]),
  (op 3 .mv [.c (.bool false)])] []) <|
  .ret)
  (.skip)) <|
  .reg false [] [
  (mv 35 4),
  (op 36 (.bin .mul) [.c (.int .i64 10),.t 35]),
  (mv 37 0),
  (mv 38 5),
  (op 39 .ixs [.t 37,.t 38]),
  (op 40 (.bin .sub) [.t 39,.c (.int .u8 48)]),
  (op 41 (.cvi .i64) [.t 40]),
  (op 42 (.bin .add) [.t 36,.t 41]),
  (mv 4 42)] [35,36,37,38,39,40,41,42])) <|
  .reg false [] [
  (mv 23 5),
  (op 24 (.bin .add) [.t 23,.c (.int .i64 1)]),
  (mv 5 24)] [23,24])
def F173:AFun:=
{nargs:=1,keep:=false,res:=[.tmp 2,.tmp 3],body:=
  .seq (.reg false [] [
  (op 2 .mv [.c (.int .i64 0)]),
  (op 3 .mv [.c (.bool false)])] [2,3]) <|
  .seq (.seq (.reg false [] [
  (mv 6 0),
  (op 7 (.len true) [.t 6]),
  (op 8 (.bin .lss) [.t 7,.c (.int .i64 1)]),
  (mv 9 8),
  ⟨(some 10),.mv,[.t 0],.none,none,(some (9,false))⟩,
  ⟨(some 11),(.len true),[.t 10],.none,none,(some (9,false))⟩,
  ⟨(some 12),(.bin .gtr),[.t 11,.c (.int .i64 3)],.none,none,(some (9,false))⟩,
  (op 13 .pick [.t 9,.c (.bool true),.t 12]),
  (mv 14 13),
  ⟨(some 15),.mv,[.t 0],.none,none,(some (14,false))⟩,
  ⟨(some 16),.ixs,[.t 15,.c (.int .i64 0)],.none,none,(some (14,false))⟩,
  ⟨(some 17),(.bin .eql),[.t 16,.c (.int .u8 48)],.none,none,(some (14,false))⟩,
  (op 18 .pick [.t 14,.c (.bool true),.t 17])] [6,7,8,9,10,11,12,13,14,15,16,17]) <|
  .cond (.t 18) (.seq (.reg false [] [
  (op 2 .mv [.c (.int .i64 0)]),
  (op 3 .mv [.c (.bool false)])] []) <|
  .ret)
  (.skip)) <|
  .seq (.reg false [] [(op 4 .mv [.c (.int .i64 0)])] []) <|
  .seq (.seq (.reg false [] [(op 5 .mv [.c (.int .i64 0)])] []) <|
  .block 0 (L173_0)) <|
  .seq (.reg false [] [
  (mv 43 4),
  (mv 44 4),
  (op 45 (.bin .leq) [.t 44,.c (.int .i64 999)]),
  (mv 2 43),
  (mv 3 45)] [43,44,45,4]) <|
  .ret }

/- internal/strconv.FormatInt -/
def F176:AFun:=
{nargs:=2,keep:=false,res:=[.tmp 4],body:=
  .seq (.reg false [] [(op 4 .mv [.c (.str [])])] [4]) <|
  .seq (.seq (.reg false [] [
  (mv 10 1),
  (op 11 (.bin .eql) [.t 10,.c (.int .i64 10)])] [10]) <|
  .cond (.t 11) (.seq (.seq (.reg false [] [
  (mv 12 0),
  (op 13 (.bin .leq) [.c (.int .i64 0),.t 12]),
  (mv 14 13),
  ⟨(some 15),.mv,[.t 0],.none,none,(some (14,true))⟩,
  ⟨(some 16),(.bin .lss),[.t 15,.c (.int .i64 100)],.none,none,(some (14,true))⟩,
  (op 17 .pick [.t 14,.t 16,.c (.bool false)])] [12,13,14,15,16]) <|
  .cond (.t 17) (.seq (.reg false [] [
  (mv 18 0),
  (op 19 (.call 182) [.t 18]),
  (mv 4 19)] [18,19,0]) <|
  .ret)
  (.skip)) <|
  .seq (.reg false [] [⟨(some 5),(.allocS [.int .u8 0,.int .u8 0,.int .u8 0,.int .u8 0,.int .u8 0,.int .u8 0,.int .u8 0,.int .u8 0,.int .u8 0,.int .u8 0,.int .u8 0,.int .u8 0,.int .u8 0,.int .u8 0,.int .u8 0,.int .u8 0,.int .u8 0,.int .u8 0,.int .u8 0,.int .u8 0,.int .u8 0,.int .u8 0,.int .u8 0,.int .u8 0]),[],.sh,none,none⟩] []) <|
  .seq (.reg false [] [
  (mv 20 0),
  (op 21 (.cvi .u64) [.t 20]),
  (mv 6 21)] [20,21]) <|
  .seq (.seq (.reg false [] [
  (mv 22 0),
  (op 23 (.bin .lss) [.t 22,.c (.int .i64 0)])] [22]) <|
  .cond (.t 23) (.reg false [] [
  (mv 24 6),
  (op 25 (.un .neg) [.t 24]),
  (mv 6 25)] [24,25])
  (.skip)) <|
  .seq (.reg false [] [
  (mv 26 6),
  (op 27 (.call 183) [.t 26]),
  (mv 7 27)] [26,27]) <|
  .seq (.reg false [] [
  (mv 28 7),
  (op 29 (.bin .add) [.c (.int .i64 1),.t 28]),
  ⟨(some 30),(.sla 24),[.t 5,.c (.int .i64 1),.t 29],.sh,none,none⟩,
  (mv 31 6),
  ⟨(some 32),(.call 184),[.t 30,.t 31],.sh,none,none⟩] [28,29,30,31,32,6]) <|
  .seq (.seq (.reg false [] [
  (mv 33 0),
  (op 34 (.bin .lss) [.t 33,.c (.int .i64 0)])] [33,0]) <|
  .cond (.t 34) (.seq (.reg false [] [
  (op 35 (.iaA 1 24) [.t 5,.c (.int .i64 0)]),
  ⟨none,(.st 1),[.t 35,.c (.int .u8 45)],.sh,none,none⟩] [35]) <|
  .seq (.reg false [] [⟨none,.mv,[],.none,none,none⟩] []) <|
  .ret)
  (.skip)) <|
  .seq (.reg false [] [
  (mv 40 7),
  (op 41 (.bin .add) [.c (.int .i64 1),.t 40]),
  ⟨(some 42),(.sla 24),[.t 5,.c (.int .i64 1),.t 41],.sh,none,none⟩,
  ⟨(some 43),.b2s,[.t 42],.sh,none,none⟩,
  (mv 4 43)] [40,41,42,43,7,5]) <|
  .ret)
  (.skip)) <|
  .seq (.reg false [] [
  (mv 45 0),
  (op 46 (.cvi .u64) [.t 45]),
  (mv 47 1),
  (mv 48 0),
  (op 49 (.bin .lss) [.t 48,.c (.int .i64 0)]),
  (op 50 (.call 185) [.c (.sl .full 1 []),.t 46,.t 47,.t 49,.c (.bool false)]),
  (mv 44 50),
  (op 51 (.ext 0) [.t 44]),
  (op 52 (.ext 1) [.t 44]),
  ⟨(some 8),.mvo,[.t 51],.none,(some 51),none⟩,
  (mv 9 52)] [45,46,47,48,49,50,44,51,52,8,0,1]) <|
  .seq (.reg false [] [
  (mv 53 9),
  (mv 4 53)] [53,9]) <|
  .ret }

/- internal/stringslite.Cut -/
def F178:AFun:=
{nargs:=2,keep:=false,res:=[.tmp 4,.tmp 5,.tmp 6],body:=
  .seq (.reg false [] [
  (op 4 .mv [.c (.str [])]),
  (op 5 .mv [.c (.str [])]),
  (op 6 .mv [.c (.bool false)])] [4,5,6]) <|
  .seq (.seq (.reg false [] [
  (mv 8 0),
  (mv 9 1),
  (op 10 (.call 186) [.t 8,.t 9]),
  (mv 7 10)] [8,9,10]) <|
  .seq (.reg false [] [
  (mv 11 7),
  (op 12 (.bin .geq) [.t 11,.c (.int .i64 0)])] [11]) <|
  .cond (.t 12) (.seq (.reg true [] [
  (mv 13 0),
  (mv 14 7),
  (op 15 (.slc true 0 false true) [.t 13,.t 14]),
  (mv 16 0),
  (mv 17 7),
  (mv 18 1),
  (op 19 (.len true) [.t 18]),
  (op 20 (.bin .add) [.t 17,.t 19]),
  (op 21 (.slc true 0 true false) [.t 16,.t 20]),
  (mv 4 15),
  (mv 5 21),
  (op 6 .mv [.c (.bool true)])] [13,14,15,16,17,18,19,20,21,0,7,1]) <|
  .ret)
  (.skip)) <|
  .seq (.reg false [] [
  (mv 22 0),
  (mv 4 22),
  (op 5 .mv [.c (.str [])]),
  (op 6 .mv [.c (.bool false)])] [22,0]) <|
  .ret }

/- internal/stringslite.HasPrefix -/
def F180:AFun:=
{nargs:=2,keep:=false,res:=[.tmp 4],body:=
  .seq (.reg false [] [(op 4 .mv [.c (.bool false)])] [4]) <|
  .seq (.reg false [] [
  (mv 5 0),
  (op 6 (.len true) [.t 5]),
  (mv 7 1),
  (op 8 (.len true) [.t 7]),
  (op 9 (.bin .geq) [.t 6,.t 8]),
  (mv 10 9),
  ⟨(some 11),.mv,[.t 0],.none,none,(some (10,true))⟩,
  ⟨(some 12),.mv,[.t 1],.none,none,(some (10,true))⟩,
  ⟨(some 13),(.len true),[.t 12],.none,none,(some (10,true))⟩,
  ⟨(some 14),(.slc true 0 false true),[.t 11,.t 13],.none,none,(some (10,true))⟩,
  ⟨(some 15),.mv,[.t 1],.none,none,(some (10,true))⟩,
  ⟨(some 16),(.bin .eql),[.t 14,.t 15],.none,none,(some (10,true))⟩,
  (op 17 .pick [.t 10,.t 16,.c (.bool false)]),
  (mv 4 17)] [5,6,7,8,9,10,11,12,13,14,15,16,17,0,1]) <|
  .ret }

/- internal/stringslite.HasSuffix -/
def F181:AFun:=
{nargs:=2,keep:=false,res:=[.tmp 4],body:=
  .seq (.reg false [] [(op 4 .mv [.c (.bool false)])] [4]) <|
  .seq (.reg false [] [
  (mv 5 0),
  (op 6 (.len true) [.t 5]),
  (mv 7 1),
  (op 8 (.len true) [.t 7]),
  (op 9 (.bin .geq) [.t 6,.t 8]),
  (mv 10 9),
  ⟨(some 11),.mv,[.t 0],.none,none,(some (10,true))⟩,
  ⟨(some 12),.mv,[.t 0],.none,none,(some (10,true))⟩,
  ⟨(some 13),(.len true),[.t 12],.none,none,(some (10,true))⟩,
  ⟨(some 14),.mv,[.t 1],.none,none,(some (10,true))⟩,
  ⟨(some 15),(.len true),[.t 14],.none,none,(some (10,true))⟩,
  ⟨(some 16),(.bin .sub),[.t 13,.t 15],.none,none,(some (10,true))⟩,
  ⟨(some 17),(.slc true 0 true false),[.t 11,.t 16],.none,none,(some (10,true))⟩,
  ⟨(some 18),.mv,[.t 1],.none,none,(some (10,true))⟩,
  ⟨(some 19),(.bin .eql),[.t 17,.t 18],.none,none,(some (10,true))⟩,
  (op 20 .pick [.t 10,.t 19,.c (.bool false)]),
  (mv 4 20)] [5,6,7,8,9,10,11,12,13,14,15,16,17,18,19,20,0,1]) <|
  .ret }

/- internal/strconv.small -/
def F182:AFun:=
{nargs:=1,keep:=false,res:=[.tmp 2],body:=
  .seq (.reg false [] [(op 2 .mv [.c (.str [])])] [2]) <|
  .seq (.seq (.reg false [] [
  (mv 3 0),
  (op 4 (.bin .lss) [.t 3,.c (.int .i64 10)])] [3]) <|
  .cond (.t 4) (.seq (.reg false [] [
  (mv 5 0),
  (mv 6 0),
  (op 7 (.bin .add) [.t 6,.c (.int .i64 1)]),
  (op 8 (.slc true 0 true true) [.c (.str [48,49,50,51,52,53,54,55,56,57,97,98,99,100,101,102,103,104,105,106,107,108,109,110,111,112,113,114,115,116,117,118,119,120,121,122]),.t 5,.t 7]),
  (mv 2 8)] [5,6,7,8,0]) <|
  .ret)
  (.skip)) <|
  .seq (.reg false [] [
  (mv 9 0),
  (op 10 (.bin .mul) [.t 9,.c (.int .i64 2)]),
  (mv 11 0),
  (op 12 (.bin .mul) [.t 11,.c (.int .i64 2)]),
  (op 13 (.bin .add) [.t 12,.c (.int .i64 2)]),
  (op 14 (.slc true 0 true true) [.c (.str [48,48,48,49,48,50,48,51,48,52,48,53,48,54,48,55,48,56,48,57,49,48,49,49,49,50,49,51,49,52,49,53,49,54,49,55,49,56,49,57,50,48,50,49,50,50,50,51,50,52,50,53,50,54,50,55,50,56,50,57,51,48,51,49,51,50,51,51,51,52,51,53,51,54,51,55,51,56,51,57,52,48,52,49,52,50,52,51,52,52,52,53,52,54,52,55,52,56,52,57,53,48,53,49,53,50,53,51,53,52,53,53,53,54,53,55,53,56,53,57,54,48,54,49,54,50,54,51,54,52,54,53,54,54,54,55,54,56,54,57,55,48,55,49,55,50,55,51,55,52,55,53,55,54,55,55,55,56,55,57,56,48,56,49,56,50,56,51,56,52,56,53,56,54,56,55,56,56,56,57,57,48,57,49,57,50,57,51,57,52,57,53,57,54,57,55,57,56,57,57]),.t 10,.t 13]),
  (mv 2 14)] [9,10,11,12,13,14,0]) <|
  .ret }

/- internal/strconv.numDigits -/
def F183:AFun:=
{nargs:=1,keep:=false,res:=[.tmp 2],body:=
  .seq (.reg false [] [(op 2 .mv [.c (.int .i64 0)])] [2]) <|
  .seq (.reg false [] [
  (mv 4 0),
  (op 5 (.call 188) [.t 4]),
  (op 6 (.call 187) [.t 5]),
  (mv 3 6)] [4,5,6]) <|
  .seq (.reg false [] [
  (mv 7 3),
  (mv 8 0),
  (mv 9 3),
  (op 10 (.iaA 1 20) [.c (.ip [.int .u64 1,.int .u64 10,.int .u64 100,.int .u64 1000,.int .u64 10000,.int .u64 100000,.int .u64 1000000,.int .u64 10000000,.int .u64 100000000,.int .u64 1000000000,.int .u64 10000000000,.int .u64 100000000000,.int .u64 1000000000000,.int .u64 10000000000000,.int .u64 100000000000000,.int .u64 1000000000000000,.int .u64 10000000000000000,.int .u64 100000000000000000,.int .u64 1000000000000000000,.int .u64 10000000000000000000]),.t 9]),
  ⟨(some 11),(.ld false 1),[.t 10],.sh,none,none⟩,
  (op 12 (.bin .geq) [.t 8,.t 11]),
  (op 13 (.call 189) [.t 12]),
  (op 14 (.bin .add) [.t 7,.t 13]),
  (mv 2 14)] [7,8,9,10,11,12,13,14,3,0]) <|
  .ret }

/- internal/strconv.formatBase10 -/
def L184_0:ACode:=
  .loop [19,20,21,22,23,5,24,25,26,27,28,29,6,7,30,31,32,33,34,35,8,9,36,37,38,39,40,41,10,11,42,43,44,45,46,47,48,49,50,51,52,53,54,55,56,57,58,59,60,61,62,63,64,65,66,67,68,69,70,71,72,73,74,75,76,77,78,79,80,81,82,83,84,85,86,87,88,89,90,91,92,93,94,95] (.seq (.seq (.reg false [] [
  (mv 19 4),
  (op 20 (.bin .geq) [.t 19,.c (.int .i64 8)])] [19]) <|
  .cond (.t 20) (.skip)
  (.exit 0)) <|
  .block 1 (.seq (.reg false [] [
  (mv 21 1),
  (op 22 (.bin .rem) [.t 21,.c (.int .u64 100000000)]),
  (op 23 (.cvi .u32) [.t 22]),
  (mv 5 23)] [21,22,23]) <|
  .seq (.reg false [] [
  (mv 24 1),
  (op 25 (.bin .quo) [.t 24,.c (.int .u64 100000000)]),
  (mv 1 25)] [24,25]) <|
  .seq (.reg false [] [
  (mv 26 5),
  (op 27 (.bin .quo) [.t 26,.c (.int .u32 10000)]),
  (mv 28 5),
  (op 29 (.bin .rem) [.t 28,.c (.int .u32 10000)]),
  (mv 6 27),
  (mv 7 29)] [26,27,28,29,5]) <|
  .seq (.reg false [] [
  (mv 30 7),
  (op 31 (.bin .quo) [.t 30,.c (.int .u32 100)]),
  (op 32 (.bin .mul) [.t 31,.c (.int .u32 2)]),
  (mv 33 7),
  (op 34 (.bin .rem) [.t 33,.c (.int .u32 100)]),
  (op 35 (.bin .mul) [.t 34,.c (.int .u32 2)]),
  (mv 8 32),
  (mv 9 35)] [30,31,32,33,34,35,7]) <|
  .seq (.reg false [] [
  (mv 36 6),
  (op 37 (.bin .quo) [.t 36,.c (.int .u32 100)]),
  (op 38 (.bin .mul) [.t 37,.c (.int .u32 2)]),
  (mv 39 6),
  (op 40 (.bin .rem) [.t 39,.c (.int .u32 100)]),
  (op 41 (.bin .mul) [.t 40,.c (.int .u32 2)]),
  (mv 10 38),
  (mv 11 41)] [36,37,38,39,40,41,6]) <|
  .seq (.reg true [] [
  (mv 42 0),
  (mv 43 4),
  (op 44 (.bin .sub) [.t 43,.c (.int .i64 1)]),
  (mv 45 0),
  (mv 46 4),
  (op 47 (.bin .sub) [.t 46,.c (.int .i64 2)]),
  (mv 48 9),
  (op 49 (.bin .add) [.t 48,.c (.int .u32 1)]),
  (op 50 .ixs [.c (.str [48,48,48,49,48,50,48,51,48,52,48,53,48,54,48,55,48,56,48,57,49,48,49,49,49,50,49,51,49,52,49,53,49,54,49,55,49,56,49,57,50,48,50,49,50,50,50,51,50,52,50,53,50,54,50,55,50,56,50,57,51,48,51,49,51,50,51,51,51,52,51,53,51,54,51,55,51,56,51,57,52,48,52,49,52,50,52,51,52,52,52,53,52,54,52,55,52,56,52,57,53,48,53,49,53,50,53,51,53,52,53,53,53,54,53,55,53,56,53,57,54,48,54,49,54,50,54,51,54,52,54,53,54,54,54,55,54,56,54,57,55,48,55,49,55,50,55,51,55,52,55,53,55,54,55,55,55,56,55,57,56,48,56,49,56,50,56,51,56,52,56,53,56,54,56,55,56,56,56,57,57,48,57,49,57,50,57,51,57,52,57,53,57,54,57,55,57,56,57,57]),.t 49]),
  (mv 51 9),
  (op 52 .ixs [.c (.str [48,48,48,49,48,50,48,51,48,52,48,53,48,54,48,55,48,56,48,57,49,48,49,49,49,50,49,51,49,52,49,53,49,54,49,55,49,56,49,57,50,48,50,49,50,50,50,51,50,52,50,53,50,54,50,55,50,56,50,57,51,48,51,49,51,50,51,51,51,52,51,53,51,54,51,55,51,56,51,57,52,48,52,49,52,50,52,51,52,52,52,53,52,54,52,55,52,56,52,57,53,48,53,49,53,50,53,51,53,52,53,53,53,54,53,55,53,56,53,57,54,48,54,49,54,50,54,51,54,52,54,53,54,54,54,55,54,56,54,57,55,48,55,49,55,50,55,51,55,52,55,53,55,54,55,55,55,56,55,57,56,48,56,49,56,50,56,51,56,52,56,53,56,54,56,55,56,56,56,57,57,48,57,49,57,50,57,51,57,52,57,53,57,54,57,55,57,56,57,57]),.t 51]),
  (op 53 (.ia 1) [.t 42,.t 44]),
  ⟨none,(.st 1),[.t 53,.t 50],.sh,none,none⟩,
  (op 54 (.ia 1) [.t 45,.t 47]),
  ⟨none,(.st 1),[.t 54,.t 52],.sh,none,none⟩] [42,43,44,45,46,47,48,49,50,51,52,53,54,9]) <|
  .seq (.reg true [] [
  (mv 55 0),
  (mv 56 4),
  (op 57 (.bin .sub) [.t 56,.c (.int .i64 3)]),
  (mv 58 0),
  (mv 59 4),
  (op 60 (.bin .sub) [.t 59,.c (.int .i64 4)]),
  (mv 61 8),
  (op 62 (.bin .add) [.t 61,.c (.int .u32 1)]),
  (op 63 .ixs [.c (.str [48,48,48,49,48,50,48,51,48,52,48,53,48,54,48,55,48,56,48,57,49,48,49,49,49,50,49,51,49,52,49,53,49,54,49,55,49,56,49,57,50,48,50,49,50,50,50,51,50,52,50,53,50,54,50,55,50,56,50,57,51,48,51,49,51,50,51,51,51,52,51,53,51,54,51,55,51,56,51,57,52,48,52,49,52,50,52,51,52,52,52,53,52,54,52,55,52,56,52,57,53,48,53,49,53,50,53,51,53,52,53,53,53,54,53,55,53,56,53,57,54,48,54,49,54,50,54,51,54,52,54,53,54,54,54,55,54,56,54,57,55,48,55,49,55,50,55,51,55,52,55,53,55,54,55,55,55,56,55,57,56,48,56,49,56,50,56,51,56,52,56,53,56,54,56,55,56,56,56,57,57,48,57,49,57,50,57,51,57,52,57,53,57,54,57,55,57,56,57,57]),.t 62]),
  (mv 64 8),
  (op 65 .ixs [.c (.str [48,48,48,49,48,50,48,51,48,52,48,53,48,54,48,55,48,56,48,57,49,48,49,49,49,50,49,51,49,52,49,53,49,54,49,55,49,56,49,57,50,48,50,49,50,50,50,51,50,52,50,53,50,54,50,55,50,56,50,57,51,48,51,49,51,50,51,51,51,52,51,53,51,54,51,55,51,56,51,57,52,48,52,49,52,50,52,51,52,52,52,53,52,54,52,55,52,56,52,57,53,48,53,49,53,50,53,51,53,52,53,53,53,54,53,55,53,56,53,57,54,48,54,49,54,50,54,51,54,52,54,53,54,54,54,55,54,56,54,57,55,48,55,49,55,50,55,51,55,52,55,53,55,54,55,55,55,56,55,57,56,48,56,49,56,50,56,51,56,52,56,53,56,54,56,55,56,56,56,57,57,48,57,49,57,50,57,51,57,52,57,53,57,54,57,55,57,56,57,57]),.t 64]),
  (op 66 (.ia 1) [.t 55,.t 57]),
  ⟨none,(.st 1),[.t 66,.t 63],.sh,none,none⟩,
  (op 67 (.ia 1) [.t 58,.t 60]),
  ⟨none,(.st 1),[.t 67,.t 65],.sh,none,none⟩] [55,56,57,58,59,60,61,62,63,64,65,66,67,8]) <|
  .seq (.reg true [] [
  (mv 68 0),
  (mv 69 4),
  (op 70 (.bin .sub) [.t 69,.c (.int .i64 5)]),
  (mv 71 0),
  (mv 72 4),
  (op 73 (.bin .sub) [.t 72,.c (.int .i64 6)]),
  (mv 74 11),
  (op 75 (.bin .add) [.t 74,.c (.int .u32 1)]),
  (op 76 .ixs [.c (.str [48,48,48,49,48,50,48,51,48,52,48,53,48,54,48,55,48,56,48,57,49,48,49,49,49,50,49,51,49,52,49,53,49,54,49,55,49,56,49,57,50,48,50,49,50,50,50,51,50,52,50,53,50,54,50,55,50,56,50,57,51,48,51,49,51,50,51,51,51,52,51,53,51,54,51,55,51,56,51,57,52,48,52,49,52,50,52,51,52,52,52,53,52,54,52,55,52,56,52,57,53,48,53,49,53,50,53,51,53,52,53,53,53,54,53,55,53,56,53,57,54,48,54,49,54,50,54,51,54,52,54,53,54,54,54,55,54,56,54,57,55,48,55,49,55,50,55,51,55,52,55,53,55,54,55,55,55,56,55,57,56,48,56,49,56,50,56,51,56,52,56,53,56,54,56,55,56,56,56,57,57,48,57,49,57,50,57,51,57,52,57,53,57,54,57,55,57,56,57,57]),.t 75]),
  (mv 77 11),
  (op 78 .ixs [.c (.str [48,48,48,49,48,50,48,51,48,52,48,53,48,54,48,55,48,56,48,57,49,48,49,49,49,50,49,51,49,52,49,53,49,54,49,55,49,56,49,57,50,48,50,49,50,50,50,51,50,52,50,53,50,54,50,55,50,56,50,57,51,48,51,49,51,50,51,51,51,52,51,53,51,54,51,55,51,56,51,57,52,48,52,49,52,50,52,51,52,52,52,53,52,54,52,55,52,56,52,57,53,48,53,49,53,50,53,51,53,52,53,53,53,54,53,55,53,56,53,57,54,48,54,49,54,50,54,51,54,52,54,53,54,54,54,55,54,56,54,57,55,48,55,49,55,50,55,51,55,52,55,53,55,54,55,55,55,56,55,57,56,48,56,49,56,50,56,51,56,52,56,53,56,54,56,55,56,56,56,57,57,48,57,49,57,50,57,51,57,52,57,53,57,54,57,55,57,56,57,57]),.t 77]),
  (op 79 (.ia 1) [.t 68,.t 70]),
  ⟨none,(.st 1),[.t 79,.t 76],.sh,none,none⟩,
  (op 80 (.ia 1) [.t 71,.t 73]),
  ⟨none,(.st 1),[.t 80,.t 78],.sh,none,none⟩] [68,69,70,71,72,73,74,75,76,77,78,79,80,11]) <|
  .seq (.reg true [] [
  (mv 81 0),
  (mv 82 4),
  (op 83 (.bin .sub) [.t 82,.c (.int .i64 7)]),
  (mv 84 0),
  (mv 85 4),
  (op 86 (.bin .sub) [.t 85,.c (.int .i64 8)]),
  (mv 87 10),
  (op 88 (.bin .add) [.t 87,.c (.int .u32 1)]),
  (op 89 .ixs [.c (.str [48,48,48,49,48,50,48,51,48,52,48,53,48,54,48,55,48,56,48,57,49,48,49,49,49,50,49,51,49,52,49,53,49,54,49,55,49,56,49,57,50,48,50,49,50,50,50,51,50,52,50,53,50,54,50,55,50,56,50,57,51,48,51,49,51,50,51,51,51,52,51,53,51,54,51,55,51,56,51,57,52,48,52,49,52,50,52,51,52,52,52,53,52,54,52,55,52,56,52,57,53,48,53,49,53,50,53,51,53,52,53,53,53,54,53,55,53,56,53,57,54,48,54,49,54,50,54,51,54,52,54,53,54,54,54,55,54,56,54,57,55,48,55,49,55,50,55,51,55,52,55,53,55,54,55,55,55,56,55,57,56,48,56,49,56,50,56,51,56,52,56,53,56,54,56,55,56,56,56,57,57,48,57,49,57,50,57,51,57,52,57,53,57,54,57,55,57,56,57,57]),.t 88]),
  (mv 90 10),
  (op 91 .ixs [.c (.str [48,48,48,49,48,50,48,51,48,52,48,53,48,54,48,55,48,56,48,57,49,48,49,49,49,50,49,51,49,52,49,53,49,54,49,55,49,56,49,57,50,48,50,49,50,50,50,51,50,52,50,53,50,54,50,55,50,56,50,57,51,48,51,49,51,50,51,51,51,52,51,53,51,54,51,55,51,56,51,57,52,48,52,49,52,50,52,51,52,52,52,53,52,54,52,55,52,56,52,57,53,48,53,49,53,50,53,51,53,52,53,53,53,54,53,55,53,56,53,57,54,48,54,49,54,50,54,51,54,52,54,53,54,54,54,55,54,56,54,57,55,48,55,49,55,50,55,51,55,52,55,53,55,54,55,55,55,56,55,57,56,48,56,49,56,50,56,51,56,52,56,53,56,54,56,55,56,56,56,57,57,48,57,49,57,50,57,51,57,52,57,53,57,54,57,55,57,56,57,57]),.t 90]),
  (op 92 (.ia 1) [.t 81,.t 83]),
  ⟨none,(.st 1),[.t 92,.t 89],.sh,none,none⟩,
  (op 93 (.ia 1) [.t 84,.t 86]),
  ⟨none,(.st 1),[.t 93,.t 91],.sh,none,none⟩] [81,82,83,84,85,86,87,88,89,90,91,92,93,10]) <|
  .reg false [] [
  (mv 94 4),
  (op 95 (.bin .sub) [.t 94,.c (.int .i64 8)]),
  (mv 4 95)] [94,95]))
def F184:AFun:=
{nargs:=2,keep:=false,res:=[],body:=
  .seq (.reg false [] [
  (mv 17 0),
  (op 18 (.len false) [.t 17]),
  (mv 4 18)] [17,18]) <|
  .seq (.block 0 (L184_0)) <|
  .seq (.reg false [] [
  (mv 96 1),
  (op 97 (.cvi .u32) [.t 96]),
  (mv 12 97)] [96,97,1]) <|
  .seq (.seq (.reg false [] [
  (mv 98 4),
  (op 99 (.bin .geq) [.t 98,.c (.int .i64 4)])] [98]) <|
  .cond (.t 99) (.seq (.reg false [] [
  (mv 100 12),
  (op 101 (.bin .rem) [.t 100,.c (.int .u32 10000)]),
  (mv 13 101)] [100,101]) <|
  .seq (.reg false [] [
  (mv 102 12),
  (op 103 (.bin .quo) [.t 102,.c (.int .u32 10000)]),
  (mv 12 103)] [102,103]) <|
  .seq (.reg false [] [
  (mv 104 13),
  (op 105 (.bin .quo) [.t 104,.c (.int .u32 100)]),
  (op 106 (.bin .mul) [.t 105,.c (.int .u32 2)]),
  (mv 107 13),
  (op 108 (.bin .rem) [.t 107,.c (.int .u32 100)]),
  (op 109 (.bin .mul) [.t 108,.c (.int .u32 2)]),
  (mv 14 106),
  (mv 15 109)] [104,105,106,107,108,109,13]) <|
  .seq (.reg true [] [
  (mv 110 0),
  (mv 111 4),
  (op 112 (.bin .sub) [.t 111,.c (.int .i64 1)]),
  (mv 113 0),
  (mv 114 4),
  (op 115 (.bin .sub) [.t 114,.c (.int .i64 2)]),
  (mv 116 15),
  (op 117 (.bin .add) [.t 116,.c (.int .u32 1)]),
  (op 118 .ixs [.c (.str [48,48,48,49,48,50,48,51,48,52,48,53,48,54,48,55,48,56,48,57,49,48,49,49,49,50,49,51,49,52,49,53,49,54,49,55,49,56,49,57,50,48,50,49,50,50,50,51,50,52,50,53,50,54,50,55,50,56,50,57,51,48,51,49,51,50,51,51,51,52,51,53,51,54,51,55,51,56,51,57,52,48,52,49,52,50,52,51,52,52,52,53,52,54,52,55,52,56,52,57,53,48,53,49,53,50,53,51,53,52,53,53,53,54,53,55,53,56,53,57,54,48,54,49,54,50,54,51,54,52,54,53,54,54,54,55,54,56,54,57,55,48,55,49,55,50,55,51,55,52,55,53,55,54,55,55,55,56,55,57,56,48,56,49,56,50,56,51,56,52,56,53,56,54,56,55,56,56,56,57,57,48,57,49,57,50,57,51,57,52,57,53,57,54,57,55,57,56,57,57]),.t 117]),
  (mv 119 15),
  (op 120 .ixs [.c (.str [48,48,48,49,48,50,48,51,48,52,48,53,48,54,48,55,48,56,48,57,49,48,49,49,49,50,49,51,49,52,49,53,49,54,49,55,49,56,49,57,50,48,50,49,50,50,50,51,50,52,50,53,50,54,50,55,50,56,50,57,51,48,51,49,51,50,51,51,51,52,51,53,51,54,51,55,51,56,51,57,52,48,52,49,52,50,52,51,52,52,52,53,52,54,52,55,52,56,52,57,53,48,53,49,53,50,53,51,53,52,53,53,53,54,53,55,53,56,53,57,54,48,54,49,54,50,54,51,54,52,54,53,54,54,54,55,54,56,54,57,55,48,55,49,55,50,55,51,55,52,55,53,55,54,55,55,55,56,55,57,56,48,56,49,56,50,56,51,56,52,56,53,56,54,56,55,56,56,56,57,57,48,57,49,57,50,57,51,57,52,57,53,57,54,57,55,57,56,57,57]),.t 119]),
  (op 121 (.ia 1) [.t 110,.t 112]),
  ⟨none,(.st 1),[.t 121,.t 118],.sh,none,none⟩,
  (op 122 (.ia 1) [.t 113,.t 115]),
  ⟨none,(.st 1),[.t 122,.t 120],.sh,none,none⟩] [110,111,112,113,114,115,116,117,118,119,120,121,122,15]) <|
  .seq (.reg true [] [
  (mv 123 0),
  (mv 124 4),
  (op 125 (.bin .sub) [.t 124,.c (.int .i64 3)]),
  (mv 126 0),
  (mv 127 4),
  (op 128 (.bin .sub) [.t 127,.c (.int .i64 4)]),
  (mv 129 14),
  (op 130 (.bin .add) [.t 129,.c (.int .u32 1)]),
  (op 131 .ixs [.c (.str [48,48,48,49,48,50,48,51,48,52,48,53,48,54,48,55,48,56,48,57,49,48,49,49,49,50,49,51,49,52,49,53,49,54,49,55,49,56,49,57,50,48,50,49,50,50,50,51,50,52,50,53,50,54,50,55,50,56,50,57,51,48,51,49,51,50,51,51,51,52,51,53,51,54,51,55,51,56,51,57,52,48,52,49,52,50,52,51,52,52,52,53,52,54,52,55,52,56,52,57,53,48,53,49,53,50,53,51,53,52,53,53,53,54,53,55,53,56,53,57,54,48,54,49,54,50,54,51,54,52,54,53,54,54,54,55,54,56,54,57,55,48,55,49,55,50,55,51,55,52,55,53,55,54,55,55,55,56,55,57,56,48,56,49,56,50,56,51,56,52,56,53,56,54,56,55,56,56,56,57,57,48,57,49,57,50,57,51,57,52,57,53,57,54,57,55,57,56,57,57]),.t 130]),
  (mv 132 14),
  (op 133 .ixs [.c (.str [48,48,48,49,48,50,48,51,48,52,48,53,48,54,48,55,48,56,48,57,49,48,49,49,49,50,49,51,49,52,49,53,49,54,49,55,49,56,49,57,50,48,50,49,50,50,50,51,50,52,50,53,50,54,50,55,50,56,50,57,51,48,51,49,51,50,51,51,51,52,51,53,51,54,51,55,51,56,51,57,52,48,52,49,52,50,52,51,52,52,52,53,52,54,52,55,52,56,52,57,53,48,53,49,53,50,53,51,53,52,53,53,53,54,53,55,53,56,53,57,54,48,54,49,54,50,54,51,54,52,54,53,54,54,54,55,54,56,54,57,55,48,55,49,55,50,55,51,55,52,55,53,55,54,55,55,55,56,55,57,56,48,56,49,56,50,56,51,56,52,56,53,56,54,56,55,56,56,56,57,57,48,57,49,57,50,57,51,57,52,57,53,57,54,57,55,57,56,57,57]),.t 132]),
  (op 134 (.ia 1) [.t 123,.t 125]),
  ⟨none,(.st 1),[.t 134,.t 131],.sh,none,none⟩,
  (op 135 (.ia 1) [.t 126,.t 128]),
  ⟨none,(.st 1),[.t 135,.t 133],.sh,none,none⟩] [123,124,125,126,127,128,129,130,131,132,133,134,135,14]) <|
  .reg false [] [
  (mv 136 4),
  (op 137 (.bin .sub) [.t 136,.c (.int .i64 4)]),
  (mv 4 137)] [136,137])
  (.skip)) <|
  .seq (.seq (.reg false [] [
  (mv 138 4),
  (op 139 (.bin .geq) [.t 138,.c (.int .i64 2)])] [138]) <|
  .cond (.t 139) (.seq (.reg false [] [
  (mv 140 12),
  (op 141 (.bin .rem) [.t 140,.c (.int .u32 100)]),
  (op 142 (.bin .mul) [.t 141,.c (.int .u32 2)]),
  (mv 16 142)] [140,141,142]) <|
  .seq (.reg false [] [
  (mv 143 12),
  (op 144 (.bin .quo) [.t 143,.c (.int .u32 100)]),
  (mv 12 144)] [143,144]) <|
  .seq (.reg true [] [
  (mv 145 0),
  (mv 146 4),
  (op 147 (.bin .sub) [.t 146,.c (.int .i64 1)]),
  (mv 148 0),
  (mv 149 4),
  (op 150 (.bin .sub) [.t 149,.c (.int .i64 2)]),
  (mv 151 16),
  (op 152 (.bin .add) [.t 151,.c (.int .u32 1)]),
  (op 153 .ixs [.c (.str [48,48,48,49,48,50,48,51,48,52,48,53,48,54,48,55,48,56,48,57,49,48,49,49,49,50,49,51,49,52,49,53,49,54,49,55,49,56,49,57,50,48,50,49,50,50,50,51,50,52,50,53,50,54,50,55,50,56,50,57,51,48,51,49,51,50,51,51,51,52,51,53,51,54,51,55,51,56,51,57,52,48,52,49,52,50,52,51,52,52,52,53,52,54,52,55,52,56,52,57,53,48,53,49,53,50,53,51,53,52,53,53,53,54,53,55,53,56,53,57,54,48,54,49,54,50,54,51,54,52,54,53,54,54,54,55,54,56,54,57,55,48,55,49,55,50,55,51,55,52,55,53,55,54,55,55,55,56,55,57,56,48,56,49,56,50,56,51,56,52,56,53,56,54,56,55,56,56,56,57,57,48,57,49,57,50,57,51,57,52,57,53,57,54,57,55,57,56,57,57]),.t 152]),
  (mv 154 16),
  (op 155 .ixs [.c (.str [48,48,48,49,48,50,48,51,48,52,48,53,48,54,48,55,48,56,48,57,49,48,49,49,49,50,49,51,49,52,49,53,49,54,49,55,49,56,49,57,50,48,50,49,50,50,50,51,50,52,50,53,50,54,50,55,50,56,50,57,51,48,51,49,51,50,51,51,51,52,51,53,51,54,51,55,51,56,51,57,52,48,52,49,52,50,52,51,52,52,52,53,52,54,52,55,52,56,52,57,53,48,53,49,53,50,53,51,53,52,53,53,53,54,53,55,53,56,53,57,54,48,54,49,54,50,54,51,54,52,54,53,54,54,54,55,54,56,54,57,55,48,55,49,55,50,55,51,55,52,55,53,55,54,55,55,55,56,55,57,56,48,56,49,56,50,56,51,56,52,56,53,56,54,56,55,56,56,56,57,57,48,57,49,57,50,57,51,57,52,57,53,57,54,57,55,57,56,57,57]),.t 154]),
  (op 156 (.ia 1) [.t 145,.t 147]),
  ⟨none,(.st 1),[.t 156,.t 153],.sh,none,none⟩,
  (op 157 (.ia 1) [.t 148,.t 150]),
  ⟨none,(.st 1),[.t 157,.t 155],.sh,none,none⟩] [145,146,147,148,149,150,151,152,153,154,155,156,157,16]) <|
  .reg false [] [
  (mv 158 4),
  (op 159 (.bin .sub) [.t 158,.c (.int .i64 2)]),
  (mv 4 159)] [158,159])
  (.skip)) <|
  .seq (.reg false [] [
  (mv 160 4),
  (op 161 (.bin .gtr) [.t 160,.c (.int .i64 0)])] [160,4]) <|
  .cond (.t 161) (.reg false [] [
  (mv 162 0),
  (mv 163 12),
  (op 164 (.bin .add) [.c (.int .u32 48),.t 163]),
  (op 165 (.cvi .u8) [.t 164]),
  (op 166 (.ia 1) [.t 162,.c (.int .i64 0)]),
  ⟨none,(.st 1),[.t 166,.t 165],.sh,none,none⟩] [162,163,164,165,166,0,12])
  (.skip) }

/- internal/stringslite.Index -/
def L186_0:ACode:=
  .loop [57,58,59,60,61,62,63,64,65,66,67,68,69,70,71,11,72,73,4,74,75,76,77,78,79,80,81,82,83,84,85,86,87,88,89,90,91,92,93,94,95,96,97,98,99,100,101,102,103,104,105,106,107,108,109,110,111,112,12,113,114,115,116,117,118,119,120,121,122,123,124,125,126,127,128,129,130,131,132,133,134,135,136,137,13,138,139,140,141,142] (.seq (.seq (.reg false [] [
  (mv 57 8),
  (mv 58 9),
  (op 59 (.bin .lss) [.t 57,.t 58])] [57,58]) <|
  .cond (.t 59) (.skip)
  (.exit 1)) <|
  .block 2 (.seq (.seq (.reg false [] [
  (mv 60 0),
  (mv 61 8),
  (op 62 .ixs [.t 60,.t 61]),
  (mv 63 6),
  (op 64 (.bin .neq) [.t 62,.t 63])] [60,61,62,63]) <|
  .cond (.t 64) (.seq (.reg false [] [
  (mv 65 0),
  (mv 66 8),
  (op 67 (.bin .add) [.t 66,.c (.int .i64 1)]),
  (mv 68 9),
  (op 69 (.slc true 0 true true) [.t 65,.t 67,.t 68]),
  (mv 70 6),
  (op 71 (.call 170) [.t 69,.t 70]),
  (mv 11 71)] [65,66,67,68,69,70,71]) <|
  .seq (.seq (.reg false [] [
  (mv 72 11),
  (op 73 (.bin .lss) [.t 72,.c (.int .i64 0)])] [72]) <|
  .cond (.t 73) (.seq (.reg false [] [(op 4 .mv [.c (.int .i64 (-1))])] []) <|
  .ret)
  (.skip)) <|
  .reg false [] [
  (mv 74 8),
  (mv 75 11),
  (op 76 (.bin .add) [.t 75,.c (.int .i64 1)]),
  (op 77 (.bin .add) [.t 74,.t 76]),
  (mv 8 77)] [74,75,76,77,11])
  (.skip)) <|
  .seq (.seq (.reg false [] [
  (mv 78 0),
  (mv 79 8),
  (op 80 (.bin .add) [.t 79,.c (.int .i64 1)]),
  (op 81 .ixs [.t 78,.t 80]),
  (mv 82 7),
  (op 83 (.bin .eql) [.t 81,.t 82]),
  (mv 84 83),
  ⟨(some 85),.mv,[.t 0],.none,none,(some (84,true))⟩,
  ⟨(some 86),.mv,[.t 8],.none,none,(some (84,true))⟩,
  ⟨(some 87),.mv,[.t 8],.none,none,(some (84,true))⟩,
  ⟨(some 88),.mv,[.t 5],.none,none,(some (84,true))⟩,
  ⟨(some 89),(.bin .add),[.t 87,.t 88],.none,none,(some (84,true))⟩,
  ⟨(some 90),(.slc true 0 true true),[.t 85,.t 86,.t 89],.none,none,(some (84,true))⟩,
  ⟨(some 91),.mv,[.t 1],.none,none,(some (84,true))⟩,
  ⟨(some 92),(.bin .eql),[.t 90,.t 91],.none,none,(some (84,true))⟩,
  (op 93 .pick [.t 84,.t 92,.c (.bool false)])] [78,79,80,81,82,83,84,85,86,87,88,89,90,91,92]) <|
  .cond (.t 93) (.seq (.reg false [] [
  (mv 94 8),
  (mv 4 94)] [94,8]) <|
  .ret)
  (.skip)) <|
  .seq (.reg false [] [
  (mv 95 8),
  (op 96 (.bin .add) [.t 95,.c (.int .i64 1)]),
  (mv 8 96)] [95,96]) <|
  .seq (.reg false [] [
  (mv 97 10),
  (op 98 (.bin .add) [.t 97,.c (.int .i64 1)]),
  (mv 10 98)] [97,98]) <|
  .seq (.reg false [] [⟨none,.mv,[],.none,none,none⟩] []) <|
  .cond (.t 107) (.seq (.reg false [] [
  (mv 108 0),
  (mv 109 8),
  (op 110 (.slc true 0 true false) [.t 108,.t 109]),
  (mv 111 1),
  (op 112 (.call 192) [.t 110,.t 111]),
  (mv 12 112)] [108,109,110,111,112,0,1]) <|
  .seq (.seq (.reg false [] [
  (mv 113 12),
  (op 114 (.bin .geq) [.t 113,.c (.int .i64 0)])] [113]) <|
  .cond (.t 114) (.seq (.reg false [] [
  (mv 115 12),
  (mv 116 8),
  (op 117 (.bin .add) [.t 115,.t 116]),
  (mv 4 117)] [115,116,117,12,8]) <|
  .ret)
  (.skip)) <|
  .seq (.reg false [] [(op 4 .mv [.c (.int .i64 (-1))])] []) <|
  .ret)
  (.seq (.reg false [] [⟨none,.mv,[],.none,none,none⟩] []) <|
  .cond (.t 132) (.seq (.reg false [] [
  (mv 133 0),
  (mv 134 8),
  (op 135 (.slc true 0 true false) [.t 133,.t 134]),
  (mv 136 1),
  (op 137 (.call 194) [.t 135,.t 136]),
  (mv 13 137)] [133,134,135,136,137,0,1]) <|
  .seq (.seq (.reg false [] [
  (mv 138 13),
  (op 139 (.bin .lss) [.t 138,.c (.int .i64 0)])] [138]) <|
  .cond (.t 139) (.seq (.reg false [] [(op 4 .mv [.c (.int .i64 (-1))])] []) <|
  .ret)
  (.skip)) <|
  .seq (.reg false [] [
  (mv 140 8),
  (mv 141 13),
  (op 142 (.bin .add) [.t 140,.t 141]),
  (mv 4 142)] [140,141,142,8,13]) <|
  .ret)
  (.skip))))
def F186:AFun:=
{nargs:=2,keep:=false,res:=[.tmp 4],body:=
  .seq (.reg false [] [(op 4 .mv [.c (.int .i64 0)])] [4]) <|
  .seq (.reg false [] [
  (mv 14 1),
  (op 15 (.len true) [.t 14]),
  (mv 5 15)] [14,15]) <|
  .seq (.block 0 (.seq (.reg false [] [
  (mv 17 5),
  (op 18 (.bin .eql) [.t 17,.c (.int .i64 0)]),
  (mv 19 18),
  ⟨(some 20),.mv,[.t 1],.none,none,(some (19,false))⟩,
  ⟨(some 21),.mv,[.t 0],.none,none,(some (19,false))⟩,
  ⟨(some 22),(.bin .eql),[.t 20,.t 21],.none,none,(some (19,false))⟩,
  (op 23 .pick [.t 19,.c (.bool true),.t 22]),
  (mv 16 23)] [17,18,19,20,21,22,23]) <|
  .cond (.t 16) (.seq (.reg false [] [(op 4 .mv [.c (.int .i64 0)])] []) <|
  .ret)
  (.seq (.reg false [] [
  (mv 25 5),
  (op 26 (.bin .eql) [.t 25,.c (.int .i64 1)]),
  (mv 24 26)] [25,26]) <|
  .cond (.t 24) (.seq (.reg false [] [
  (mv 27 0),
  (mv 28 1),
  (op 29 .ixs [.t 28,.c (.int .i64 0)]),
  (op 30 (.call 170) [.t 27,.t 29]),
  (mv 4 30)] [27,28,29,30,0,1]) <|
  .ret)
  (.seq (.reg false [] [
  (mv 32 5),
  (mv 33 0),
  (op 34 (.len true) [.t 33]),
  (op 35 (.bin .geq) [.t 32,.t 34]),
  (mv 31 35)] [32,33,34,35]) <|
  .cond (.t 31) (.seq (.reg false [] [(op 4 .mv [.c (.int .i64 (-1))])] []) <|
  .ret)
  (.seq (.reg false [] [⟨none,.mv,[],.none,none,none⟩] []) <|
  .cond (.t 36) (.seq (.reg false [] [
  (mv 45 0),
  (mv 46 1),
  (op 47 (.call 192) [.t 45,.t 46]),
  (mv 4 47)] [45,46,47,0,1]) <|
  .ret)
  (.skip)))))) <|
  .seq (.reg false [] [
  (mv 48 1),
  (op 49 .ixs [.t 48,.c (.int .i64 0)]),
  (mv 6 49)] [48,49]) <|
  .seq (.reg false [] [
  (mv 50 1),
  (op 51 .ixs [.t 50,.c (.int .i64 1)]),
  (mv 7 51)] [50,51]) <|
  .seq (.reg false [] [(op 8 .mv [.c (.int .i64 0)])] []) <|
  .seq (.reg false [] [
  (mv 52 0),
  (op 53 (.len true) [.t 52]),
  (mv 54 5),
  (op 55 (.bin .sub) [.t 53,.t 54]),
  (op 56 (.bin .add) [.t 55,.c (.int .i64 1)]),
  (mv 9 56)] [52,53,54,55,56]) <|
  .seq (.reg false [] [(op 10 .mv [.c (.int .i64 0)])] []) <|
  .seq (.block 1 (L186_0)) <|
  .seq (.reg false [] [(op 4 .mv [.c (.int .i64 (-1))])] []) <|
  .ret }

/- internal/strconv.log10Pow2 -/
def F187:AFun:=
{nargs:=1,keep:=false,res:=[.tmp 2],body:=
  .seq (.reg false [] [(op 2 .mv [.c (.int .i64 0)])] [2]) <|
  .seq (.reg false [] [
  (mv 3 0),
  (op 4 (.bin .mul) [.t 3,.c (.int .i64 78913)]),
  (op 5 (.shf false) [.t 4,.c (.int .u64 18)]),
  (mv 2 5)] [3,4,5,0]) <|
  .ret }

/- math/bits.Len64 -/
def F188:AFun:=
{nargs:=1,keep:=false,res:=[.tmp 2],body:=
  .seq (.reg false [] [(op 2 .mv [.c (.int .i64 0)])] []) <|
  .seq (.seq (.reg false [] [
  (mv 3 0),
  (op 4 (.bin .geq) [.t 3,.c (.int .u64 4294967296)])] [3]) <|
  .cond (.t 4) (.seq (.reg false [] [
  (mv 5 0),
  (op 6 (.shf false) [.t 5,.c (.int .u64 32)]),
  (mv 0 6)] [5,6]) <|
  .reg false [] [(op 2 .mv [.c (.int .i64 32)])] [])
  (.skip)) <|
  .seq (.seq (.reg false [] [
  (mv 7 0),
  (op 8 (.bin .geq) [.t 7,.c (.int .u64 65536)])] [7]) <|
  .cond (.t 8) (.seq (.reg false [] [
  (mv 9 0),
  (op 10 (.shf false) [.t 9,.c (.int .u64 16)]),
  (mv 0 10)] [9,10]) <|
  .reg false [] [
  (mv 11 2),
  (op 12 (.bin .add) [.t 11,.c (.int .i64 16)]),
  (mv 2 12)] [11,12])
  (.skip)) <|
  .seq (.seq (.reg false [] [
  (mv 13 0),
  (op 14 (.bin .geq) [.t 13,.c (.int .u64 256)])] [13]) <|
  .cond (.t 14) (.seq (.reg false [] [
  (mv 15 0),
  (op 16 (.shf false) [.t 15,.c (.int .u64 8)]),
  (mv 0 16)] [15,16]) <|
  .reg false [] [
  (mv 17 2),
  (op 18 (.bin .add) [.t 17,.c (.int .i64 8)]),
  (mv 2 18)] [17,18])
  (.skip)) <|
  .seq (.reg false [] [
  (mv 19 2),
  (mv 20 0),
  (op 21 (.cvi .u8) [.t 20]),
  (op 22 .ixs [.c (.str [0,1,2,2,3,3,3,3,4,4,4,4,4,4,4,4,5,5,5,5,5,5,5,5,5,5,5,5,5,5,5,5,6,6,6,6,6,6,6,6,6,6,6,6,6,6,6,6,6,6,6,6,6,6,6,6,6,6,6,6,6,6,6,6,7,7,7,7,7,7,7,7,7,7,7,7,7,7,7,7,7,7,7,7,7,7,7,7,7,7,7,7,7,7,7,7,7,7,7,7,7,7,7,7,7,7,7,7,7,7,7,7,7,7,7,7,7,7,7,7,7,7,7,7,7,7,7,7,8,8,8,8,8,8,8,8,8,8,8,8,8,8,8,8,8,8,8,8,8,8,8,8,8,8,8,8,8,8,8,8,8,8,8,8,8,8,8,8,8,8,8,8,8,8,8,8,8,8,8,8,8,8,8,8,8,8,8,8,8,8,8,8,8,8,8,8,8,8,8,8,8,8,8,8,8,8,8,8,8,8,8,8,8,8,8,8,8,8,8,8,8,8,8,8,8,8,8,8,8,8,8,8,8,8,8,8,8,8,8,8,8,8,8,8,8,8,8,8,8,8,8,8,8,8,8,8]),.t 21]),
  (op 23 (.cvi .i64) [.t 22]),
  (op 24 (.bin .add) [.t 19,.t 23]),
  (mv 2 24)] [19,20,21,22,23,24,0]) <|
  .ret }

/- internal/strconv.bool2[int] -/
def F189:AFun:=
{nargs:=1,keep:=false,res:=[.tmp 2],body:=
  .seq (.reg false [] [(op 2 .mv [.c (.int .i64 0)])] [2]) <|
  .seq (.seq (.reg false [] [(mv 3 0)] [0]) <|
  .cond (.t 3) (.seq (.reg false [] [(op 2 .mv [.c (.int .i64 1)])] []) <|
  .ret)
  (.skip)) <|
  .seq (.reg false [] [(op 2 .mv [.c (.int .i64 0)])] []) <|
  .ret }


/- r3.Normalize and r3.Concat that hand out an object -/
def L99_0s:ACode:=
  .loop [10,11,4,12,13,14,15,5,16,17,18,19,20,21,22,23,24,25,26,27,6,28,29,30,31,32,33,34,35,36,37,38,39,40,41,42,43,44,45,46,47,48,49,50,51,52,53,54,55,56,57,58,59] (.seq (.reg false [] [(op 10 (.bin .lss) [.t 9,.t 8])] []) <|
  .seq (.cond (.t 10) (.skip)
  (.exit 0)) <|
  .seq (.block 1 (.seq (.reg false [] [
  (mv 11 9),
  (mv 4 11)] [11]) <|
  .seq (.reg false [5] [
  (mv 12 0),
  (mv 13 4),
  (op 14 (.ia 3) [.t 12,.t 13]),
  ⟨(some 15),(.ld true 3),[.t 14],.sh,none,none⟩,
  ⟨(some 5),(.alloc [.int .i64 0,.str [],.int .i64 0]),[],(.lo 5),none,none⟩,
  ⟨none,(.st 3),[.t 5,.t 15],(.lo 5),none,none⟩] [12,13,14,15,4]) <|
  .seq (.seq (.reg false [] [
  (op 16 (.fa 0) [.t 5]),
  ⟨(some 17),(.ld false 1),[.t 16],(.lo 5),none,none⟩,
  (op 18 (.bin .neq) [.t 17,.c (.int .i64 1)])] [16,17]) <|
  .cond (.t 18) (.seq (.reg false [] [
  ⟨(some 19),.mvo,[.t 3],.none,(some 3),none⟩,
  ⟨(some 20),(.ld true 3),[.t 5],(.lo 5),none,none⟩,
  (op 21 (.mks 3 [.int .i64 0,.str [],.int .i64 0] 1 [0]) [.t 20]),
  ⟨(some 22),(.appS false 3 32),[.t 19,.t 21],.sh,none,none⟩,
  ⟨(some 3),.mvo,[.t 22],.none,(some 22),none⟩] [19,20,21,22,5]) <|
  .exit 1)
  (.skip)) <|
  .seq (.seq (.reg false [] [
  (op 23 (.fa 1) [.t 5]),
  ⟨(some 24),(.ld false 1),[.t 23],(.lo 5),none,none⟩,
  (op 25 (.bin .eql) [.t 24,.c (.str [])])] [23,24]) <|
  .cond (.t 25) (.exit 1)
  (.skip)) <|
  .seq (.reg false [] [
  (mv 26 3),
  (op 27 (.len false) [.t 26]),
  (mv 6 27)] [26,27]) <|
  .seq (.reg false [] [
  (mv 28 6),
  (op 29 (.bin .gtr) [.t 28,.c (.int .i64 0)]),
  (mv 30 29),
  ⟨(some 31),.mv,[.t 3],.none,none,(some (30,true))⟩,
  ⟨(some 32),.mv,[.t 6],.none,none,(some (30,true))⟩,
  ⟨(some 33),(.bin .sub),[.t 32,.c (.int .i64 1)],.none,none,(some (30,true))⟩,
  ⟨(some 34),(.ia 3),[.t 31,.t 33],.none,none,(some (30,true))⟩,
  ⟨(some 35),(.fa 0),[.t 34],.none,none,(some (30,true))⟩,
  ⟨(some 36),(.ld false 1),[.t 35],.sh,none,(some (30,true))⟩,
  ⟨(some 37),(.bin .eql),[.t 36,.c (.int .i64 1)],.none,none,(some (30,true))⟩,
  (op 38 .pick [.t 30,.t 37,.c (.bool false)])] [28,29,30,31,32,33,34,35,36,37]) <|
  .cond (.t 38) (.reg true [] [
  (mv 39 3),
  (mv 40 6),
  (op 41 (.bin .sub) [.t 40,.c (.int .i64 1)]),
  (mv 42 3),
  (mv 43 6),
  (op 44 (.bin .sub) [.t 43,.c (.int .i64 1)]),
  (op 45 (.ia 3) [.t 42,.t 44]),
  (op 46 (.fa 1) [.t 45]),
  ⟨(some 47),(.ld false 1),[.t 46],.sh,none,none⟩,
  (op 48 (.fa 1) [.t 5]),
  ⟨(some 49),(.ld false 1),[.t 48],(.lo 5),none,none⟩,
  (op 50 (.bin .add) [.t 47,.t 49]),
  (op 51 (.build [.int .i64 0,.str [],.int .i64 0] [(0,1),(1,1)]) [.c (.int .i64 1),.t 50]),
  (op 52 (.ia 3) [.t 39,.t 41]),
  ⟨none,(.st 3),[.t 52,.t 51],.sh,none,none⟩] [39,40,41,42,43,44,45,46,47,48,49,50,51,52,6,5])
  (.reg false [] [
  ⟨(some 53),.mvo,[.t 3],.none,(some 3),none⟩,
  (op 54 (.fa 1) [.t 5]),
  ⟨(some 55),(.ld false 1),[.t 54],(.lo 5),none,none⟩,
  (op 56 (.build [.int .i64 0,.str [],.int .i64 0] [(0,1),(1,1)]) [.c (.int .i64 1),.t 55]),
  (op 57 (.mks 3 [.int .i64 0,.str [],.int .i64 0] 1 [0]) [.t 56]),
  ⟨(some 58),(.appS false 3 32),[.t 53,.t 57],.sh,none,none⟩,
  ⟨(some 3),.mvo,[.t 58],.none,(some 58),none⟩] [53,54,55,56,57,58,5]))) <|
  .reg false [] [
  (op 59 (.bin .add) [.t 9,.c (.int .i64 1)]),
  (mv 9 59)] [59])
def F99s:AFun:=
{nargs:=1,keep:=true,res:=[.tmpD 2],body:=
  .seq (.reg false [] [(op 2 .mv [.c (.sl .full 3 [])])] [2]) <|
  .seq (.reg false [] [(op 3 .mv [.c (.sl .full 3 [])])] []) <|
  .seq (.seq (.reg false [] [
  (mv 7 0),
  (op 8 (.len false) [.t 7]),
  (op 9 .mv [.c (.int .i64 0)])] [7]) <|
  .block 0 (L99_0s)) <|
  .seq (.reg false [] [
  (mv 60 3),
  ⟨(some 2),.mvo,[.t 60],.none,(some 60),none⟩] [60,3]) <|
  .ret }

def F58s:AFun:=
{nargs:=2,keep:=true,res:=[.tmpD 4],body:=
  .seq (.reg false [] [(op 4 .mv [.c (.sl .full 3 [])])] [4]) <|
  .seq (.reg false [] [
  (mv 5 0),
  ⟨(some 6),(.appS false 3 32),[.c (.sl .full 3 []),.t 5],.sh,none,none⟩,
  (mv 7 1),
  ⟨(some 8),(.appS false 3 32),[.t 6,.t 7],.sh,none,none⟩,
  ⟨(some 9),(.call 99),[.t 8],.sh,none,none⟩,
  ⟨(some 4),.mvo,[.t 9],.none,(some 9),none⟩] [5,6,7,8,9,0,1]) <|
  .ret }

theorem ok4:okFun Tryz.prog 4 F4=true:=by kernel_rfl
theorem ok16:okFun Tryz.prog 16 F16=true:=by kernel_rfl
theorem ok20:okFun Tryz.prog 20 F20=true:=by kernel_rfl
theorem ok21:okFun Tryz.prog 21 F21=true:=by kernel_rfl
theorem ok22:okFun Tryz.prog 22 F22=true:=by kernel_rfl
theorem ok23:okFun Tryz.prog 23 F23=true:=by kernel_rfl
theorem ok24:okFun Tryz.prog 24 F24=true:=by kernel_rfl
theorem ok27:okFun Tryz.prog 27 F27=true:=by kernel_rfl
theorem ok35:okFun Tryz.prog 35 F35=true:=by kernel_rfl
theorem ok54:okFun Tryz.prog 54 F54=true:=by kernel_rfl
theorem ok55:okFun Tryz.prog 55 F55=true:=by kernel_rfl
theorem ok58:okFun Tryz.prog 58 F58=true:=by kernel_rfl
theorem ok59:okFun Tryz.prog 59 F59=true:=by kernel_rfl
theorem ok60:okFun Tryz.prog 60 F60=true:=by kernel_rfl
theorem ok61:okFun Tryz.prog 61 F61=true:=by kernel_rfl
theorem ok62:okFun Tryz.prog 62 F62=true:=by kernel_rfl
theorem ok63:okFun Tryz.prog 63 F63=true:=by kernel_rfl
theorem ok64:okFun Tryz.prog 64 F64=true:=by kernel_rfl
theorem ok66:okFun Tryz.prog 66 F66=true:=by kernel_rfl
theorem ok67:okFun Tryz.prog 67 F67=true:=by kernel_rfl
theorem ok68:okFun Tryz.prog 68 F68=true:=by kernel_rfl
theorem ok69:okFun Tryz.prog 69 F69=true:=by kernel_rfl
theorem ok70:okFun Tryz.prog 70 F70=true:=by kernel_rfl
theorem ok74:okFun Tryz.prog 74 F74=true:=by kernel_rfl
theorem ok76:okFun Tryz.prog 76 F76=true:=by kernel_rfl
theorem ok79:okFun Tryz.prog 79 F79=true:=by kernel_rfl
theorem ok89:okFun Tryz.prog 89 F89=true:=by kernel_rfl
theorem ok97:okFun Tryz.prog 97 F97=true:=by kernel_rfl
theorem ok98:okFun Tryz.prog 98 F98=true:=by kernel_rfl
theorem ok99:okFun Tryz.prog 99 F99=true:=by kernel_rfl
theorem ok100:okFun Tryz.prog 100 F100=true:=by kernel_rfl
theorem ok101:okFun Tryz.prog 101 F101=true:=by kernel_rfl
theorem ok102:okFun Tryz.prog 102 F102=true:=by kernel_rfl
theorem ok103:okFun Tryz.prog 103 F103=true:=by kernel_rfl
theorem ok104:okFun Tryz.prog 104 F104=true:=by kernel_rfl
theorem ok105:okFun Tryz.prog 105 F105=true:=by kernel_rfl
theorem ok106:okFun Tryz.prog 106 F106=true:=by kernel_rfl
theorem ok107:okFun Tryz.prog 107 F107=true:=by kernel_rfl
theorem ok108:okFun Tryz.prog 108 F108=true:=by kernel_rfl
theorem ok109:okFun Tryz.prog 109 F109=true:=by kernel_rfl
theorem ok110:okFun Tryz.prog 110 F110=true:=by kernel_rfl
theorem ok111:okFun Tryz.prog 111 F111=true:=by kernel_rfl
theorem ok113:okFun Tryz.prog 113 F113=true:=by kernel_rfl
theorem ok114:okFun Tryz.prog 114 F114=true:=by kernel_rfl
theorem ok117:okFun Tryz.prog 117 F117=true:=by kernel_rfl
theorem ok118:okFun Tryz.prog 118 F118=true:=by kernel_rfl
theorem ok121:okFun Tryz.prog 121 F121=true:=by kernel_rfl
theorem ok122:okFun Tryz.prog 122 F122=true:=by kernel_rfl
theorem ok123:okFun Tryz.prog 123 F123=true:=by kernel_rfl
theorem ok126:okFun Tryz.prog 126 F126=true:=by kernel_rfl
theorem ok127:okFun Tryz.prog 127 F127=true:=by kernel_rfl
theorem ok128:okFun Tryz.prog 128 F128=true:=by kernel_rfl
theorem ok134:okFun Tryz.prog 134 F134=true:=by kernel_rfl
theorem ok142:okFun Tryz.prog 142 F142=true:=by kernel_rfl
theorem ok143:okFun Tryz.prog 143 F143=true:=by kernel_rfl
theorem ok144:okFun Tryz.prog 144 F144=true:=by kernel_rfl
theorem ok145:okFun Tryz.prog 145 F145=true:=by kernel_rfl
theorem ok146:okFun Tryz.prog 146 F146=true:=by kernel_rfl
theorem ok147:okFun Tryz.prog 147 F147=true:=by kernel_rfl
theorem ok148:okFun Tryz.prog 148 F148=true:=by kernel_rfl
theorem ok149:okFun Tryz.prog 149 F149=true:=by kernel_rfl
theorem ok150:okFun Tryz.prog 150 F150=true:=by kernel_rfl
theorem ok151:okFun Tryz.prog 151 F151=true:=by kernel_rfl
theorem ok152:okFun Tryz.prog 152 F152=true:=by kernel_rfl
theorem ok157:okFun Tryz.prog 157 F157=true:=by kernel_rfl
theorem ok158:okFun Tryz.prog 158 F158=true:=by kernel_rfl
theorem ok160:okFun Tryz.prog 160 F160=true:=by kernel_rfl
theorem ok164:okFun Tryz.prog 164 F164=true:=by kernel_rfl
theorem ok168:okFun Tryz.prog 168 F168=true:=by kernel_rfl
theorem ok169:okFun Tryz.prog 169 F169=true:=by kernel_rfl
theorem ok170:okFun Tryz.prog 170 F170=true:=by kernel_rfl
theorem ok171:okFun Tryz.prog 171 F171=true:=by kernel_rfl
theorem ok172:okFun Tryz.prog 172 F172=true:=by kernel_rfl
theorem ok173:okFun Tryz.prog 173 F173=true:=by kernel_rfl
theorem ok176:okFun Tryz.prog 176 F176=true:=by kernel_rfl
theorem ok178:okFun Tryz.prog 178 F178=true:=by kernel_rfl
theorem ok180:okFun Tryz.prog 180 F180=true:=by kernel_rfl
theorem ok181:okFun Tryz.prog 181 F181=true:=by kernel_rfl
theorem ok182:okFun Tryz.prog 182 F182=true:=by kernel_rfl
theorem ok183:okFun Tryz.prog 183 F183=true:=by kernel_rfl
theorem ok184:okFun Tryz.prog 184 F184=true:=by kernel_rfl
theorem ok186:okFun Tryz.prog 186 F186=true:=by kernel_rfl
theorem ok187:okFun Tryz.prog 187 F187=true:=by kernel_rfl
theorem ok188:okFun Tryz.prog 188 F188=true:=by kernel_rfl
theorem ok189:okFun Tryz.prog 189 F189=true:=by kernel_rfl
theorem mix:Tryz.prog.follows .mixedOrders=true:=by kernel_rfl
def T0:FuncId→Option AFun
 | 4=>some F4
 | 16=>some F16
 | 20=>some F20
 | 21=>some F21
 | 22=>some F22
 | 23=>some F23
 | 24=>some F24
 | 27=>some F27
 | 35=>some F35
 | 54=>some F54
 | 55=>some F55
 | 58=>some F58
 | 59=>some F59
 | 60=>some F60
 | 61=>some F61
 | 62=>some F62
 | 63=>some F63
 | 64=>some F64
 | 66=>some F66
 | 67=>some F67
 | 68=>some F68
 | 69=>some F69
 | 70=>some F70
 | 74=>some F74
 | 76=>some F76
 | 79=>some F79
 | 89=>some F89
 | 97=>some F97
 | 98=>some F98
 | 99=>some F99
 | 100=>some F100
 | 101=>some F101
 | 102=>some F102
 | 103=>some F103
 | 104=>some F104
 | 105=>some F105
 | 106=>some F106
 | 107=>some F107
 | 108=>some F108
 | 109=>some F109
 | 110=>some F110
 | 111=>some F111
 | 113=>some F113
 | 114=>some F114
 | 117=>some F117
 | 118=>some F118
 | 121=>some F121
 | 122=>some F122
 | 123=>some F123
 | 126=>some F126
 | 127=>some F127
 | 128=>some F128
 | 134=>some F134
 | 142=>some F142
 | 143=>some F143
 | 144=>some F144
 | 145=>some F145
 | 146=>some F146
 | 147=>some F147
 | 148=>some F148
 | 149=>some F149
 | 150=>some F150
 | 151=>some F151
 | 152=>some F152
 | 157=>some F157
 | 158=>some F158
 | 160=>some F160
 | 164=>some F164
 | 168=>some F168
 | 169=>some F169
 | 170=>some F170
 | 171=>some F171
 | 172=>some F172
 | 173=>some F173
 | 176=>some F176
 | 178=>some F178
 | 180=>some F180
 | 181=>some F181
 | 182=>some F182
 | 183=>some F183
 | 184=>some F184
 | 186=>some F186
 | 187=>some F187
 | 188=>some F188
 | 189=>some F189
 | _=>none
theorem T0_ok:∀ f F,T0 f=some F→okFun Tryz.prog f F=true:=by
 intro f F h
 unfold T0 at h
 split at h
 ·cases h; exact ok4
 ·cases h; exact ok16
 ·cases h; exact ok20
 ·cases h; exact ok21
 ·cases h; exact ok22
 ·cases h; exact ok23
 ·cases h; exact ok24
 ·cases h; exact ok27
 ·cases h; exact ok35
 ·cases h; exact ok54
 ·cases h; exact ok55
 ·cases h; exact ok58
 ·cases h; exact ok59
 ·cases h; exact ok60
 ·cases h; exact ok61
 ·cases h; exact ok62
 ·cases h; exact ok63
 ·cases h; exact ok64
 ·cases h; exact ok66
 ·cases h; exact ok67
 ·cases h; exact ok68
 ·cases h; exact ok69
 ·cases h; exact ok70
 ·cases h; exact ok74
 ·cases h; exact ok76
 ·cases h; exact ok79
 ·cases h; exact ok89
 ·cases h; exact ok97
 ·cases h; exact ok98
 ·cases h; exact ok99
 ·cases h; exact ok100
 ·cases h; exact ok101
 ·cases h; exact ok102
 ·cases h; exact ok103
 ·cases h; exact ok104
 ·cases h; exact ok105
 ·cases h; exact ok106
 ·cases h; exact ok107
 ·cases h; exact ok108
 ·cases h; exact ok109
 ·cases h; exact ok110
 ·cases h; exact ok111
 ·cases h; exact ok113
 ·cases h; exact ok114
 ·cases h; exact ok117
 ·cases h; exact ok118
 ·cases h; exact ok121
 ·cases h; exact ok122
 ·cases h; exact ok123
 ·cases h; exact ok126
 ·cases h; exact ok127
 ·cases h; exact ok128
 ·cases h; exact ok134
 ·cases h; exact ok142
 ·cases h; exact ok143
 ·cases h; exact ok144
 ·cases h; exact ok145
 ·cases h; exact ok146
 ·cases h; exact ok147
 ·cases h; exact ok148
 ·cases h; exact ok149
 ·cases h; exact ok150
 ·cases h; exact ok151
 ·cases h; exact ok152
 ·cases h; exact ok157
 ·cases h; exact ok158
 ·cases h; exact ok160
 ·cases h; exact ok164
 ·cases h; exact ok168
 ·cases h; exact ok169
 ·cases h; exact ok170
 ·cases h; exact ok171
 ·cases h; exact ok172
 ·cases h; exact ok173
 ·cases h; exact ok176
 ·cases h; exact ok178
 ·cases h; exact ok180
 ·cases h; exact ok181
 ·cases h; exact ok182
 ·cases h; exact ok183
 ·cases h; exact ok184
 ·cases h; exact ok186
 ·cases h; exact ok187
 ·cases h; exact ok188
 ·cases h; exact ok189
 ·cases h
theorem ok58s:okFun Tryz.prog 58 F58s=true:=by kernel_rfl
theorem ok99s:okFun Tryz.prog 99 F99s=true:=by kernel_rfl
def T1:FuncId→Option AFun
 | 58=>some F58s
 | 99=>some F99s
 | _=>none
theorem T1_ok:∀ f F,T1 f=some F→okFun Tryz.prog f F=true:=by
 intro f F h
 unfold T1 at h
 split at h
 ·cases h; exact ok58s
 ·cases h; exact ok99s
 ·cases h
noncomputable abbrev G1:Calls':=Gx (fun _ _ _=>none) T1
theorem G1_good:Good Tryz.prog G1:=Gx_good mix (fun _ _ _ _ _ h=>by cases h) T1_ok
theorem okc85:okCloneV Tryz.prog 85 3 32 [.int .i64 0,.str [],.int .i64 0]=true:=by kernel_rfl
theorem oki70:okInsert Tryz.prog 70 115 8 128 ze8=true:=by kernel_rfl
theorem ov115:Good Tryz.prog (ovB 115 8):=
 ovB_sound (fn:=Tryz.f115) (t:=24) (tr:=4) (e:=41) Tryz.func115 (by kernel_rfl) (by kernel_rfl) (by kernel_rfl) (by kernel_rfl) Tryz.underlying24 (by kernel_rfl) (by decide)
noncomputable def B0:Calls':=fun f args sh=>match f with
 | 58=>(match sh with | []=>none | c :: sh=>G1 58 args (c :: sh))
 | 179=>ibB 179 179 args sh
 | 85=>cloneV 3 32 args sh
 | 70=>insB 8 128 args sh
 | _=>none
theorem B0_good:Good Tryz.prog B0:=by
 intro f args sh r sh' h
 unfold B0 at h
 split at h
 ·split at h
  ·cases h
  ·exact G1_good _ _ _ _ _ h
 ·exact ibB_sound (f0:=179) (fn:=Tryz.f179) Tryz.func179 (by kernel_rfl) (by kernel_rfl) (by kernel_rfl) rfl _ _ _ _ _ h
 ·exact .inl (cloneVB_sound mix okc85 (by decide) h)
 ·exact .inl (insB_sound mix oki70 ov115 (by decide) (by decide) (by decide) h)
 ·cases h
noncomputable abbrev G0:Calls':=Gx B0 T0
theorem G0_good:Good Tryz.prog G0:=Gx_good mix B0_good T0_ok
end Go.Av
