/- The functions' bodies as abstract code, held against the program by the kernel. -/
import Derived.Test.YthnablnojflbnaaDoorProg
import Derived.Test.YthnablnojflbnaaDoorEv22
import Derived.Test.YthnablnojflbnaaDoorEv27
import Derived.Test.YthnablnojflbnaaDoorEv28
import Derived.KernelRfl
set_option linter.unusedSimpArgs false
set_option linter.unusedVariables false
namespace Go.Av
open Go.Proofs
def op (d : Nat) (k : AK) (a : List AR) : AOper := ⟨some d, k, a, .none, none, none⟩
def mv (d s : Nat) : AOper := ⟨some d, .mv, [.t s], .none, none, none⟩
instance seatTabs : Gtab := ⟨fun i => match i with
  | 0 => some (.u64, [1,10,100,1000,10000,100000,1000000,10000000,100000000,1000000000,10000000000,100000000000,1000000000000,10000000000000,100000000000000,1000000000000000,10000000000000000,100000000000000000,1000000000000000000,10000000000000000000])
  | _ => none⟩
/- bitext/bitextlaw19.RepeatFirst -/
def F4 : AFun :=
 { nargs := 2, keep := false, res := [.tmp 4], body :=
   .seq (.reg false [] [(op 4 .mv [.c (.bool false)])] [4]) <|
   .seq (.seq (.reg false [] [
    (mv 6 0),
    (op 7 (.len false) [.t 6]),
    (op 8 (.bin .gtr) [.t 7, .c (.int .i64 200)]),
    (mv 9 8),
   ⟨(some 10), .mv, [.t 1], .none, none, (some (9, false))⟩,
   ⟨(some 11), (.len false), [.t 10], .none, none, (some (9, false))⟩,
   ⟨(some 12), (.bin .gtr), [.t 11, .c (.int .i64 20)], .none, none, (some (9, false))⟩,
    (op 13 .pick [.t 9, .c (.bool true), .t 12]),
    (mv 14 13),
   ⟨(some 15), .mv, [.t 1], .none, none, (some (14, false))⟩,
   ⟨(some 16), (.call 15), [.t 15], .none, none, (some (14, false))⟩,
   ⟨(some 17), (.bin .gtr), [.t 16, .c (.int .i64 300)], .none, none, (some (14, false))⟩,
    (op 18 .pick [.t 14, .c (.bool true), .t 17])] [6, 7, 8, 9, 10, 11, 12, 13, 14, 15, 16, 17]) <|
   .cond (.t 18) (.seq (.reg false [] [
    (op 19 (.call 16) []),
    (mv 4 19)] [19]) <|
   .ret)
    (.skip)) <|
   .seq (.reg false [] [
    (mv 20 0),
   ⟨(some 21), (.call 17), [.t 20, .c (.int .i64 8), .c (.bool true)], .sh, none, none⟩,
    (mv 22 1),
    (mv 23 1),
    (op 24 (.mks 1 [.sl .full 3 []] 2 [0, 1]) [.t 22, .t 23]),
   ⟨(some 25), (.appS false 1 24), [.t 21, .t 24], .sh, none, none⟩,
   ⟨(some 5), .mvo, [.t 25], .none, (some 25), none⟩] [20, 21, 22, 23, 24, 25, 0, 1]) <|
   .seq (.reg false [] [
    (mv 26 5),
   ⟨(some 27), (.call 25), [.t 26], .sh, none, none⟩,
    (mv 28 5),
   ⟨(some 29), (.call 26), [.t 28], .sh, none, none⟩,
    (op 30 (.call 24) [.t 27, .t 29]),
    (mv 31 30),
   ⟨(some 32), .mv, [.t 5], .none, none, (some (31, true))⟩,
   ⟨(some 33), (.call 28), [.t 32], .sh, none, (some (31, true))⟩,
   ⟨(some 34), .mv, [.t 5], .none, none, (some (31, true))⟩,
   ⟨(some 35), (.call 29), [.t 34], .sh, none, (some (31, true))⟩,
   ⟨(some 36), (.call 27), [.t 33, .t 35], .sh, none, (some (31, true))⟩,
    (op 37 .pick [.t 31, .t 36, .c (.bool false)]),
    (mv 38 37),
   ⟨(some 39), (.call 16), [], .none, none, (some (38, true))⟩,
    (op 40 .pick [.t 38, .t 39, .c (.bool false)]),
    (mv 4 40)] [26, 27, 28, 29, 30, 31, 32, 33, 34, 35, 36, 37, 38, 39, 40, 5]) <|
   .ret }

/- bitext/bitextlaw19.RepeatParts -/
def L5_0 : ACode :=
   .loop [51, 52, 53, 54, 9, 10, 55, 56, 57, 58, 59, 60, 61, 62, 63, 64, 65, 66, 67, 68, 69, 70, 71, 72, 73, 74, 75, 76, 77, 78, 79, 80, 81, 82, 83, 84, 85, 2, 86, 87, 88, 89, 90, 91, 92] (.seq (.reg false [] [(op 51 (.bin .lss) [.t 50, .t 49])] []) <|
   .seq (.cond (.t 51) (.skip)
    (.exit 2)) <|
   .seq (.block 3 (.seq (.reg false [] [
    (mv 52 50),
    (op 53 (.ia 1) [.t 48, .t 50]),
   ⟨(some 54), (.ld false 1), [.t 53], .sh, none, none⟩,
    (mv 9 52),
    (mv 10 54)] [52, 53, 54]) <|
   .seq (.seq (.reg true [] [
    (mv 55 10),
    (op 56 (.bin .lss) [.t 55, .c (.int .i64 0)]),
    (mv 57 56),
   ⟨(some 58), .mv, [.t 10], .none, none, (some (57, false))⟩,
   ⟨(some 59), .mv, [.t 3], .none, none, (some (57, false))⟩,
   ⟨(some 60), (.len false), [.t 59], .none, none, (some (57, false))⟩,
   ⟨(some 61), (.bin .geq), [.t 58, .t 60], .none, none, (some (57, false))⟩,
    (op 62 .pick [.t 57, .c (.bool true), .t 61]),
    (mv 63 62),
   ⟨(some 64), .mv, [.t 9], .none, none, (some (63, false))⟩,
   ⟨(some 65), (.bin .gtr), [.t 64, .c (.int .i64 0)], .none, none, (some (63, false))⟩,
   ⟨(some 66), .mv, [.t 65], .none, none, (some (63, false))⟩,
   ⟨(some 67), .mv, [.t 10], .none, none, (some (66, true))⟩,
   ⟨(some 68), .mv, [.t 8], .none, none, (some (66, true))⟩,
   ⟨(some 69), .mv, [.t 9], .none, none, (some (66, true))⟩,
   ⟨(some 70), (.bin .sub), [.t 69, .c (.int .i64 1)], .none, none, (some (66, true))⟩,
   ⟨(some 71), (.ia 1), [.t 68, .t 70], .none, none, (some (66, true))⟩,
   ⟨(some 72), (.ld false 1), [.t 71], .sh, none, (some (66, true))⟩,
   ⟨(some 73), (.bin .leq), [.t 67, .t 72], .none, none, (some (66, true))⟩,
   ⟨(some 74), .pick, [.t 66, .t 73, .c (.bool false)], .none, none, (some (63, false))⟩,
    (op 75 .pick [.t 63, .c (.bool true), .t 74]),
    (mv 76 75),
   ⟨(some 77), .mv, [.t 4], .none, none, (some (76, false))⟩,
   ⟨(some 78), .mv, [.t 10], .none, none, (some (76, false))⟩,
   ⟨(some 79), (.ia 1), [.t 77, .t 78], .none, none, (some (76, false))⟩,
   ⟨(some 80), (.ld false 1), [.t 79], .none, none, (some (76, false))⟩,
   ⟨(some 81), .mv, [.t 8], .none, none, (some (76, false))⟩,
   ⟨(some 82), (.ia 1), [.t 81, .c (.int .i64 0)], .none, none, (some (76, false))⟩,
   ⟨(some 83), (.ld false 1), [.t 82], .sh, none, (some (76, false))⟩,
   ⟨(some 84), (.bin .neq), [.t 80, .t 83], .none, none, (some (76, false))⟩,
    (op 85 .pick [.t 76, .c (.bool true), .t 84])] [55, 56, 57, 58, 59, 60, 61, 62, 63, 64, 65, 66, 67, 68, 69, 70, 71, 72, 73, 74, 75, 76, 77, 78, 79, 80, 81, 82, 83, 84, 9]) <|
   .cond (.t 85) (.seq (.reg false [] [(op 2 .mv [.c (.bool false)])] []) <|
   .ret)
    (.skip)) <|
   .reg false [] [
    (mv 86 5),
    (mv 87 10),
    (op 88 (.ia 1) [.t 86, .t 87]),
   ⟨(some 89), (.ld false 1), [.t 88], .sh, none, none⟩,
    (op 90 (.bin .add) [.t 89, .c (.int .i64 1)]),
    (op 91 (.ia 1) [.t 86, .t 87]),
   ⟨none, (.st 1), [.t 91, .t 90], .sh, none, none⟩] [86, 87, 88, 89, 90, 91, 10])) <|
   .reg false [] [
    (op 92 (.bin .add) [.t 50, .c (.int .i64 1)]),
    (mv 50 92)] [92])
def L5_1 : ACode :=
   .loop [32, 33, 34, 8, 35, 36, 37, 38, 39, 40, 41, 42, 43, 44, 2, 45, 46, 47, 48, 49, 50, 51, 52, 53, 54, 9, 10, 55, 56, 57, 58, 59, 60, 61, 62, 63, 64, 65, 66, 67, 68, 69, 70, 71, 72, 73, 74, 75, 76, 77, 78, 79, 80, 81, 82, 83, 84, 85, 86, 87, 88, 89, 90, 91, 92, 93] (.seq (.reg false [] [(op 32 (.bin .lss) [.t 31, .t 30])] []) <|
   .seq (.cond (.t 32) (.skip)
    (.exit 0)) <|
   .seq (.block 1 (.seq (.reg false [] [
    (op 33 (.ia 1) [.t 29, .t 31]),
   ⟨(some 34), (.ld false 1), [.t 33], .sh, none, none⟩,
   ⟨(some 8), .mvo, [.t 34], .none, (some 34), none⟩] [33, 34]) <|
   .seq (.seq (.reg false [] [
    (mv 35 8),
    (op 36 (.len false) [.t 35]),
    (op 37 (.bin .eql) [.t 36, .c (.int .i64 0)]),
    (mv 38 37),
   ⟨(some 39), .mv, [.t 8], .none, none, (some (38, false))⟩,
   ⟨(some 40), (.ia 1), [.t 39, .c (.int .i64 0)], .none, none, (some (38, false))⟩,
   ⟨(some 41), (.ld false 1), [.t 40], .sh, none, (some (38, false))⟩,
   ⟨(some 42), .mv, [.t 6], .none, none, (some (38, false))⟩,
   ⟨(some 43), (.bin .leq), [.t 41, .t 42], .none, none, (some (38, false))⟩,
    (op 44 .pick [.t 38, .c (.bool true), .t 43])] [35, 36, 37, 38, 39, 40, 41, 42, 43, 6]) <|
   .cond (.t 44) (.seq (.reg false [] [(op 2 .mv [.c (.bool false)])] []) <|
   .ret)
    (.skip)) <|
   .seq (.reg false [] [
    (mv 45 8),
    (op 46 (.ia 1) [.t 45, .c (.int .i64 0)]),
   ⟨(some 47), (.ld false 1), [.t 46], .sh, none, none⟩,
    (mv 6 47)] [45, 46, 47]) <|
   .seq (.reg false [] [
    (mv 48 8),
    (op 49 (.len false) [.t 48]),
    (op 50 .mv [.c (.int .i64 0)])] []) <|
   .block 2 (L5_0))) <|
   .reg false [] [
    (op 93 (.bin .add) [.t 31, .c (.int .i64 1)]),
    (mv 31 93)] [93])
def L5_2 : ACode :=
   .loop [97, 98, 11, 99, 100, 101, 102, 103, 2, 104] (.seq (.reg false [] [(op 97 (.bin .lss) [.t 96, .t 95])] []) <|
   .seq (.cond (.t 97) (.skip)
    (.exit 4)) <|
   .seq (.block 5 (.seq (.reg false [] [
    (mv 98 96),
    (mv 11 98)] [98]) <|
   .seq (.reg false [] [
    (mv 99 5),
    (mv 100 11),
    (op 101 (.ia 1) [.t 99, .t 100]),
   ⟨(some 102), (.ld false 1), [.t 101], .sh, none, none⟩,
    (op 103 (.bin .neq) [.t 102, .c (.int .i64 1)])] [99, 100, 101, 102, 11]) <|
   .cond (.t 103) (.seq (.reg false [] [(op 2 .mv [.c (.bool false)])] []) <|
   .ret)
    (.skip))) <|
   .reg false [] [
    (op 104 (.bin .add) [.t 96, .c (.int .i64 1)]),
    (mv 96 104)] [104])
def F5 : AFun :=
 { nargs := 1, keep := false, res := [.tmp 2], body :=
   .seq (.reg false [] [(op 2 .mv [.c (.bool false)])] [2]) <|
   .seq (.seq (.reg false [] [
    (mv 12 0),
    (op 13 (.len false) [.t 12]),
    (op 14 (.bin .gtr) [.t 13, .c (.int .i64 200)])] [12, 13]) <|
   .cond (.t 14) (.seq (.reg false [] [
    (op 15 (.call 16) []),
    (mv 2 15)] [15]) <|
   .ret)
    (.skip)) <|
   .seq (.reg false [] [
    (mv 16 0),
   ⟨(some 17), (.call 17), [.t 16, .c (.int .i64 8), .c (.bool true)], .sh, none, none⟩,
   ⟨(some 3), .mvo, [.t 17], .none, (some 17), none⟩] [16, 17, 0]) <|
   .seq (.reg false [] [
    (mv 18 3),
   ⟨(some 19), (.call 25), [.t 18], .sh, none, none⟩,
   ⟨(some 4), .mvo, [.t 19], .none, (some 19), none⟩] [18, 19]) <|
   .seq (.seq (.reg false [] [
    (mv 20 4),
    (op 21 (.len false) [.t 20]),
    (mv 22 3),
    (op 23 (.len false) [.t 22]),
    (op 24 (.bin .neq) [.t 21, .t 23])] [20, 21, 22, 23]) <|
   .cond (.t 24) (.seq (.reg false [] [(op 2 .mv [.c (.bool false)])] []) <|
   .ret)
    (.skip)) <|
   .seq (.reg false [] [
    (mv 25 3),
    (op 26 (.len false) [.t 25]),
   ⟨(some 27), (.mkl 1 [.int .i64 0] 8), [.t 26, .t 26], .sh, none, none⟩,
   ⟨(some 5), .mvo, [.t 27], .none, (some 27), none⟩] [25, 26, 27]) <|
   .seq (.reg false [] [(op 6 .mv [.c (.int .i64 (-1))])] []) <|
   .seq (.seq (.reg false [] [
    (mv 28 3),
   ⟨(some 29), (.call 28), [.t 28], .sh, none, none⟩,
    (op 30 (.len false) [.t 29]),
    (op 31 .mv [.c (.int .i64 0)])] [28]) <|
   .block 0 (L5_1)) <|
   .seq (.seq (.reg false [] [
    (mv 94 5),
    (op 95 (.len false) [.t 94]),
    (op 96 .mv [.c (.int .i64 0)])] [94]) <|
   .block 4 (L5_2)) <|
   .seq (.reg false [] [
    (op 105 (.call 16) []),
    (mv 2 105)] [105]) <|
   .ret }

/- bitext/bitextlaw19.known -/
def F16 : AFun :=
 { nargs := 0, keep := false, res := [.tmp 0], body :=
   .seq (.reg false [] [(op 0 .mv [.c (.bool false)])] [0]) <|
   .seq (.reg false [] [
    (op 5 (.build [.int .i64 0, .str [], .int .i64 0] [(0, 1), (1, 1)]) [.c (.int .i64 1), .c (.str [97])]),
    (op 6 (.mks 3 [.int .i64 0, .str [], .int .i64 0] 1 [0]) [.t 5]),
    (op 7 (.build [.int .i64 0, .str [], .int .i64 0] [(0, 1), (1, 1)]) [.c (.int .i64 1), .c (.str [98])]),
    (op 8 (.mks 3 [.int .i64 0, .str [], .int .i64 0] 1 [0]) [.t 7]),
   ⟨(some 1), .mvo, [.t 6], .none, (some 6), none⟩,
   ⟨(some 2), .mvo, [.t 8], .none, (some 8), none⟩] [5, 6, 7, 8]) <|
   .seq (.reg false [] [
    (op 9 (.build [.int .i64 0, .str [], .int .i64 0] [(0, 1), (1, 1), (2, 1)]) [.c (.int .i64 2), .c (.str [98]), .c (.int .i64 1)]),
    (op 10 (.build [.int .i64 0, .str [], .int .i64 0] [(0, 1), (1, 1), (2, 1)]) [.c (.int .i64 3), .c (.str [98]), .c (.int .i64 1)]),
    (op 11 (.mks 3 [.int .i64 0, .str [], .int .i64 0] 2 [0, 1]) [.t 9, .t 10]),
   ⟨(some 3), .mvo, [.t 11], .none, (some 11), none⟩] [9, 10, 11]) <|
   .seq (.reg false [] [
    (op 12 (.build [.int .i64 0, .str [], .int .i64 0] [(0, 1), (1, 1), (2, 1)]) [.c (.int .i64 2), .c (.str [98]), .c (.int .i64 2)]),
    (op 13 (.build [.int .i64 0, .str [], .int .i64 0] [(0, 1), (1, 1), (2, 1)]) [.c (.int .i64 3), .c (.str [98]), .c (.int .i64 2)]),
    (op 14 (.mks 3 [.int .i64 0, .str [], .int .i64 0] 2 [0, 1]) [.t 12, .t 13]),
   ⟨(some 4), .mvo, [.t 14], .none, (some 14), none⟩] [12, 13, 14]) <|
   .seq (.reg false [] [
    (mv 15 1),
    (mv 16 2),
    (mv 17 1),
    (mv 18 1),
    (op 19 (.mks 1 [.sl .full 3 []] 4 [0, 1, 2, 3]) [.t 15, .t 16, .t 17, .t 18]),
   ⟨(some 20), (.call 25), [.t 19], .sh, none, none⟩,
    (op 21 (.mks 1 [.int .i64 0] 4 [0, 1, 2, 3]) [.c (.int .i64 0), .c (.int .i64 1), .c (.int .i64 0), .c (.int .i64 0)]),
    (op 22 (.call 24) [.t 20, .t 21]),
    (mv 23 22),
   ⟨(some 24), .mv, [.t 3], .none, none, (some (23, true))⟩,
   ⟨(some 25), .mv, [.t 4], .none, none, (some (23, true))⟩,
   ⟨(some 26), (.mks 1 [.sl .full 3 []] 2 [0, 1]), [.t 24, .t 25], .none, none, (some (23, true))⟩,
   ⟨(some 27), (.call 25), [.t 26], .sh, none, (some (23, true))⟩,
   ⟨(some 28), (.mks 1 [.int .i64 0] 2 [0, 1]), [.c (.int .i64 0), .c (.int .i64 0)], .none, none, (some (23, true))⟩,
   ⟨(some 29), (.call 24), [.t 27, .t 28], .none, none, (some (23, true))⟩,
    (op 30 .pick [.t 23, .t 29, .c (.bool false)]),
    (mv 0 30)] [15, 16, 17, 18, 19, 20, 21, 22, 23, 24, 25, 26, 27, 28, 29, 30, 1, 2, 3, 4]) <|
   .ret }

/- bitext/bitextlaw19.made -/
def L17_0 : ACode :=
   .loop [18, 19, 22, 23, 10, 24, 25, 26, 27, 28, 29, 30, 31, 32, 33, 34, 35, 36, 37, 38, 39, 40, 42, 41, 43, 44, 45, 46, 47, 49, 48, 50, 51, 52, 53, 54, 55, 56, 57, 58, 59, 60, 61, 62, 63, 64, 65, 20, 21] (.seq (.seq (.reg false [] [
    (mv 18 9),
    (op 19 (.bin .gtr) [.t 18, .c (.int .i64 0)])] [18]) <|
   .cond (.t 19) (.skip)
    (.exit 0)) <|
   .seq (.block 1 (.seq (.reg false [] [
    (mv 22 7),
   ⟨(some 23), (.call 42), [.t 22, .c (.int .i64 4), .c (.bool true), .c (.bool false)], .sh, none, none⟩,
   ⟨(some 10), .mvo, [.t 23], .none, (some 23), none⟩] [22, 23]) <|
   .seq (.seq (.reg false [] [
    (mv 24 8),
    (op 25 (.len false) [.t 24]),
    (op 26 (.bin .gtr) [.t 25, .c (.int .i64 0)]),
    (mv 27 26),
   ⟨(some 28), .mv, [.t 7], .none, none, (some (27, true))⟩,
   ⟨(some 29), (.call 41), [.t 28, .c (.int .i64 2)], .sh, none, (some (27, true))⟩,
   ⟨(some 30), (.bin .eql), [.t 29, .c (.int .i64 0)], .none, none, (some (27, true))⟩,
    (op 31 .pick [.t 27, .t 30, .c (.bool false)])] [24, 25, 26, 27, 28, 29, 30]) <|
   .cond (.t 31) (.seq (.reg false [] [
    (mv 32 8),
    (mv 33 7),
    (mv 34 8),
    (op 35 (.len false) [.t 34]),
   ⟨(some 36), (.call 41), [.t 33, .t 35], .sh, none, none⟩,
    (op 37 (.ia 1) [.t 32, .t 36]),
   ⟨(some 38), (.ld false 1), [.t 37], .sh, none, none⟩,
   ⟨(some 10), .mvo, [.t 38], .none, (some 38), none⟩] [32, 33, 34, 35, 36, 37, 38]) <|
   .seq (.reg false [] [
    (mv 39 7),
   ⟨(some 40), (.call 41), [.t 39, .c (.int .i64 3)], .sh, none, none⟩] [39]) <|
   .block 2 (.seq (.reg false [] [
    (op 42 (.bin .eql) [.t 40, .c (.int .i64 0)]),
    (mv 41 42)] [42]) <|
   .cond (.t 41) (.reg false [] [
    (mv 43 10),
    (mv 44 10),
    (op 45 (.call 44) [.t 44]),
    (op 46 (.mks 1 [.int .i64 0] 6 [0, 1, 2, 3, 4, 5]) [.c (.int .i64 9), .c (.int .i64 4), .c (.int .i64 6), .c (.int .i64 2), .c (.int .i64 8), .c (.int .i64 3)]),
    (op 47 (.call 43) [.t 43, .t 45, .t 46]),
   ⟨(some 10), .mvo, [.t 47], .none, (some 47), none⟩] [43, 44, 45, 46, 47])
    (.seq (.reg false [] [
    (op 49 (.bin .eql) [.t 40, .c (.int .i64 1)]),
    (mv 48 49)] [49, 40]) <|
   .cond (.t 48) (.reg false [] [
    (mv 50 10),
    (op 51 (.build [.int .i64 0, .str [], .int .i64 0] [(0, 1), (1, 1)]) [.c (.int .i64 1), .c (.str [32, 99, 97, 114])]),
    (op 52 (.mks 3 [.int .i64 0, .str [], .int .i64 0] 1 [0]) [.t 51]),
    (op 53 (.call 37) [.t 50, .t 52]),
   ⟨(some 10), .mvo, [.t 53], .none, (some 53), none⟩] [50, 51, 52, 53])
    (.skip))))
    (.skip)) <|
   .seq (.seq (.reg false [] [
    (mv 54 2),
    (mv 55 54),
   ⟨(some 56), .mv, [.t 7], .none, none, (some (55, true))⟩,
   ⟨(some 57), (.call 41), [.t 56, .c (.int .i64 4)], .sh, none, (some (55, true))⟩,
   ⟨(some 58), (.bin .eql), [.t 57, .c (.int .i64 0)], .none, none, (some (55, true))⟩,
    (op 59 .pick [.t 55, .t 58, .c (.bool false)])] [54, 55, 56, 57, 58]) <|
   .cond (.t 59) (.reg false [] [
    (mv 60 7),
   ⟨(some 61), (.call 45), [.t 60, .c (.int .i64 4)], .sh, none, none⟩,
   ⟨(some 10), .mvo, [.t 61], .none, (some 61), none⟩] [60, 61])
    (.skip)) <|
   .reg false [] [
   ⟨(some 62), .mvo, [.t 8], .none, (some 8), none⟩,
    (mv 63 10),
    (op 64 (.mks 1 [.sl .full 3 []] 1 [0]) [.t 63]),
   ⟨(some 65), (.appS false 1 24), [.t 62, .t 64], .sh, none, none⟩,
   ⟨(some 8), .mvo, [.t 65], .none, (some 65), none⟩] [62, 63, 64, 65, 10])) <|
   .reg false [] [
    (mv 20 9),
    (op 21 (.bin .sub) [.t 20, .c (.int .i64 1)]),
    (mv 9 21)] [20, 21])
def F17 : AFun :=
 { nargs := 3, keep := true, res := [.tmpD 6], body :=
   .seq (.reg false [] [(op 6 .mv [.c (.sl .full 1 [])])] [6]) <|
   .seq (.reg false [] [
    (mv 11 0),
    (op 12 (.build [.sl .full 1 [], .int .i64 0] [(0, 1)]) [.t 11]),
   ⟨(some 13), (.boxS 2), [.t 12], .sh, none, none⟩,
    (mv 7 13)] [11, 12, 13, 0]) <|
   .seq (.reg false [] [(op 8 .mv [.c (.sl .full 1 [])])] []) <|
   .seq (.seq (.reg false [] [
    (mv 14 7),
    (mv 15 1),
    (op 16 (.bin .add) [.t 15, .c (.int .i64 1)]),
   ⟨(some 17), (.call 41), [.t 14, .t 16], .sh, none, none⟩,
    (mv 9 17)] [14, 15, 16, 17, 1]) <|
   .block 0 (L17_0)) <|
   .seq (.reg false [] [
    (mv 66 8),
   ⟨(some 6), .mvo, [.t 66], .none, (some 66), none⟩] [66, 8]) <|
   .ret }

/- bitext/bitextmake.Place -/
def F18 : AFun :=
 { nargs := 2, keep := false, res := [.tmp 4], body :=
   .seq (.reg false [] [(op 4 .mv [.c (.int .i64 0)])] [4]) <|
   .seq (.reg false [] [
    (mv 5 0),
    (mv 6 1),
    (op 7 (.bin .rem) [.t 5, .t 6]),
    (mv 0 7)] [5, 6, 7]) <|
   .seq (.seq (.reg false [] [
    (mv 8 0),
    (op 9 (.bin .lss) [.t 8, .c (.int .i64 0)])] [8]) <|
   .cond (.t 9) (.reg false [] [
    (mv 10 0),
    (mv 11 1),
    (op 12 (.bin .add) [.t 10, .t 11]),
    (mv 0 12)] [10, 11, 12, 1])
    (.skip)) <|
   .seq (.reg false [] [
    (mv 13 0),
    (mv 4 13)] [13, 0]) <|
   .ret }

/- bitext/bitextref3.Length -/
def L15_0 : ACode :=
   .loop [8, 9, 4, 10, 11, 12, 13, 14, 15, 16, 17, 18, 19, 20, 21, 22, 23, 24, 25, 26] (.seq (.reg false [] [(op 8 (.bin .lss) [.t 7, .t 6])] []) <|
   .seq (.cond (.t 8) (.skip)
    (.exit 0)) <|
   .seq (.block 1 (.seq (.reg false [] [
    (mv 9 7),
    (mv 4 9)] [9]) <|
   .seq (.reg false [] [
    (mv 10 0),
    (mv 11 4),
    (op 12 (.ia 3) [.t 10, .t 11]),
    (op 13 (.fa 0) [.t 12]),
    (op 14 (.ld false 1) [.t 13]),
    (op 15 (.bin .eql) [.t 14, .c (.int .i64 1)])] [10, 11, 12, 13, 14]) <|
   .cond (.t 15) (.reg false [] [
    (mv 16 3),
    (mv 17 0),
    (mv 18 4),
    (op 19 (.ia 3) [.t 17, .t 18]),
    (op 20 (.fa 1) [.t 19]),
    (op 21 (.ld false 1) [.t 20]),
    (op 22 (.len true) [.t 21]),
    (op 23 (.bin .add) [.t 16, .t 22]),
    (mv 3 23)] [16, 17, 18, 19, 20, 21, 22, 23, 4])
    (.reg false [] [
    (mv 24 3),
    (op 25 (.bin .add) [.t 24, .c (.int .i64 1)]),
    (mv 3 25)] [24, 25]))) <|
   .reg false [] [
    (op 26 (.bin .add) [.t 7, .c (.int .i64 1)]),
    (mv 7 26)] [26])
def F15 : AFun :=
 { nargs := 1, keep := false, res := [.tmp 2], body :=
   .seq (.reg false [] [(op 2 .mv [.c (.int .i64 0)])] [2]) <|
   .seq (.reg false [] [(op 3 .mv [.c (.int .i64 0)])] []) <|
   .seq (.seq (.reg false [] [
    (mv 5 0),
    (op 6 (.len false) [.t 5]),
    (op 7 .mv [.c (.int .i64 0)])] [5]) <|
   .block 0 (L15_0)) <|
   .seq (.reg false [] [
    (mv 27 3),
    (mv 2 27)] [27, 3]) <|
   .ret }

/- bitext/bitextref16.RepeatKey -/
def F19 : AFun :=
 { nargs := 1, keep := false, res := [.tmp 2, .tmp 3], body :=
   .seq (.reg false [] [
    (op 2 .mv [.c (.str [])]),
    (op 3 .mv [.c (.bool false)])] [2, 3]) <|
   .seq (.seq (.reg false [] [
    (mv 6 0),
    (op 7 (.call 21) [.t 6]),
    (op 8 (.bin .neq) [.t 7, .c (.int .i64 0)])] [6, 7]) <|
   .cond (.t 8) (.seq (.reg false [] [
    (op 2 .mv [.c (.str [])]),
    (op 3 .mv [.c (.bool false)])] []) <|
   .ret)
    (.skip)) <|
   .seq (.reg false [] [
    (mv 10 0),
    (op 11 (.call 23) [.t 10]),
    (op 12 (.call 33) [.t 11]),
    (mv 9 12),
    (op 13 (.ext 0) [.t 9]),
    (op 14 (.ext 1) [.t 9]),
    (mv 4 13),
    (mv 5 14)] [10, 11, 12, 9, 13, 14, 5, 0]) <|
   .seq (.reg false [] [
    (mv 15 4),
    (mv 2 15),
    (op 3 .mv [.c (.bool true)])] [15, 4]) <|
   .ret }

/- bitext/repeat.Key -/
def F20 : AFun :=
 { nargs := 1, keep := false, res := [.tmp 2], body :=
   .seq (.reg false [] [(op 2 .mv [.c (.str [])])] [2]) <|
   .seq (.seq (.reg false [] [
    (mv 5 0),
    (op 6 (.call 46) [.t 5]),
    (op 7 (.bin .neq) [.t 6, .c (.int .i64 0)])] [5, 6]) <|
   .cond (.t 7) (.seq (.reg false [] [(op 2 .mv [.c (.str [])])] []) <|
   .ret)
    (.skip)) <|
   .seq (.reg false [] [
    (mv 9 0),
    (op 10 (.call 47) [.t 9]),
    (op 11 (.call 32) [.t 10]),
    (mv 8 11),
    (op 12 (.ext 0) [.t 8]),
    (op 13 (.ext 1) [.t 8]),
    (mv 3 12),
    (mv 4 13)] [9, 10, 11, 8, 12, 13, 4, 0]) <|
   .seq (.reg false [] [
    (mv 14 3),
    (mv 2 14)] [14, 3]) <|
   .ret }

/- bitext/bitextref3.Validate -/
def L21_0 : ACode :=
   .loop [16, 17, 3, 18, 19, 20, 21, 22, 23, 24, 25, 4, 26, 27, 28, 2, 29] (.seq (.reg false [] [(op 16 (.bin .lss) [.t 15, .t 14])] []) <|
   .seq (.cond (.t 16) (.skip)
    (.exit 0)) <|
   .seq (.block 1 (.seq (.reg false [] [
    (mv 17 15),
    (mv 3 17)] [17]) <|
   .seq (.reg true [] [
    (mv 18 0),
    (mv 19 3),
    (op 20 (.slc false 3 false true) [.t 18, .t 19]),
    (mv 21 0),
    (mv 22 3),
    (op 23 (.ia 3) [.t 21, .t 22]),
    (op 24 (.ld true 3) [.t 23]),
    (op 25 (.call 48) [.t 20, .t 24]),
    (mv 4 25)] [18, 19, 20, 21, 22, 23, 24, 25, 3]) <|
   .seq (.reg false [] [
    (mv 26 4),
    (op 27 (.bin .neq) [.t 26, .c (.int .i64 0)])] [26]) <|
   .cond (.t 27) (.seq (.reg false [] [
    (mv 28 4),
    (mv 2 28)] [28, 4]) <|
   .ret)
    (.skip))) <|
   .reg false [] [
    (op 29 (.bin .add) [.t 15, .c (.int .i64 1)]),
    (mv 15 29)] [29])
def F21 : AFun :=
 { nargs := 1, keep := false, res := [.tmp 2], body :=
   .seq (.reg false [] [(op 2 .mv [.c (.int .i64 0)])] [2]) <|
   .seq (.seq (.reg false [] [
    (mv 5 0),
    (op 6 (.len false) [.t 5]),
    (op 7 (.bin .gtr) [.t 6, .c (.int .i64 512)]),
    (mv 8 7),
   ⟨(some 9), .mv, [.t 0], .none, none, (some (8, false))⟩,
   ⟨(some 10), (.call 15), [.t 9], .none, none, (some (8, false))⟩,
   ⟨(some 11), (.bin .gtr), [.t 10, .c (.int .i64 1024)], .none, none, (some (8, false))⟩,
    (op 12 .pick [.t 8, .c (.bool true), .t 11])] [5, 6, 7, 8, 9, 10, 11]) <|
   .cond (.t 12) (.seq (.reg false [] [(op 2 .mv [.c (.int .i64 3)])] []) <|
   .ret)
    (.skip)) <|
   .seq (.seq (.reg false [] [
    (mv 13 0),
    (op 14 (.len false) [.t 13]),
    (op 15 .mv [.c (.int .i64 0)])] [13]) <|
   .block 0 (L21_0)) <|
   .seq (.reg false [] [(op 2 .mv [.c (.int .i64 0)])] []) <|
   .ret }

/- bitext/bitextref3.Renumber -/
def F23 : AFun :=
 { nargs := 1, keep := false, res := [.tmp 2], body :=
   .seq (.reg false [] [(op 2 .mv [.c (.sl .full 3 [])])] [2]) <|
   .seq (.reg false [] [
    (mv 4 0),
    (op 5 (.call 44) [.t 4]),
   ⟨(some 3), .mvo, [.t 5], .none, (some 5), none⟩] [4, 5]) <|
   .seq (.reg false [] [
    (mv 6 0),
    (mv 7 3),
    (mv 8 3),
    (op 9 (.len false) [.t 8]),
    (op 10 (.call 49) [.t 9]),
    (op 11 (.call 43) [.t 6, .t 7, .t 10]),
   ⟨(some 2), .mvo, [.t 11], .none, (some 11), none⟩] [6, 7, 8, 9, 10, 11, 0, 3]) <|
   .ret }

/- bitext/bitextref3.SameInts -/
def L24_0 : ACode :=
   .loop [14, 15, 5, 16, 17, 18, 19, 20, 21, 22, 23, 24, 4, 25] (.seq (.reg false [] [(op 14 (.bin .lss) [.t 13, .t 12])] []) <|
   .seq (.cond (.t 14) (.skip)
    (.exit 0)) <|
   .seq (.block 1 (.seq (.reg false [] [
    (mv 15 13),
    (mv 5 15)] [15]) <|
   .seq (.reg true [] [
    (mv 16 0),
    (mv 17 5),
    (op 18 (.ia 1) [.t 16, .t 17]),
    (op 19 (.ld false 1) [.t 18]),
    (mv 20 1),
    (mv 21 5),
    (op 22 (.ia 1) [.t 20, .t 21]),
    (op 23 (.ld false 1) [.t 22]),
    (op 24 (.bin .neq) [.t 19, .t 23])] [16, 17, 18, 19, 20, 21, 22, 23, 5]) <|
   .cond (.t 24) (.seq (.reg false [] [(op 4 .mv [.c (.bool false)])] []) <|
   .ret)
    (.skip))) <|
   .reg false [] [
    (op 25 (.bin .add) [.t 13, .c (.int .i64 1)]),
    (mv 13 25)] [25])
def F24 : AFun :=
 { nargs := 2, keep := false, res := [.tmp 4], body :=
   .seq (.reg false [] [(op 4 .mv [.c (.bool false)])] [4]) <|
   .seq (.seq (.reg false [] [
    (mv 6 0),
    (op 7 (.len false) [.t 6]),
    (mv 8 1),
    (op 9 (.len false) [.t 8]),
    (op 10 (.bin .neq) [.t 7, .t 9])] [6, 7, 8, 9]) <|
   .cond (.t 10) (.seq (.reg false [] [(op 4 .mv [.c (.bool false)])] []) <|
   .ret)
    (.skip)) <|
   .seq (.seq (.reg false [] [
    (mv 11 0),
    (op 12 (.len false) [.t 11]),
    (op 13 .mv [.c (.int .i64 0)])] [11]) <|
   .block 0 (L24_0)) <|
   .seq (.reg false [] [(op 4 .mv [.c (.bool true)])] []) <|
   .ret }

/- bitext/repeat.First -/
def L25_0 : ACode :=
   .loop [15, 16, 17, 18, 5, 6, 19, 7, 20, 21, 22, 23, 24, 8, 26, 27, 28, 25, 29, 30, 9, 10, 31, 32, 33, 34, 35, 36, 37, 38, 39, 40] (.seq (.reg false [] [(op 15 (.bin .lss) [.t 14, .t 13])] []) <|
   .seq (.cond (.t 15) (.skip)
    (.exit 0)) <|
   .seq (.block 1 (.seq (.reg false [] [
    (mv 16 14),
    (op 17 (.ia 1) [.t 12, .t 14]),
   ⟨(some 18), (.ld false 1), [.t 17], .sh, none, none⟩,
    (mv 5 16),
   ⟨(some 6), .mvo, [.t 18], .none, (some 18), none⟩] [16, 17, 18]) <|
   .seq (.reg false [] [
    (mv 19 5),
    (mv 7 19)] [19]) <|
   .seq (.seq (.reg false [] [
    (mv 20 6),
    (op 21 (.call 46) [.t 20]),
    (op 22 (.bin .eql) [.t 21, .c (.int .i64 0)])] [20, 21]) <|
   .cond (.t 22) (.seq (.reg false [] [
    (mv 23 6),
    (op 24 (.call 20) [.t 23]),
    (mv 8 24)] [23, 24, 6]) <|
   .seq (.reg false [] [
    (mv 26 3),
    (mv 27 8),
   ⟨(some 28), (.lkp true false [2] [.int .i64 0]), [.t 26, .t 27], .sh, none, none⟩,
    (mv 25 28),
    (op 29 (.ext 0) [.t 25]),
    (op 30 (.ext 1) [.t 25]),
    (mv 9 29),
    (mv 10 30)] [26, 27, 28, 25, 29, 30]) <|
   .seq (.reg false [] [(mv 31 10)] [10]) <|
   .cond (.t 31) (.reg false [] [
    (mv 32 9),
    (mv 7 32)] [32, 9])
    (.reg false [] [
    (mv 33 3),
    (mv 34 8),
    (mv 35 5),
   ⟨none, (.mup [2]), [.t 33, .t 34, .t 35], .sh, none, none⟩] [33, 34, 35, 8, 5]))
    (.skip)) <|
   .reg false [] [
   ⟨(some 36), .mvo, [.t 4], .none, (some 4), none⟩,
    (mv 37 7),
    (op 38 (.mks 1 [.int .i64 0] 1 [0]) [.t 37]),
   ⟨(some 39), (.app false 1 8), [.t 36, .t 38], .none, (some 36), none⟩,
   ⟨(some 4), .mvo, [.t 39], .none, (some 39), none⟩] [36, 37, 38, 39, 7])) <|
   .reg false [] [
    (op 40 (.bin .add) [.t 14, .c (.int .i64 1)]),
    (mv 14 40)] [40])
def F25 : AFun :=
 { nargs := 1, keep := false, res := [.tmp 2], body :=
   .seq (.reg false [] [(op 2 .mv [.c (.sl .full 1 [])])] [2]) <|
   .seq (.reg false [] [
   ⟨(some 11), .mkm, [], .sh, none, none⟩,
    (mv 3 11)] [11]) <|
   .seq (.reg false [] [(op 4 .mv [.c (.sl .full 1 [])])] []) <|
   .seq (.seq (.reg false [] [
    (mv 12 0),
    (op 13 (.len false) [.t 12]),
    (op 14 .mv [.c (.int .i64 0)])] [0]) <|
   .block 0 (L25_0)) <|
   .seq (.reg false [] [
    (mv 41 4),
   ⟨(some 2), .mvo, [.t 41], .none, (some 41), none⟩] [41, 4]) <|
   .ret }

/- bitext/bitextref16.First -/
def L26_0 : ACode :=
   .loop [27, 28, 29, 30, 31, 35, 36, 37, 38, 39, 34, 40, 41, 9, 10, 42, 43, 44, 45, 46, 47, 48, 32, 33] (.seq (.seq (.reg false [] [
    (mv 27 8),
    (op 28 (.bin .geq) [.t 27, .c (.int .i64 0)]),
    (mv 29 28),
   ⟨(some 30), .mv, [.t 7], .none, none, (some (29, true))⟩,
    (op 31 .pick [.t 29, .t 30, .c (.bool false)])] [27, 28, 29, 30]) <|
   .cond (.t 31) (.skip)
    (.exit 2)) <|
   .seq (.block 3 (.seq (.reg false [] [
    (mv 35 0),
    (mv 36 8),
    (op 37 (.ia 1) [.t 35, .t 36]),
   ⟨(some 38), (.ld false 1), [.t 37], .sh, none, none⟩,
    (op 39 (.call 19) [.t 38]),
    (mv 34 39),
    (op 40 (.ext 0) [.t 34]),
    (op 41 (.ext 1) [.t 34]),
    (mv 9 40),
    (mv 10 41)] [35, 36, 37, 38, 39, 34, 40, 41]) <|
   .seq (.reg false [] [
    (mv 42 10),
    (mv 43 42),
   ⟨(some 44), .mv, [.t 6], .none, none, (some (43, true))⟩,
   ⟨(some 45), .mv, [.t 9], .none, none, (some (43, true))⟩,
   ⟨(some 46), (.bin .eql), [.t 44, .t 45], .none, none, (some (43, true))⟩,
    (op 47 .pick [.t 43, .t 46, .c (.bool false)])] [42, 43, 44, 45, 46, 10, 9]) <|
   .cond (.t 47) (.reg false [] [
    (mv 48 8),
    (mv 5 48)] [48])
    (.skip))) <|
   .reg false [] [
    (mv 32 8),
    (op 33 (.bin .sub) [.t 32, .c (.int .i64 1)]),
    (mv 8 33)] [32, 33])
def L26_1 : ACode :=
   .loop [14, 15, 4, 16, 5, 18, 19, 20, 21, 22, 17, 23, 24, 6, 7, 25, 26, 8, 27, 28, 29, 30, 31, 35, 36, 37, 38, 39, 34, 40, 41, 9, 10, 42, 43, 44, 45, 46, 47, 48, 32, 33, 49, 50, 51, 52, 53] (.seq (.reg false [] [(op 14 (.bin .lss) [.t 13, .t 12])] []) <|
   .seq (.cond (.t 14) (.skip)
    (.exit 0)) <|
   .seq (.block 1 (.seq (.reg false [] [
    (mv 15 13),
    (mv 4 15)] [15]) <|
   .seq (.reg false [] [
    (mv 16 4),
    (mv 5 16)] [16]) <|
   .seq (.reg false [] [
    (mv 18 0),
    (mv 19 4),
    (op 20 (.ia 1) [.t 18, .t 19]),
   ⟨(some 21), (.ld false 1), [.t 20], .sh, none, none⟩,
    (op 22 (.call 19) [.t 21]),
    (mv 17 22),
    (op 23 (.ext 0) [.t 17]),
    (op 24 (.ext 1) [.t 17]),
    (mv 6 23),
    (mv 7 24)] [18, 19, 20, 21, 22, 17, 23, 24]) <|
   .seq (.seq (.reg false [] [
    (mv 25 4),
    (op 26 (.bin .sub) [.t 25, .c (.int .i64 1)]),
    (mv 8 26)] [25, 26, 4]) <|
   .block 2 (L26_0)) <|
   .reg false [] [
   ⟨(some 49), .mvo, [.t 3], .none, (some 3), none⟩,
    (mv 50 5),
    (op 51 (.mks 1 [.int .i64 0] 1 [0]) [.t 50]),
   ⟨(some 52), (.app false 1 8), [.t 49, .t 51], .none, (some 49), none⟩,
   ⟨(some 3), .mvo, [.t 52], .none, (some 52), none⟩] [49, 50, 51, 52, 5])) <|
   .reg false [] [
    (op 53 (.bin .add) [.t 13, .c (.int .i64 1)]),
    (mv 13 53)] [53])
def F26 : AFun :=
 { nargs := 1, keep := false, res := [.tmp 2], body :=
   .seq (.reg false [] [(op 2 .mv [.c (.sl .full 1 [])])] [2]) <|
   .seq (.reg false [] [(op 3 .mv [.c (.sl .full 1 [])])] []) <|
   .seq (.seq (.reg false [] [
    (mv 11 0),
    (op 12 (.len false) [.t 11]),
    (op 13 .mv [.c (.int .i64 0)])] [11]) <|
   .block 0 (L26_1)) <|
   .seq (.reg false [] [
    (mv 54 3),
   ⟨(some 2), .mvo, [.t 54], .none, (some 54), none⟩] [54, 3]) <|
   .ret }

/- bitext/bitextlaw19.sameGroups -/
def L27_0 : ACode :=
   .loop [14, 15, 5, 16, 17, 18, 19, 20, 21, 22, 23, 24, 25, 4, 26] (.seq (.reg false [] [(op 14 (.bin .lss) [.t 13, .t 12])] []) <|
   .seq (.cond (.t 14) (.skip)
    (.exit 0)) <|
   .seq (.block 1 (.seq (.reg false [] [
    (mv 15 13),
    (mv 5 15)] [15]) <|
   .seq (.reg true [] [
    (mv 16 0),
    (mv 17 5),
    (op 18 (.ia 1) [.t 16, .t 17]),
   ⟨(some 19), (.ld false 1), [.t 18], .sh, none, none⟩,
    (mv 20 1),
    (mv 21 5),
    (op 22 (.ia 1) [.t 20, .t 21]),
    (op 23 (.ld false 1) [.t 22]),
   ⟨(some 24), (.callR 24), [.t 19, .t 23], .sh, none, none⟩,
    (op 25 (.un .not) [.t 24])] [16, 17, 18, 19, 20, 21, 22, 23, 24, 5]) <|
   .cond (.t 25) (.seq (.reg false [] [(op 4 .mv [.c (.bool false)])] []) <|
   .ret)
    (.skip))) <|
   .reg false [] [
    (op 26 (.bin .add) [.t 13, .c (.int .i64 1)]),
    (mv 13 26)] [26])
def F27 : AFun :=
 { nargs := 2, keep := false, res := [.tmp 4], body :=
   .seq (.reg false [] [(op 4 .mv [.c (.bool false)])] [4]) <|
   .seq (.seq (.reg false [] [
    (mv 6 0),
    (op 7 (.len false) [.t 6]),
    (mv 8 1),
    (op 9 (.len false) [.t 8]),
    (op 10 (.bin .neq) [.t 7, .t 9])] [6, 7, 8, 9]) <|
   .cond (.t 10) (.seq (.reg false [] [(op 4 .mv [.c (.bool false)])] []) <|
   .ret)
    (.skip)) <|
   .seq (.seq (.reg false [] [
    (mv 11 0),
    (op 12 (.len false) [.t 11]),
    (op 13 .mv [.c (.int .i64 0)])] [11]) <|
   .block 0 (L27_0)) <|
   .seq (.reg false [] [(op 4 .mv [.c (.bool true)])] []) <|
   .ret }

/- bitext/repeat.Groups -/
def L28_0 : ACode :=
   .loop [14, 15, 16, 17, 5, 6, 19, 20, 21, 18, 22, 23, 7, 8, 24, 25, 26, 27, 28, 29, 30, 31, 32, 33, 34, 35, 36, 37, 38, 39, 40, 41, 42, 43, 44] (.seq (.reg false [] [(op 14 (.bin .lss) [.t 13, .t 12])] []) <|
   .seq (.cond (.t 14) (.skip)
    (.exit 0)) <|
   .seq (.block 1 (.seq (.reg false [] [
    (mv 15 13),
    (op 16 (.ia 1) [.t 11, .t 13]),
    (op 17 (.ld false 1) [.t 16]),
    (mv 5 15),
    (mv 6 17)] [15, 16, 17]) <|
   .seq (.reg false [] [
    (mv 19 4),
    (mv 20 6),
   ⟨(some 21), (.lkp true false [0] [.int .i64 0]), [.t 19, .t 20], .sh, none, none⟩,
    (mv 18 21),
    (op 22 (.ext 0) [.t 18]),
    (op 23 (.ext 1) [.t 18]),
    (mv 7 22),
    (mv 8 23)] [19, 20, 21, 18, 22, 23]) <|
   .seq (.seq (.reg false [] [
    (mv 24 8),
    (op 25 (.un .not) [.t 24])] [24, 8]) <|
   .cond (.t 25) (.seq (.reg false [] [
    (mv 26 3),
    (op 27 (.len false) [.t 26]),
    (mv 7 27)] [26, 27]) <|
   .seq (.reg false [] [
    (mv 28 4),
    (mv 29 6),
    (mv 30 7),
   ⟨none, (.mup [0]), [.t 28, .t 29, .t 30], .sh, none, none⟩] [28, 29, 30, 6]) <|
   .reg false [] [
   ⟨(some 31), .mvo, [.t 3], .none, (some 3), none⟩,
    (op 32 (.mks 1 [.sl .full 1 []] 1 [0]) [.c (.sl .full 1 [])]),
   ⟨(some 33), (.appS false 1 24), [.t 31, .t 32], .sh, none, none⟩,
   ⟨(some 3), .mvo, [.t 33], .none, (some 33), none⟩] [31, 32, 33])
    (.skip)) <|
   .reg false [] [
    (mv 34 3),
    (mv 35 7),
    (mv 36 3),
    (mv 37 7),
    (op 38 (.ia 1) [.t 36, .t 37]),
   ⟨(some 39), (.ld false 1), [.t 38], .sh, none, none⟩,
    (mv 40 5),
    (op 41 (.mks 1 [.int .i64 0] 1 [0]) [.t 40]),
   ⟨(some 42), (.appS false 1 8), [.t 39, .t 41], .sh, none, none⟩,
    (op 43 (.ia 1) [.t 34, .t 35]),
   ⟨none, (.st 1), [.t 43, .t 42], .sh, none, none⟩] [34, 35, 36, 37, 38, 39, 40, 41, 42, 43, 7, 5])) <|
   .reg false [] [
    (op 44 (.bin .add) [.t 13, .c (.int .i64 1)]),
    (mv 13 44)] [44])
def F28 : AFun :=
 { nargs := 1, keep := true, res := [.tmpD 2], body :=
   .seq (.reg false [] [(op 2 .mv [.c (.sl .full 1 [])])] [2]) <|
   .seq (.reg false [] [(op 3 .mv [.c (.sl .full 1 [])])] []) <|
   .seq (.reg false [] [
   ⟨(some 9), .mkm, [], .sh, none, none⟩,
    (mv 4 9)] [9]) <|
   .seq (.seq (.reg false [] [
    (mv 10 0),
   ⟨(some 11), (.call 25), [.t 10], .sh, none, none⟩,
    (op 12 (.len false) [.t 11]),
    (op 13 .mv [.c (.int .i64 0)])] [10, 0]) <|
   .block 0 (L28_0)) <|
   .seq (.reg false [] [
    (mv 45 3),
   ⟨(some 2), .mvo, [.t 45], .none, (some 45), none⟩] [45, 3]) <|
   .ret }

/- bitext/bitextref16.Groups -/
def L29_0 : ACode :=
   .loop [24, 25, 7, 26, 27, 28, 29, 30, 31, 32, 33, 34, 35, 36] (.seq (.reg false [] [(op 24 (.bin .lss) [.t 23, .t 22])] []) <|
   .seq (.cond (.t 24) (.skip)
    (.exit 2)) <|
   .seq (.block 3 (.seq (.reg false [] [
    (mv 25 23),
    (mv 7 25)] [25]) <|
   .seq (.reg false [] [
    (mv 26 4),
    (mv 27 7),
    (op 28 (.ia 1) [.t 26, .t 27]),
    (op 29 (.ld false 1) [.t 28]),
    (mv 30 5),
    (op 31 (.bin .eql) [.t 29, .t 30])] [26, 27, 28, 29, 30]) <|
   .cond (.t 31) (.reg false [] [
   ⟨(some 32), .mvo, [.t 6], .none, (some 6), none⟩,
    (mv 33 7),
    (op 34 (.mks 1 [.int .i64 0] 1 [0]) [.t 33]),
   ⟨(some 35), (.app false 1 8), [.t 32, .t 34], .none, (some 32), none⟩,
   ⟨(some 6), .mvo, [.t 35], .none, (some 35), none⟩] [32, 33, 34, 35, 7])
    (.skip))) <|
   .reg false [] [
    (op 36 (.bin .add) [.t 23, .c (.int .i64 1)]),
    (mv 23 36)] [36])
def L29_1 : ACode :=
   .loop [13, 14, 5, 15, 16, 17, 18, 19, 20, 6, 21, 22, 23, 24, 25, 7, 26, 27, 28, 29, 30, 31, 32, 33, 34, 35, 36, 37, 38, 39, 40, 41] (.seq (.reg false [] [(op 13 (.bin .lss) [.t 12, .t 11])] []) <|
   .seq (.cond (.t 13) (.skip)
    (.exit 0)) <|
   .seq (.block 1 (.seq (.reg false [] [
    (mv 14 12),
    (mv 5 14)] [14]) <|
   .seq (.seq (.reg false [] [
    (mv 15 4),
    (mv 16 5),
    (op 17 (.ia 1) [.t 15, .t 16]),
    (op 18 (.ld false 1) [.t 17]),
    (mv 19 5),
    (op 20 (.bin .neq) [.t 18, .t 19])] [15, 16, 17, 18, 19]) <|
   .cond (.t 20) (.exit 1)
    (.skip)) <|
   .seq (.reg false [] [(op 6 .mv [.c (.sl .full 1 [])])] []) <|
   .seq (.seq (.reg false [] [
    (mv 21 0),
    (op 22 (.len false) [.t 21]),
    (op 23 .mv [.c (.int .i64 0)])] [21]) <|
   .block 2 (L29_0)) <|
   .reg false [] [
   ⟨(some 37), .mvo, [.t 3], .none, (some 3), none⟩,
    (mv 38 6),
    (op 39 (.mks 1 [.sl .full 1 []] 1 [0]) [.t 38]),
   ⟨(some 40), (.app false 1 24), [.t 37, .t 39], .none, (some 37), none⟩,
   ⟨(some 3), .mvo, [.t 40], .none, (some 40), none⟩] [37, 38, 39, 40, 6])) <|
   .reg false [] [
    (op 41 (.bin .add) [.t 12, .c (.int .i64 1)]),
    (mv 12 41)] [41])
def F29 : AFun :=
 { nargs := 1, keep := false, res := [.tmp 2], body :=
   .seq (.reg false [] [(op 2 .mv [.c (.sl .full 1 [])])] [2]) <|
   .seq (.reg false [] [(op 3 .mv [.c (.sl .full 1 [])])] []) <|
   .seq (.reg false [] [
    (mv 8 0),
   ⟨(some 9), (.call 26), [.t 8], .sh, none, none⟩,
   ⟨(some 4), .mvo, [.t 9], .none, (some 9), none⟩] [8, 9]) <|
   .seq (.seq (.reg false [] [
    (mv 10 0),
    (op 11 (.len false) [.t 10]),
    (op 12 .mv [.c (.int .i64 0)])] [10]) <|
   .block 0 (L29_1)) <|
   .seq (.reg false [] [
    (mv 42 3),
   ⟨(some 2), .mvo, [.t 42], .none, (some 42), none⟩] [42, 3]) <|
   .ret }

/- bitext/bitextref3.Rename -/
def L43_0 : ACode :=
   .loop [27, 28, 29, 30, 31, 32, 33, 34, 35, 36, 39, 40, 41, 42, 43, 44, 45, 46, 47, 48, 49, 50, 51, 52, 53, 54, 55, 56, 57, 37, 38] (.seq (.seq (.reg false [] [
    (mv 27 10),
    (mv 28 1),
    (op 29 (.len false) [.t 28]),
    (op 30 (.bin .lss) [.t 27, .t 29]),
    (mv 31 30),
   ⟨(some 32), .mv, [.t 10], .none, none, (some (31, true))⟩,
   ⟨(some 33), .mv, [.t 2], .none, none, (some (31, true))⟩,
   ⟨(some 34), (.len false), [.t 33], .none, none, (some (31, true))⟩,
   ⟨(some 35), (.bin .lss), [.t 32, .t 34], .none, none, (some (31, true))⟩,
    (op 36 .pick [.t 31, .t 35, .c (.bool false)])] [27, 28, 29, 30, 31, 32, 33, 34, 35]) <|
   .cond (.t 36) (.skip)
    (.exit 2)) <|
   .seq (.block 3 (.seq (.reg true [] [
    (mv 39 1),
    (mv 40 10),
    (op 41 (.ia 1) [.t 39, .t 40]),
    (op 42 (.ld false 1) [.t 41]),
    (op 43 (.fa 2) [.t 9]),
   ⟨(some 44), (.ld false 1), [.t 43], (.lo 9), none, none⟩,
    (op 45 (.bin .eql) [.t 42, .t 44])] [39, 40, 41, 42, 43, 44]) <|
   .cond (.t 45) (.seq (.reg true [] [
   ⟨(some 46), .mvo, [.t 7], .none, (some 7), none⟩,
    (op 47 (.fa 0) [.t 9]),
   ⟨(some 48), (.ld false 1), [.t 47], (.lo 9), none, none⟩,
    (op 49 (.fa 1) [.t 9]),
   ⟨(some 50), (.ld false 1), [.t 49], (.lo 9), none, none⟩,
    (mv 51 2),
    (mv 52 10),
    (op 53 (.ia 1) [.t 51, .t 52]),
    (op 54 (.ld false 1) [.t 53]),
    (op 55 (.build [.int .i64 0, .str [], .int .i64 0] [(0, 1), (1, 1), (2, 1)]) [.t 48, .t 50, .t 54]),
    (op 56 (.mks 3 [.int .i64 0, .str [], .int .i64 0] 1 [0]) [.t 55]),
   ⟨(some 57), (.app false 3 32), [.t 46, .t 56], .none, (some 46), none⟩,
   ⟨(some 7), .mvo, [.t 57], .none, (some 57), none⟩] [46, 47, 48, 49, 50, 51, 52, 53, 54, 55, 56, 57, 9, 10]) <|
   .exit 2)
    (.skip))) <|
   .reg false [] [
    (mv 37 10),
    (op 38 (.bin .add) [.t 37, .c (.int .i64 1)]),
    (mv 10 38)] [37, 38])
def L43_1 : ACode :=
   .loop [14, 15, 8, 16, 17, 18, 19, 9, 20, 21, 22, 23, 24, 25, 26, 10, 27, 28, 29, 30, 31, 32, 33, 34, 35, 36, 39, 40, 41, 42, 43, 44, 45, 46, 47, 48, 49, 50, 51, 52, 53, 54, 55, 56, 57, 37, 38, 58] (.seq (.reg false [] [(op 14 (.bin .lss) [.t 13, .t 12])] []) <|
   .seq (.cond (.t 14) (.skip)
    (.exit 0)) <|
   .seq (.block 1 (.seq (.reg false [] [
    (mv 15 13),
    (mv 8 15)] [15]) <|
   .seq (.reg false [9] [
    (mv 16 0),
    (mv 17 8),
    (op 18 (.ia 3) [.t 16, .t 17]),
    (op 19 (.ld true 3) [.t 18]),
   ⟨(some 9), (.alloc [.int .i64 0, .str [], .int .i64 0]), [], (.lo 9), none, none⟩,
   ⟨none, (.st 3), [.t 9, .t 19], (.lo 9), none, none⟩] [16, 17, 18, 19, 8]) <|
   .seq (.seq (.reg false [] [
   ⟨(some 20), (.ld true 3), [.t 9], (.lo 9), none, none⟩,
    (op 21 (.call 65) [.t 20]),
    (op 22 (.un .not) [.t 21])] [20, 21]) <|
   .cond (.t 22) (.seq (.reg false [] [
   ⟨(some 23), .mvo, [.t 7], .none, (some 7), none⟩,
   ⟨(some 24), (.ld true 3), [.t 9], (.lo 9), none, none⟩,
    (op 25 (.mks 3 [.int .i64 0, .str [], .int .i64 0] 1 [0]) [.t 24]),
   ⟨(some 26), (.app false 3 32), [.t 23, .t 25], .none, (some 23), none⟩,
   ⟨(some 7), .mvo, [.t 26], .none, (some 26), none⟩] [23, 24, 25, 26, 9]) <|
   .exit 1)
    (.skip)) <|
   .seq (.reg false [] [(op 10 .mv [.c (.int .i64 0)])] []) <|
   .block 2 (L43_0))) <|
   .reg false [] [
    (op 58 (.bin .add) [.t 13, .c (.int .i64 1)]),
    (mv 13 58)] [58])
def F43 : AFun :=
 { nargs := 3, keep := false, res := [.tmp 6], body :=
   .seq (.reg false [] [(op 6 .mv [.c (.sl .full 3 [])])] [6]) <|
   .seq (.reg false [] [(op 7 .mv [.c (.sl .full 3 [])])] []) <|
   .seq (.seq (.reg false [] [
    (mv 11 0),
    (op 12 (.len false) [.t 11]),
    (op 13 .mv [.c (.int .i64 0)])] [11]) <|
   .block 0 (L43_1)) <|
   .seq (.reg false [] [
    (mv 59 7),
    (op 60 (.call 57) [.t 59]),
   ⟨(some 6), .mvo, [.t 60], .none, (some 60), none⟩] [59, 60, 7]) <|
   .ret }

/- bitext/bitextref3.Numbers -/
def L44_0 : ACode :=
   .loop [8, 9, 4, 10, 11, 12, 13, 14, 15, 16, 17, 18, 19, 20, 21, 22, 23, 24, 25, 26, 27, 28, 29, 30, 31, 32, 33] (.seq (.reg false [] [(op 8 (.bin .lss) [.t 7, .t 6])] []) <|
   .seq (.cond (.t 8) (.skip)
    (.exit 0)) <|
   .seq (.block 1 (.seq (.reg false [] [
    (mv 9 7),
    (mv 4 9)] [9]) <|
   .seq (.reg false [] [
    (mv 10 0),
    (mv 11 4),
    (op 12 (.ia 3) [.t 10, .t 11]),
    (op 13 (.ld true 3) [.t 12]),
    (op 14 (.call 65) [.t 13]),
    (mv 15 14),
   ⟨(some 16), .mv, [.t 3], .none, none, (some (15, true))⟩,
   ⟨(some 17), .mv, [.t 0], .none, none, (some (15, true))⟩,
   ⟨(some 18), .mv, [.t 4], .none, none, (some (15, true))⟩,
   ⟨(some 19), (.ia 3), [.t 17, .t 18], .none, none, (some (15, true))⟩,
   ⟨(some 20), (.fa 2), [.t 19], .none, none, (some (15, true))⟩,
   ⟨(some 21), (.ld false 1), [.t 20], .none, none, (some (15, true))⟩,
   ⟨(some 22), (.call 66), [.t 16, .t 21], .none, none, (some (15, true))⟩,
   ⟨(some 23), (.un .not), [.t 22], .none, none, (some (15, true))⟩,
    (op 24 .pick [.t 15, .t 23, .c (.bool false)])] [10, 11, 12, 13, 14, 15, 16, 17, 18, 19, 20, 21, 22, 23]) <|
   .cond (.t 24) (.reg false [] [
   ⟨(some 25), .mvo, [.t 3], .none, (some 3), none⟩,
    (mv 26 0),
    (mv 27 4),
    (op 28 (.ia 3) [.t 26, .t 27]),
    (op 29 (.fa 2) [.t 28]),
    (op 30 (.ld false 1) [.t 29]),
    (op 31 (.mks 1 [.int .i64 0] 1 [0]) [.t 30]),
   ⟨(some 32), (.app false 1 8), [.t 25, .t 31], .none, (some 25), none⟩,
   ⟨(some 3), .mvo, [.t 32], .none, (some 32), none⟩] [25, 26, 27, 28, 29, 30, 31, 32, 4])
    (.skip))) <|
   .reg false [] [
    (op 33 (.bin .add) [.t 7, .c (.int .i64 1)]),
    (mv 7 33)] [33])
def F44 : AFun :=
 { nargs := 1, keep := false, res := [.tmp 2], body :=
   .seq (.reg false [] [(op 2 .mv [.c (.sl .full 1 [])])] [2]) <|
   .seq (.reg false [] [(op 3 .mv [.c (.sl .full 1 [])])] []) <|
   .seq (.seq (.reg false [] [
    (mv 5 0),
    (op 6 (.len false) [.t 5]),
    (op 7 .mv [.c (.int .i64 0)])] [5]) <|
   .block 0 (L44_0)) <|
   .seq (.reg false [] [
    (mv 34 3),
   ⟨(some 2), .mvo, [.t 34], .none, (some 34), none⟩] [34, 3]) <|
   .ret }

/- bitext/bitextmake.Raw -/
def L45_0 : ACode :=
   .loop [12, 13, 16, 17, 18, 19, 20, 21, 22, 23, 24, 25, 26, 7, 27, 28, 29, 30, 31, 32, 33, 34, 14, 15] (.seq (.seq (.reg false [] [
    (mv 12 6),
    (op 13 (.bin .gtr) [.t 12, .c (.int .i64 0)])] [12]) <|
   .cond (.t 13) (.skip)
    (.exit 0)) <|
   .seq (.block 1 (.seq (.reg true [7] [
    (mv 16 0),
   ⟨(some 17), (.call 41), [.t 16, .c (.int .i64 8)], .sh, none, none⟩,
    (op 18 (.bin .sub) [.t 17, .c (.int .i64 1)]),
    (op 19 (.mks 1 [.str []] 8 [0, 1, 2, 3, 4, 5, 6, 7]) [.c (.str []), .c (.str [98]), .c (.str [97, 98, 32, 99]), .c (.str [97, 32, 104, 61, 49]), .c (.str [66]), .c (.str [110, 47]), .c (.str [105]), .c (.str [32, 120])]),
    (mv 20 0),
   ⟨(some 21), (.call 41), [.t 20, .c (.int .i64 8)], .sh, none, none⟩,
    (op 22 (.ia 1) [.t 19, .t 21]),
    (op 23 (.ld false 1) [.t 22]),
    (mv 24 0),
   ⟨(some 25), (.call 41), [.t 24, .c (.int .i64 4)], .sh, none, none⟩,
    (op 26 (.build [.int .i64 0, .str [], .int .i64 0] [(0, 1), (1, 1), (2, 1)]) [.t 18, .t 23, .t 25]),
   ⟨(some 7), (.alloc [.int .i64 0, .str [], .int .i64 0]), [], (.lo 7), none, none⟩,
   ⟨none, (.st 3), [.t 7, .t 26], (.lo 7), none, none⟩] [16, 17, 18, 19, 20, 21, 22, 23, 24, 25, 26]) <|
   .seq (.seq (.reg false [] [
    (mv 27 0),
   ⟨(some 28), (.call 41), [.t 27, .c (.int .i64 3)], .sh, none, none⟩,
    (op 29 (.bin .gtr) [.t 28, .c (.int .i64 0)])] [27, 28]) <|
   .cond (.t 29) (.reg false [] [
    (op 30 (.fa 2) [.t 7]),
   ⟨none, (.st 1), [.t 30, .c (.int .i64 0)], (.lo 7), none, none⟩] [30])
    (.skip)) <|
   .reg false [] [
   ⟨(some 31), .mvo, [.t 5], .none, (some 5), none⟩,
   ⟨(some 32), (.ld true 3), [.t 7], (.lo 7), none, none⟩,
    (op 33 (.mks 3 [.int .i64 0, .str [], .int .i64 0] 1 [0]) [.t 32]),
   ⟨(some 34), (.app false 3 32), [.t 31, .t 33], .none, (some 31), none⟩,
   ⟨(some 5), .mvo, [.t 34], .none, (some 34), none⟩] [31, 32, 33, 34, 7])) <|
   .reg false [] [
    (mv 14 6),
    (op 15 (.bin .sub) [.t 14, .c (.int .i64 1)]),
    (mv 6 15)] [14, 15])
def F45 : AFun :=
 { nargs := 2, keep := false, res := [.tmp 4], body :=
   .seq (.reg false [] [(op 4 .mv [.c (.sl .full 3 [])])] [4]) <|
   .seq (.reg false [] [(op 5 .mv [.c (.sl .full 3 [])])] []) <|
   .seq (.seq (.reg false [] [
    (mv 8 0),
    (mv 9 1),
    (op 10 (.bin .add) [.t 9, .c (.int .i64 1)]),
   ⟨(some 11), (.call 41), [.t 8, .t 10], .sh, none, none⟩,
    (mv 6 11)] [8, 9, 10, 11, 1]) <|
   .block 0 (L45_0)) <|
   .seq (.reg false [] [
    (mv 35 5),
   ⟨(some 4), .mvo, [.t 35], .none, (some 35), none⟩] [35, 5]) <|
   .ret }

/- bitext/item.Validate -/
def L46_0 : ACode :=
   .loop [16, 17, 18, 19, 4, 3, 20, 21, 22, 23, 2, 24, 25, 26, 27, 28, 29, 30, 31, 32, 33, 34] (.seq (.reg false [] [(op 16 (.bin .lss) [.t 15, .t 14])] []) <|
   .seq (.cond (.t 16) (.skip)
    (.exit 0)) <|
   .seq (.block 1 (.seq (.reg false [4] [
    (mv 17 15),
    (op 18 (.ia 3) [.t 13, .t 15]),
    (op 19 (.ld true 3) [.t 18]),
   ⟨(some 4), (.alloc [.int .i64 0, .str [], .int .i64 0]), [], (.lo 4), none, none⟩,
    (mv 3 17),
   ⟨none, (.st 3), [.t 4, .t 19], (.lo 4), none, none⟩] [17, 18, 19]) <|
   .seq (.seq (.reg false [] [
    (mv 20 0),
    (mv 21 3),
    (op 22 (.call 68) [.t 20, .t 21]),
    (op 23 (.un .not) [.t 22])] [20, 21, 22]) <|
   .cond (.t 23) (.seq (.reg false [] [(op 2 .mv [.c (.int .i64 1)])] []) <|
   .ret)
    (.skip)) <|
   .seq (.reg true [] [
   ⟨(some 24), (.ld true 3), [.t 4], (.lo 4), none, none⟩,
    (op 25 (.call 69) [.t 24]),
    (mv 26 25),
   ⟨(some 27), .mv, [.t 0], .none, none, (some (26, true))⟩,
   ⟨(some 28), .mv, [.t 3], .none, none, (some (26, true))⟩,
   ⟨(some 29), (.slc false 3 false true), [.t 27, .t 28], .none, none, (some (26, true))⟩,
   ⟨(some 30), (.ld true 3), [.t 4], (.lo 4), none, (some (26, true))⟩,
   ⟨(some 31), (.call 70), [.t 29, .t 30], .none, none, (some (26, true))⟩,
   ⟨(some 32), (.un .not), [.t 31], .none, none, (some (26, true))⟩,
    (op 33 .pick [.t 26, .t 32, .c (.bool false)])] [24, 25, 26, 27, 28, 29, 30, 31, 32, 4, 3]) <|
   .cond (.t 33) (.seq (.reg false [] [(op 2 .mv [.c (.int .i64 7)])] []) <|
   .ret)
    (.skip))) <|
   .reg false [] [
    (op 34 (.bin .add) [.t 15, .c (.int .i64 1)]),
    (mv 15 34)] [34])
def F46 : AFun :=
 { nargs := 1, keep := false, res := [.tmp 2], body :=
   .seq (.reg false [] [(op 2 .mv [.c (.int .i64 0)])] [2]) <|
   .seq (.seq (.reg false [] [
    (mv 5 0),
    (op 6 (.len false) [.t 5]),
    (op 7 (.bin .gtr) [.t 6, .c (.int .i64 512)]),
    (mv 8 7),
   ⟨(some 9), .mv, [.t 0], .none, none, (some (8, false))⟩,
   ⟨(some 10), (.call 67), [.t 9], .none, none, (some (8, false))⟩,
   ⟨(some 11), (.bin .gtr), [.t 10, .c (.int .i64 1024)], .none, none, (some (8, false))⟩,
    (op 12 .pick [.t 8, .c (.bool true), .t 11])] [5, 6, 7, 8, 9, 10, 11]) <|
   .cond (.t 12) (.seq (.reg false [] [(op 2 .mv [.c (.int .i64 3)])] []) <|
   .ret)
    (.skip)) <|
   .seq (.seq (.reg false [] [
    (mv 13 0),
    (op 14 (.len false) [.t 13]),
    (op 15 .mv [.c (.int .i64 0)])] []) <|
   .block 0 (L46_0)) <|
   .seq (.reg false [] [(op 2 .mv [.c (.int .i64 0)])] []) <|
   .ret }

/- bitext/item.Renumber -/
def F47 : AFun :=
 { nargs := 1, keep := false, res := [.tmp 2], body :=
   .seq (.reg false [] [(op 2 .mv [.c (.sl .full 3 [])])] [2]) <|
   .seq (.reg false [] [
    (mv 4 0),
    (op 5 (.call 71) [.t 4]),
   ⟨(some 3), .mvo, [.t 5], .none, (some 5), none⟩] [4, 5]) <|
   .seq (.reg false [] [
    (mv 6 0),
    (mv 7 3),
    (mv 8 3),
    (op 9 (.len false) [.t 8]),
    (op 10 (.call 73) [.t 9]),
    (op 11 (.call 72) [.t 6, .t 7, .t 10]),
   ⟨(some 2), .mvo, [.t 11], .none, (some 11), none⟩] [6, 7, 8, 9, 10, 11, 0, 3]) <|
   .ret }

/- bitext/bitextref3.Check -/
def L48_0 : ACode :=
   .loop [81, 82, 5, 83, 84, 85, 86, 6, 87, 88, 89, 90, 91, 92, 93, 94, 95, 96, 97, 98, 99, 100, 101, 102, 103, 104, 105, 106, 107, 108, 109, 110, 111, 112, 4, 113] (.seq (.reg false [] [(op 81 (.bin .lss) [.t 80, .t 79])] []) <|
   .seq (.cond (.t 81) (.skip)
    (.exit 1)) <|
   .seq (.block 2 (.seq (.reg false [] [
    (mv 82 80),
    (mv 5 82)] [82]) <|
   .seq (.reg false [6] [
    (mv 83 0),
    (mv 84 5),
    (op 85 (.ia 3) [.t 83, .t 84]),
    (op 86 (.ld true 3) [.t 85]),
   ⟨(some 6), (.alloc [.int .i64 0, .str [], .int .i64 0]), [], (.lo 6), none, none⟩,
   ⟨none, (.st 3), [.t 6, .t 86], (.lo 6), none, none⟩] [83, 84, 85, 86, 5]) <|
   .seq (.seq (.reg false [] [
   ⟨(some 87), (.ld true 3), [.t 6], (.lo 6), none, none⟩,
    (op 88 (.call 65) [.t 87]),
    (op 89 (.un .not) [.t 88]),
    (mv 90 89),
   ⟨(some 91), (.fa 2), [.t 6], .none, none, (some (90, false))⟩,
   ⟨(some 92), (.ld false 1), [.t 91], (.lo 6), none, (some (90, false))⟩,
   ⟨(some 93), (.fa 2), [.t 3], .none, none, (some (90, false))⟩,
   ⟨(some 94), (.ld false 1), [.t 93], (.lo 3), none, (some (90, false))⟩,
   ⟨(some 95), (.bin .neq), [.t 92, .t 94], .none, none, (some (90, false))⟩,
    (op 96 .pick [.t 90, .c (.bool true), .t 95])] [87, 88, 89, 90, 91, 92, 93, 94, 95]) <|
   .cond (.t 96) (.exit 2)
    (.skip)) <|
   .seq (.reg true [] [
    (op 97 (.fa 0) [.t 3]),
   ⟨(some 98), (.ld false 1), [.t 97], (.lo 3), none, none⟩,
    (op 99 (.bin .neq) [.t 98, .c (.int .i64 3)]),
    (mv 100 99),
   ⟨(some 101), (.fa 0), [.t 6], .none, none, (some (100, false))⟩,
   ⟨(some 102), (.ld false 1), [.t 101], (.lo 6), none, (some (100, false))⟩,
   ⟨(some 103), (.bin .neq), [.t 102, .c (.int .i64 2)], .none, none, (some (100, false))⟩,
    (op 104 .pick [.t 100, .c (.bool true), .t 103]),
    (mv 105 104),
   ⟨(some 106), (.fa 1), [.t 6], .none, none, (some (105, false))⟩,
   ⟨(some 107), (.ld false 1), [.t 106], (.lo 6), none, (some (105, false))⟩,
   ⟨(some 108), (.call 64), [.t 107], .none, none, (some (105, false))⟩,
   ⟨(some 109), (.fa 1), [.t 3], .none, none, (some (105, false))⟩,
   ⟨(some 110), (.ld false 1), [.t 109], (.lo 3), none, (some (105, false))⟩,
   ⟨(some 111), (.bin .neq), [.t 108, .t 110], .none, none, (some (105, false))⟩,
    (op 112 .pick [.t 105, .c (.bool true), .t 111])] [97, 98, 99, 100, 101, 102, 103, 104, 105, 106, 107, 108, 109, 110, 111, 6]) <|
   .cond (.t 112) (.seq (.reg false [] [(op 4 .mv [.c (.int .i64 7)])] []) <|
   .ret)
    (.skip))) <|
   .reg false [] [
    (op 113 (.bin .add) [.t 80, .c (.int .i64 1)]),
    (mv 80 113)] [113])
def F48 : AFun :=
 { nargs := 2, keep := false, res := [.tmp 4], body :=
   .seq (.reg false [3] [
   ⟨(some 3), (.box 3), [.t 1], (.lo 3), none, none⟩,
    (op 4 .mv [.c (.int .i64 0)])] [4, 1]) <|
   .seq (.seq (.reg false [] [
    (op 7 (.fa 0) [.t 3]),
   ⟨(some 8), (.ld false 1), [.t 7], (.lo 3), none, none⟩] [7]) <|
   .block 0 (.seq (.reg false [] [
    (op 10 (.bin .eql) [.t 8, .c (.int .i64 1)]),
    (mv 9 10)] [10]) <|
   .cond (.t 9) (.seq (.seq (.reg false [] [
    (op 11 (.fa 1) [.t 3]),
   ⟨(some 12), (.ld false 1), [.t 11], (.lo 3), none, none⟩,
    (op 13 (.bin .eql) [.t 12, .c (.str [])]),
    (mv 14 13),
   ⟨(some 15), (.fa 2), [.t 3], .none, none, (some (14, false))⟩,
   ⟨(some 16), (.ld false 1), [.t 15], (.lo 3), none, (some (14, false))⟩,
   ⟨(some 17), (.bin .neq), [.t 16, .c (.int .i64 0)], .none, none, (some (14, false))⟩,
    (op 18 .pick [.t 14, .c (.bool true), .t 17]),
    (mv 19 18),
   ⟨(some 20), .mv, [.t 0], .none, none, (some (19, false))⟩,
   ⟨(some 21), (.len false), [.t 20], .none, none, (some (19, false))⟩,
   ⟨(some 22), (.bin .gtr), [.t 21, .c (.int .i64 0)], .none, none, (some (19, false))⟩,
   ⟨(some 23), .mv, [.t 22], .none, none, (some (19, false))⟩,
   ⟨(some 24), .mv, [.t 0], .none, none, (some (23, true))⟩,
   ⟨(some 25), .mv, [.t 0], .none, none, (some (23, true))⟩,
   ⟨(some 26), (.len false), [.t 25], .none, none, (some (23, true))⟩,
   ⟨(some 27), (.bin .sub), [.t 26, .c (.int .i64 1)], .none, none, (some (23, true))⟩,
   ⟨(some 28), (.ia 3), [.t 24, .t 27], .none, none, (some (23, true))⟩,
   ⟨(some 29), (.fa 0), [.t 28], .none, none, (some (23, true))⟩,
   ⟨(some 30), (.ld false 1), [.t 29], .none, none, (some (23, true))⟩,
   ⟨(some 31), (.bin .eql), [.t 30, .c (.int .i64 1)], .none, none, (some (23, true))⟩,
   ⟨(some 32), .pick, [.t 23, .t 31, .c (.bool false)], .none, none, (some (19, false))⟩,
    (op 33 .pick [.t 19, .c (.bool true), .t 32])] [11, 12, 13, 14, 15, 16, 17, 18, 19, 20, 21, 22, 23, 24, 25, 26, 27, 28, 29, 30, 31, 32, 3, 0]) <|
   .cond (.t 33) (.seq (.reg false [] [(op 4 .mv [.c (.int .i64 1)])] []) <|
   .ret)
    (.skip)) <|
   .seq (.reg false [] [(op 4 .mv [.c (.int .i64 0)])] []) <|
   .ret)
    (.seq (.reg false [] [
    (op 35 (.bin .eql) [.t 8, .c (.int .i64 5)]),
    (mv 34 35)] [35]) <|
   .cond (.t 34) (.seq (.seq (.reg false [] [
    (op 36 (.fa 1) [.t 3]),
   ⟨(some 37), (.ld false 1), [.t 36], (.lo 3), none, none⟩,
    (op 38 (.call 74) [.t 37]),
    (op 39 (.un .not) [.t 38]),
    (mv 40 39),
   ⟨(some 41), (.fa 2), [.t 3], .none, none, (some (40, false))⟩,
   ⟨(some 42), (.ld false 1), [.t 41], (.lo 3), none, (some (40, false))⟩,
   ⟨(some 43), (.bin .neq), [.t 42, .c (.int .i64 0)], .none, none, (some (40, false))⟩,
    (op 44 .pick [.t 40, .c (.bool true), .t 43])] [36, 37, 38, 39, 40, 41, 42, 43, 3]) <|
   .cond (.t 44) (.seq (.reg false [] [(op 4 .mv [.c (.int .i64 1)])] []) <|
   .ret)
    (.skip)) <|
   .seq (.reg false [] [(op 4 .mv [.c (.int .i64 0)])] []) <|
   .ret)
    (.seq (.seq (.reg false [] [
    (op 46 (.bin .eql) [.t 8, .c (.int .i64 2)]),
    (mv 45 46)] [46]) <|
   .cond (.t 45) (.skip)
    (.reg false [] [
    (op 47 (.bin .eql) [.t 8, .c (.int .i64 4)]),
    (mv 45 47)] [47])) <|
   .cond (.t 45) (.seq (.reg false [] [
    (op 48 (.fa 1) [.t 3]),
   ⟨(some 49), (.ld false 1), [.t 48], (.lo 3), none, none⟩,
    (op 50 (.call 75) [.t 49]),
    (op 51 (.un .not) [.t 50]),
    (mv 52 51),
   ⟨(some 53), (.fa 2), [.t 3], .none, none, (some (52, false))⟩,
   ⟨(some 54), (.ld false 1), [.t 53], (.lo 3), none, (some (52, false))⟩,
   ⟨(some 55), (.bin .lss), [.t 54, .c (.int .i64 1)], .none, none, (some (52, false))⟩,
    (op 56 .pick [.t 52, .c (.bool true), .t 55]),
    (mv 57 56),
   ⟨(some 58), (.fa 2), [.t 3], .none, none, (some (57, false))⟩,
   ⟨(some 59), (.ld false 1), [.t 58], (.lo 3), none, (some (57, false))⟩,
   ⟨(some 60), (.bin .gtr), [.t 59, .c (.int .i64 999)], .none, none, (some (57, false))⟩,
    (op 61 .pick [.t 57, .c (.bool true), .t 60])] [48, 49, 50, 51, 52, 53, 54, 55, 56, 57, 58, 59, 60]) <|
   .cond (.t 61) (.seq (.reg false [] [(op 4 .mv [.c (.int .i64 1)])] []) <|
   .ret)
    (.skip))
    (.seq (.reg false [] [
    (op 63 (.bin .eql) [.t 8, .c (.int .i64 3)]),
    (mv 62 63)] [63, 8]) <|
   .cond (.t 62) (.seq (.reg false [] [
    (op 64 (.fa 1) [.t 3]),
   ⟨(some 65), (.ld false 1), [.t 64], (.lo 3), none, none⟩,
    (op 66 (.call 74) [.t 65]),
    (op 67 (.un .not) [.t 66]),
    (mv 68 67),
   ⟨(some 69), (.fa 2), [.t 3], .none, none, (some (68, false))⟩,
   ⟨(some 70), (.ld false 1), [.t 69], (.lo 3), none, (some (68, false))⟩,
   ⟨(some 71), (.bin .lss), [.t 70, .c (.int .i64 1)], .none, none, (some (68, false))⟩,
    (op 72 .pick [.t 68, .c (.bool true), .t 71]),
    (mv 73 72),
   ⟨(some 74), (.fa 2), [.t 3], .none, none, (some (73, false))⟩,
   ⟨(some 75), (.ld false 1), [.t 74], (.lo 3), none, (some (73, false))⟩,
   ⟨(some 76), (.bin .gtr), [.t 75, .c (.int .i64 999)], .none, none, (some (73, false))⟩,
    (op 77 .pick [.t 73, .c (.bool true), .t 76])] [64, 65, 66, 67, 68, 69, 70, 71, 72, 73, 74, 75, 76]) <|
   .cond (.t 77) (.seq (.reg false [] [(op 4 .mv [.c (.int .i64 1)])] []) <|
   .ret)
    (.skip))
    (.seq (.reg false [] [(op 4 .mv [.c (.int .i64 1)])] []) <|
   .ret)))))) <|
   .seq (.seq (.reg false [] [
    (mv 78 0),
    (op 79 (.len false) [.t 78]),
    (op 80 .mv [.c (.int .i64 0)])] [78]) <|
   .block 1 (L48_0)) <|
   .seq (.reg false [] [(op 4 .mv [.c (.int .i64 0)])] []) <|
   .ret }

/- bitext/bitextref3.upTo -/
def L49_0 : ACode :=
   .loop [5, 6, 7, 10, 11, 12, 13, 8, 9] (.seq (.seq (.reg false [] [
    (mv 5 4),
    (mv 6 0),
    (op 7 (.bin .leq) [.t 5, .t 6])] [5, 6]) <|
   .cond (.t 7) (.skip)
    (.exit 0)) <|
   .seq (.block 1 (.reg false [] [
   ⟨(some 10), .mvo, [.t 3], .none, (some 3), none⟩,
    (mv 11 4),
    (op 12 (.mks 1 [.int .i64 0] 1 [0]) [.t 11]),
   ⟨(some 13), (.app false 1 8), [.t 10, .t 12], .none, (some 10), none⟩,
   ⟨(some 3), .mvo, [.t 13], .none, (some 13), none⟩] [10, 11, 12, 13])) <|
   .reg false [] [
    (mv 8 4),
    (op 9 (.bin .add) [.t 8, .c (.int .i64 1)]),
    (mv 4 9)] [8, 9])
def F49 : AFun :=
 { nargs := 1, keep := false, res := [.tmp 2], body :=
   .seq (.reg false [] [(op 2 .mv [.c (.sl .full 1 [])])] [2]) <|
   .seq (.reg false [] [(op 3 .mv [.c (.sl .full 1 [])])] []) <|
   .seq (.seq (.reg false [] [(op 4 .mv [.c (.int .i64 1)])] []) <|
   .block 0 (L49_0)) <|
   .seq (.reg false [] [
    (mv 14 3),
   ⟨(some 2), .mvo, [.t 14], .none, (some 14), none⟩] [14, 3]) <|
   .ret }

/- strconv.Itoa -/
def F50 : AFun :=
 { nargs := 1, keep := false, res := [.tmp 2], body :=
   .seq (.reg false [] [(op 2 .mv [.c (.str [])])] [2]) <|
   .seq (.reg false [] [
    (mv 3 0),
    (op 4 (.call 76) [.t 3]),
    (mv 2 4)] [3, 4, 0]) <|
   .ret }

/- bitext/notation.appendText -/
def L51_0 : ACode :=
   .loop [7, 8, 9, 10, 13, 14, 15, 6, 26, 27, 25, 28, 29, 30, 31, 33, 34, 32, 35, 36, 37, 39, 40, 38, 41, 42, 43, 45, 46, 47, 48, 49, 50, 51, 52, 53, 54, 44, 55, 56, 57, 58, 16, 17, 18, 19, 20, 21, 22, 23, 24, 11, 12] (.seq (.seq (.reg false [] [
    (mv 7 5),
    (mv 8 1),
    (op 9 (.len true) [.t 8]),
    (op 10 (.bin .lss) [.t 7, .t 9])] [7, 8, 9]) <|
   .cond (.t 10) (.skip)
    (.exit 0)) <|
   .seq (.block 1 (.seq (.reg false [] [
    (mv 13 1),
    (mv 14 5),
    (op 15 .ixs [.t 13, .t 14]),
    (mv 6 15)] [13, 14, 15]) <|
   .block 2 (.seq (.reg false [] [
    (mv 26 6),
    (op 27 (.call 77) [.t 26]),
    (mv 25 27)] [26, 27]) <|
   .cond (.t 25) (.reg false [] [
   ⟨(some 28), .mvo, [.t 0], .none, (some 0), none⟩,
    (mv 29 6),
    (op 30 (.mks 1 [.int .u8 0] 1 [0]) [.t 29]),
   ⟨(some 31), (.appS false 1 1), [.t 28, .t 30], .sh, none, none⟩,
   ⟨(some 0), .mvo, [.t 31], .none, (some 31), none⟩] [28, 29, 30, 31, 6])
    (.seq (.reg false [] [
    (mv 33 6),
    (op 34 (.bin .eql) [.t 33, .c (.int .u8 10)]),
    (mv 32 34)] [33, 34]) <|
   .cond (.t 32) (.reg false [] [
   ⟨(some 35), .mvo, [.t 0], .none, (some 0), none⟩,
    (op 36 (.mks 1 [.int .u8 0] 2 [0, 1]) [.c (.int .u8 92), .c (.int .u8 110)]),
   ⟨(some 37), (.appS false 1 1), [.t 35, .t 36], .sh, none, none⟩,
   ⟨(some 0), .mvo, [.t 37], .none, (some 37), none⟩] [35, 36, 37])
    (.seq (.reg false [] [
    (mv 39 6),
    (op 40 (.bin .eql) [.t 39, .c (.int .u8 9)]),
    (mv 38 40)] [39, 40]) <|
   .cond (.t 38) (.reg false [] [
   ⟨(some 41), .mvo, [.t 0], .none, (some 0), none⟩,
    (op 42 (.mks 1 [.int .u8 0] 2 [0, 1]) [.c (.int .u8 92), .c (.int .u8 116)]),
   ⟨(some 43), (.appS false 1 1), [.t 41, .t 42], .sh, none, none⟩,
   ⟨(some 0), .mvo, [.t 43], .none, (some 43), none⟩] [41, 42, 43])
    (.seq (.reg false [] [
    (mv 45 6),
    (op 46 (.bin .eql) [.t 45, .c (.int .u8 92)]),
    (mv 47 46),
   ⟨(some 48), .mv, [.t 6], .none, none, (some (47, false))⟩,
   ⟨(some 49), (.bin .eql), [.t 48, .c (.int .u8 60)], .none, none, (some (47, false))⟩,
    (op 50 .pick [.t 47, .c (.bool true), .t 49]),
    (mv 51 50),
   ⟨(some 52), .mv, [.t 6], .none, none, (some (51, false))⟩,
   ⟨(some 53), (.bin .eql), [.t 52, .c (.int .u8 123)], .none, none, (some (51, false))⟩,
    (op 54 .pick [.t 51, .c (.bool true), .t 53]),
    (mv 44 54)] [45, 46, 47, 48, 49, 50, 51, 52, 53, 54]) <|
   .cond (.t 44) (.reg false [] [
   ⟨(some 55), .mvo, [.t 0], .none, (some 0), none⟩,
    (mv 56 6),
    (op 57 (.mks 1 [.int .u8 0] 2 [0, 1]) [.c (.int .u8 92), .t 56]),
   ⟨(some 58), (.appS false 1 1), [.t 55, .t 57], .sh, none, none⟩,
   ⟨(some 0), .mvo, [.t 58], .none, (some 58), none⟩] [55, 56, 57, 58, 6])
    (.reg true [] [
   ⟨(some 16), .mvo, [.t 0], .none, (some 0), none⟩,
    (mv 17 6),
    (op 18 (.shf false) [.t 17, .c (.int .u64 4)]),
    (op 19 .ixs [.c (.str [48, 49, 50, 51, 52, 53, 54, 55, 56, 57, 97, 98, 99, 100, 101, 102]), .t 18]),
    (mv 20 6),
    (op 21 (.bin .and) [.t 20, .c (.int .u8 15)]),
    (op 22 .ixs [.c (.str [48, 49, 50, 51, 52, 53, 54, 55, 56, 57, 97, 98, 99, 100, 101, 102]), .t 21]),
    (op 23 (.mks 1 [.int .u8 0] 4 [0, 1, 2, 3]) [.c (.int .u8 92), .c (.int .u8 120), .t 19, .t 22]),
   ⟨(some 24), (.appS false 1 1), [.t 16, .t 23], .sh, none, none⟩,
   ⟨(some 0), .mvo, [.t 24], .none, (some 24), none⟩] [16, 17, 18, 19, 20, 21, 22, 23, 24, 6]))))))) <|
   .reg false [] [
    (mv 11 5),
    (op 12 (.bin .add) [.t 11, .c (.int .i64 1)]),
    (mv 5 12)] [11, 12])
def F51 : AFun :=
 { nargs := 2, keep := true, res := [.tmpD 4], body :=
   .seq (.reg false [] [(op 4 .mv [.c (.sl .full 1 [])])] [4]) <|
   .seq (.seq (.reg false [] [(op 5 .mv [.c (.int .i64 0)])] []) <|
   .block 0 (L51_0)) <|
   .seq (.reg false [] [
    (mv 59 0),
   ⟨(some 4), .mvo, [.t 59], .none, (some 59), none⟩] [59, 0]) <|
   .ret }

/- bitext/bitextref3.element -/
def L52_0 : ACode :=
   .loop [9, 10, 11, 12, 13, 16, 17, 18, 19, 20, 21, 22, 14, 15] (.seq (.seq (.reg false [] [
    (mv 9 4),
    (op 10 (.fa 1) [.t 1]),
   ⟨(some 11), (.ld false 1), [.t 10], (.lo 1), none, none⟩,
    (op 12 (.len true) [.t 11]),
    (op 13 (.bin .lss) [.t 9, .t 12])] [9, 10, 11, 12]) <|
   .cond (.t 13) (.skip)
    (.exit 1)) <|
   .seq (.block 2 (.reg false [] [
    (mv 16 3),
    (op 17 (.fa 1) [.t 1]),
   ⟨(some 18), (.ld false 1), [.t 17], (.lo 1), none, none⟩,
    (mv 19 4),
    (op 20 .ixs [.t 18, .t 19]),
    (op 21 (.call 78) [.t 20]),
    (op 22 (.bin .add) [.t 16, .t 21]),
    (mv 3 22)] [16, 17, 18, 19, 20, 21, 22])) <|
   .reg false [] [
    (mv 14 4),
    (op 15 (.bin .add) [.t 14, .c (.int .i64 1)]),
    (mv 4 15)] [14, 15])
def F52 : AFun :=
 { nargs := 1, keep := false, res := [.tmp 2], body :=
   .seq (.reg false [1] [
   ⟨(some 1), (.box 3), [.t 0], (.lo 1), none, none⟩,
    (op 2 .mv [.c (.str [])])] [2, 0]) <|
   .seq (.seq (.reg false [] [
    (op 5 (.fa 0) [.t 1]),
   ⟨(some 6), (.ld false 1), [.t 5], (.lo 1), none, none⟩] [5]) <|
   .block 0 (.seq (.reg false [] [
    (op 8 (.bin .eql) [.t 6, .c (.int .i64 1)]),
    (mv 7 8)] [8]) <|
   .cond (.t 7) (.seq (.reg false [] [(op 3 .mv [.c (.str [])])] []) <|
   .seq (.seq (.reg false [] [(op 4 .mv [.c (.int .i64 0)])] []) <|
   .block 1 (L52_0)) <|
   .seq (.reg false [] [
    (mv 23 3),
    (mv 2 23)] [23, 3]) <|
   .ret)
    (.seq (.reg false [] [
    (op 25 (.bin .eql) [.t 6, .c (.int .i64 2)]),
    (mv 24 25)] [25]) <|
   .cond (.t 24) (.seq (.reg true [] [
    (op 26 (.fa 2) [.t 1]),
   ⟨(some 27), (.ld false 1), [.t 26], (.lo 1), none, none⟩,
    (op 28 (.call 79) [.t 27]),
    (op 29 (.bin .add) [.c (.str [60]), .t 28]),
    (op 30 (.bin .add) [.t 29, .c (.str [58])]),
    (op 31 (.fa 1) [.t 1]),
   ⟨(some 32), (.ld false 1), [.t 31], (.lo 1), none, none⟩,
    (op 33 (.bin .add) [.t 30, .t 32]),
    (op 34 (.bin .add) [.t 33, .c (.str [62])]),
    (mv 2 34)] [26, 27, 28, 29, 30, 31, 32, 33, 34, 1]) <|
   .ret)
    (.seq (.reg false [] [
    (op 36 (.bin .eql) [.t 6, .c (.int .i64 3)]),
    (mv 35 36)] [36]) <|
   .cond (.t 35) (.seq (.reg true [] [
    (op 37 (.fa 2) [.t 1]),
   ⟨(some 38), (.ld false 1), [.t 37], (.lo 1), none, none⟩,
    (op 39 (.call 79) [.t 38]),
    (op 40 (.bin .add) [.c (.str [60, 47]), .t 39]),
    (op 41 (.bin .add) [.t 40, .c (.str [58])]),
    (op 42 (.fa 1) [.t 1]),
   ⟨(some 43), (.ld false 1), [.t 42], (.lo 1), none, none⟩,
    (op 44 (.bin .add) [.t 41, .t 43]),
    (op 45 (.bin .add) [.t 44, .c (.str [62])]),
    (mv 2 45)] [37, 38, 39, 40, 41, 42, 43, 44, 45, 1]) <|
   .ret)
    (.seq (.reg false [] [
    (op 47 (.bin .eql) [.t 6, .c (.int .i64 4)]),
    (mv 46 47)] [47, 6]) <|
   .cond (.t 46) (.seq (.reg true [] [
    (op 48 (.fa 2) [.t 1]),
   ⟨(some 49), (.ld false 1), [.t 48], (.lo 1), none, none⟩,
    (op 50 (.call 79) [.t 49]),
    (op 51 (.bin .add) [.c (.str [60]), .t 50]),
    (op 52 (.bin .add) [.t 51, .c (.str [58])]),
    (op 53 (.fa 1) [.t 1]),
   ⟨(some 54), (.ld false 1), [.t 53], (.lo 1), none, none⟩,
    (op 55 (.bin .add) [.t 52, .t 54]),
    (op 56 (.bin .add) [.t 55, .c (.str [47, 62])]),
    (mv 2 56)] [48, 49, 50, 51, 52, 53, 54, 55, 56, 1]) <|
   .ret)
    (.skip)))))) <|
   .seq (.reg false [] [
    (op 57 (.fa 1) [.t 1]),
   ⟨(some 58), (.ld false 1), [.t 57], (.lo 1), none, none⟩,
    (op 59 (.bin .add) [.c (.str [123]), .t 58]),
    (op 60 (.bin .add) [.t 59, .c (.str [125])]),
    (mv 2 60)] [57, 58, 59, 60, 1]) <|
   .ret }

/- bitext/notation.Format -/
def L32_0 : ACode :=
   .loop [17, 18, 19, 7, 20, 21, 22, 8, 23, 24, 26, 25, 27, 28, 29, 30, 32, 31, 33, 34, 35, 36, 37, 38, 39, 40, 41, 43, 42, 44, 45, 46, 47, 48, 49, 50, 51, 52, 54, 53, 55, 56, 57, 58, 59, 60, 61, 62, 63, 65, 64, 66, 67, 68, 69, 70, 71, 72] (.seq (.reg false [] [(op 17 (.bin .lss) [.t 16, .t 15])] []) <|
   .seq (.cond (.t 17) (.skip)
    (.exit 0)) <|
   .seq (.block 1 (.seq (.reg false [7] [
    (op 18 (.ia 3) [.t 14, .t 16]),
    (op 19 (.ld true 3) [.t 18]),
   ⟨(some 7), (.alloc [.int .i64 0, .str [], .int .i64 0]), [], (.lo 7), none, none⟩,
   ⟨none, (.st 3), [.t 7, .t 19], (.lo 7), none, none⟩] [18, 19]) <|
   .seq (.reg false [] [
    (op 20 (.fa 2) [.t 7]),
   ⟨(some 21), (.ld false 1), [.t 20], (.lo 7), none, none⟩,
    (op 22 (.call 50) [.t 21]),
    (mv 8 22)] [20, 21, 22]) <|
   .seq (.reg false [] [
    (op 23 (.fa 0) [.t 7]),
   ⟨(some 24), (.ld false 1), [.t 23], (.lo 7), none, none⟩] [23]) <|
   .block 2 (.seq (.reg false [] [
    (op 26 (.bin .eql) [.t 24, .c (.int .i64 1)]),
    (mv 25 26)] [26]) <|
   .cond (.t 25) (.reg false [] [
    (mv 27 5),
    (op 28 (.fa 1) [.t 7]),
   ⟨(some 29), (.ld false 1), [.t 28], (.lo 7), none, none⟩,
   ⟨(some 30), (.call 51), [.t 27, .t 29], .sh, none, none⟩,
   ⟨(some 5), .mvo, [.t 30], .none, (some 30), none⟩] [27, 28, 29, 30, 7])
    (.seq (.reg false [] [
    (op 32 (.bin .eql) [.t 24, .c (.int .i64 2)]),
    (mv 31 32)] [32]) <|
   .cond (.t 31) (.reg false [] [
   ⟨(some 33), .mvo, [.t 5], .none, (some 5), none⟩,
    (mv 34 8),
    (op 35 (.bin .add) [.c (.str [60]), .t 34]),
    (op 36 (.bin .add) [.t 35, .c (.str [58])]),
    (op 37 (.fa 1) [.t 7]),
   ⟨(some 38), (.ld false 1), [.t 37], (.lo 7), none, none⟩,
    (op 39 (.bin .add) [.t 36, .t 38]),
    (op 40 (.bin .add) [.t 39, .c (.str [62])]),
   ⟨(some 41), (.appS true 1 1), [.t 33, .t 40], .sh, none, none⟩,
   ⟨(some 5), .mvo, [.t 41], .none, (some 41), none⟩] [33, 34, 35, 36, 37, 38, 39, 40, 41, 8, 7])
    (.seq (.reg false [] [
    (op 43 (.bin .eql) [.t 24, .c (.int .i64 3)]),
    (mv 42 43)] [43]) <|
   .cond (.t 42) (.reg false [] [
   ⟨(some 44), .mvo, [.t 5], .none, (some 5), none⟩,
    (mv 45 8),
    (op 46 (.bin .add) [.c (.str [60, 47]), .t 45]),
    (op 47 (.bin .add) [.t 46, .c (.str [58])]),
    (op 48 (.fa 1) [.t 7]),
   ⟨(some 49), (.ld false 1), [.t 48], (.lo 7), none, none⟩,
    (op 50 (.bin .add) [.t 47, .t 49]),
    (op 51 (.bin .add) [.t 50, .c (.str [62])]),
   ⟨(some 52), (.appS true 1 1), [.t 44, .t 51], .sh, none, none⟩,
   ⟨(some 5), .mvo, [.t 52], .none, (some 52), none⟩] [44, 45, 46, 47, 48, 49, 50, 51, 52, 8, 7])
    (.seq (.reg false [] [
    (op 54 (.bin .eql) [.t 24, .c (.int .i64 4)]),
    (mv 53 54)] [54]) <|
   .cond (.t 53) (.reg false [] [
   ⟨(some 55), .mvo, [.t 5], .none, (some 5), none⟩,
    (mv 56 8),
    (op 57 (.bin .add) [.c (.str [60]), .t 56]),
    (op 58 (.bin .add) [.t 57, .c (.str [58])]),
    (op 59 (.fa 1) [.t 7]),
   ⟨(some 60), (.ld false 1), [.t 59], (.lo 7), none, none⟩,
    (op 61 (.bin .add) [.t 58, .t 60]),
    (op 62 (.bin .add) [.t 61, .c (.str [47, 62])]),
   ⟨(some 63), (.appS true 1 1), [.t 55, .t 62], .sh, none, none⟩,
   ⟨(some 5), .mvo, [.t 63], .none, (some 63), none⟩] [55, 56, 57, 58, 59, 60, 61, 62, 63, 8, 7])
    (.seq (.reg false [] [
    (op 65 (.bin .eql) [.t 24, .c (.int .i64 5)]),
    (mv 64 65)] [65, 24]) <|
   .cond (.t 64) (.reg false [] [
   ⟨(some 66), .mvo, [.t 5], .none, (some 5), none⟩,
    (op 67 (.fa 1) [.t 7]),
   ⟨(some 68), (.ld false 1), [.t 67], (.lo 7), none, none⟩,
    (op 69 (.bin .add) [.c (.str [123]), .t 68]),
    (op 70 (.bin .add) [.t 69, .c (.str [125])]),
   ⟨(some 71), (.appS true 1 1), [.t 66, .t 70], .sh, none, none⟩,
   ⟨(some 5), .mvo, [.t 71], .none, (some 71), none⟩] [66, 67, 68, 69, 70, 71, 7])
    (.skip)))))))) <|
   .reg false [] [
    (op 72 (.bin .add) [.t 16, .c (.int .i64 1)]),
    (mv 16 72)] [72])
def F32 : AFun :=
 { nargs := 1, keep := false, res := [.tmp 2, .tmp 3], body :=
   .seq (.reg false [] [
    (op 2 .mv [.c (.str [])]),
    (op 3 .mv [.c (.int .i64 0)])] [2, 3]) <|
   .seq (.seq (.reg false [] [
    (mv 9 0),
    (op 10 (.call 46) [.t 9]),
    (mv 4 10)] [9, 10]) <|
   .seq (.reg false [] [
    (mv 11 4),
    (op 12 (.bin .neq) [.t 11, .c (.int .i64 0)])] [11]) <|
   .cond (.t 12) (.seq (.reg false [] [
    (mv 13 4),
    (op 2 .mv [.c (.str [])]),
    (mv 3 13)] [13, 4]) <|
   .ret)
    (.skip)) <|
   .seq (.reg false [] [(op 5 .mv [.c (.sl .full 1 [])])] []) <|
   .seq (.seq (.reg false [] [
    (mv 14 0),
    (op 15 (.len false) [.t 14]),
    (op 16 .mv [.c (.int .i64 0)])] [0]) <|
   .block 0 (L32_0)) <|
   .seq (.reg false [] [
    (mv 73 5),
   ⟨(some 74), .b2s, [.t 73], .sh, none, none⟩,
    (mv 2 74),
    (op 3 .mv [.c (.int .i64 0)])] [73, 74, 5]) <|
   .ret }

/- bitext/bitextref3.Format -/
def L33_0 : ACode :=
   .loop [15, 16, 6, 17, 18, 19, 20, 21, 22, 23, 24] (.seq (.reg false [] [(op 15 (.bin .lss) [.t 14, .t 13])] []) <|
   .seq (.cond (.t 15) (.skip)
    (.exit 0)) <|
   .seq (.block 1 (.seq (.reg false [] [
    (mv 16 14),
    (mv 6 16)] [16]) <|
   .reg false [] [
    (mv 17 5),
    (mv 18 0),
    (mv 19 6),
    (op 20 (.ia 3) [.t 18, .t 19]),
    (op 21 (.ld true 3) [.t 20]),
    (op 22 (.call 52) [.t 21]),
    (op 23 (.bin .add) [.t 17, .t 22]),
    (mv 5 23)] [17, 18, 19, 20, 21, 22, 23, 6])) <|
   .reg false [] [
    (op 24 (.bin .add) [.t 14, .c (.int .i64 1)]),
    (mv 14 24)] [24])
def F33 : AFun :=
 { nargs := 1, keep := false, res := [.tmp 2, .tmp 3], body :=
   .seq (.reg false [] [
    (op 2 .mv [.c (.str [])]),
    (op 3 .mv [.c (.int .i64 0)])] [2, 3]) <|
   .seq (.seq (.reg false [] [
    (mv 7 0),
    (op 8 (.call 21) [.t 7]),
    (mv 4 8)] [7, 8]) <|
   .seq (.reg false [] [
    (mv 9 4),
    (op 10 (.bin .neq) [.t 9, .c (.int .i64 0)])] [9]) <|
   .cond (.t 10) (.seq (.reg false [] [
    (mv 11 4),
    (op 2 .mv [.c (.str [])]),
    (mv 3 11)] [11, 4]) <|
   .ret)
    (.skip)) <|
   .seq (.reg false [] [(op 5 .mv [.c (.str [])])] []) <|
   .seq (.seq (.reg false [] [
    (mv 12 0),
    (op 13 (.len false) [.t 12]),
    (op 14 .mv [.c (.int .i64 0)])] [12]) <|
   .block 0 (L33_0)) <|
   .seq (.reg false [] [
    (mv 25 5),
    (mv 2 25),
    (op 3 .mv [.c (.int .i64 0)])] [25, 5]) <|
   .ret }

/- bitext/bitextref3.Normalize -/
def L57_0 : ACode :=
   .loop [10, 11, 4, 12, 13, 14, 15, 5, 16, 17, 18, 19, 20, 21, 22, 23, 24, 25, 26, 27, 6, 28, 29, 30, 31, 32, 33, 34, 35, 36, 37, 38, 39, 40, 41, 42, 43, 44, 45, 46, 47, 48, 49, 50, 51, 52, 53, 54, 55, 56, 57, 58, 59] (.seq (.reg false [] [(op 10 (.bin .lss) [.t 9, .t 8])] []) <|
   .seq (.cond (.t 10) (.skip)
    (.exit 0)) <|
   .seq (.block 1 (.seq (.reg false [] [
    (mv 11 9),
    (mv 4 11)] [11]) <|
   .seq (.reg false [5] [
    (mv 12 0),
    (mv 13 4),
    (op 14 (.ia 3) [.t 12, .t 13]),
    (op 15 (.ld true 3) [.t 14]),
   ⟨(some 5), (.alloc [.int .i64 0, .str [], .int .i64 0]), [], (.lo 5), none, none⟩,
   ⟨none, (.st 3), [.t 5, .t 15], (.lo 5), none, none⟩] [12, 13, 14, 15, 4]) <|
   .seq (.seq (.reg false [] [
    (op 16 (.fa 0) [.t 5]),
   ⟨(some 17), (.ld false 1), [.t 16], (.lo 5), none, none⟩,
    (op 18 (.bin .neq) [.t 17, .c (.int .i64 1)])] [16, 17]) <|
   .cond (.t 18) (.seq (.reg false [] [
   ⟨(some 19), .mvo, [.t 3], .none, (some 3), none⟩,
   ⟨(some 20), (.ld true 3), [.t 5], (.lo 5), none, none⟩,
    (op 21 (.mks 3 [.int .i64 0, .str [], .int .i64 0] 1 [0]) [.t 20]),
   ⟨(some 22), (.appS false 3 32), [.t 19, .t 21], .sh, none, none⟩,
   ⟨(some 3), .mvo, [.t 22], .none, (some 22), none⟩] [19, 20, 21, 22, 5]) <|
   .exit 1)
    (.skip)) <|
   .seq (.seq (.reg false [] [
    (op 23 (.fa 1) [.t 5]),
   ⟨(some 24), (.ld false 1), [.t 23], (.lo 5), none, none⟩,
    (op 25 (.bin .eql) [.t 24, .c (.str [])])] [23, 24]) <|
   .cond (.t 25) (.exit 1)
    (.skip)) <|
   .seq (.reg false [] [
    (mv 26 3),
    (op 27 (.len false) [.t 26]),
    (mv 6 27)] [26, 27]) <|
   .seq (.reg false [] [
    (mv 28 6),
    (op 29 (.bin .gtr) [.t 28, .c (.int .i64 0)]),
    (mv 30 29),
   ⟨(some 31), .mv, [.t 3], .none, none, (some (30, true))⟩,
   ⟨(some 32), .mv, [.t 6], .none, none, (some (30, true))⟩,
   ⟨(some 33), (.bin .sub), [.t 32, .c (.int .i64 1)], .none, none, (some (30, true))⟩,
   ⟨(some 34), (.ia 3), [.t 31, .t 33], .none, none, (some (30, true))⟩,
   ⟨(some 35), (.fa 0), [.t 34], .none, none, (some (30, true))⟩,
   ⟨(some 36), (.ld false 1), [.t 35], .sh, none, (some (30, true))⟩,
   ⟨(some 37), (.bin .eql), [.t 36, .c (.int .i64 1)], .none, none, (some (30, true))⟩,
    (op 38 .pick [.t 30, .t 37, .c (.bool false)])] [28, 29, 30, 31, 32, 33, 34, 35, 36, 37]) <|
   .cond (.t 38) (.reg true [] [
    (mv 39 3),
    (mv 40 6),
    (op 41 (.bin .sub) [.t 40, .c (.int .i64 1)]),
    (mv 42 3),
    (mv 43 6),
    (op 44 (.bin .sub) [.t 43, .c (.int .i64 1)]),
    (op 45 (.ia 3) [.t 42, .t 44]),
    (op 46 (.fa 1) [.t 45]),
   ⟨(some 47), (.ld false 1), [.t 46], .sh, none, none⟩,
    (op 48 (.fa 1) [.t 5]),
   ⟨(some 49), (.ld false 1), [.t 48], (.lo 5), none, none⟩,
    (op 50 (.bin .add) [.t 47, .t 49]),
    (op 51 (.build [.int .i64 0, .str [], .int .i64 0] [(0, 1), (1, 1)]) [.c (.int .i64 1), .t 50]),
    (op 52 (.ia 3) [.t 39, .t 41]),
   ⟨none, (.st 3), [.t 52, .t 51], .sh, none, none⟩] [39, 40, 41, 42, 43, 44, 45, 46, 47, 48, 49, 50, 51, 52, 6, 5])
    (.reg false [] [
   ⟨(some 53), .mvo, [.t 3], .none, (some 3), none⟩,
    (op 54 (.fa 1) [.t 5]),
   ⟨(some 55), (.ld false 1), [.t 54], (.lo 5), none, none⟩,
    (op 56 (.build [.int .i64 0, .str [], .int .i64 0] [(0, 1), (1, 1)]) [.c (.int .i64 1), .t 55]),
    (op 57 (.mks 3 [.int .i64 0, .str [], .int .i64 0] 1 [0]) [.t 56]),
   ⟨(some 58), (.appS false 3 32), [.t 53, .t 57], .sh, none, none⟩,
   ⟨(some 3), .mvo, [.t 58], .none, (some 58), none⟩] [53, 54, 55, 56, 57, 58, 5]))) <|
   .reg false [] [
    (op 59 (.bin .add) [.t 9, .c (.int .i64 1)]),
    (mv 9 59)] [59])
def F57 : AFun :=
 { nargs := 1, keep := false, res := [.tmp 2], body :=
   .seq (.reg false [] [(op 2 .mv [.c (.sl .full 3 [])])] [2]) <|
   .seq (.reg false [] [(op 3 .mv [.c (.sl .full 3 [])])] []) <|
   .seq (.seq (.reg false [] [
    (mv 7 0),
    (op 8 (.len false) [.t 7]),
    (op 9 .mv [.c (.int .i64 0)])] [7]) <|
   .block 0 (L57_0)) <|
   .seq (.reg false [] [
    (mv 60 3),
   ⟨(some 2), .mvo, [.t 60], .none, (some 60), none⟩] [60, 3]) <|
   .ret }

/- bitext/bitextref3.Concat -/
def F37 : AFun :=
 { nargs := 2, keep := false, res := [.tmp 4], body :=
   .seq (.reg false [] [(op 4 .mv [.c (.sl .full 3 [])])] [4]) <|
   .seq (.reg false [] [
    (mv 5 0),
    (op 6 (.app false 3 32) [.c (.sl .full 3 []), .t 5]),
    (mv 7 1),
   ⟨(some 8), (.app false 3 32), [.t 6, .t 7], .none, (some 6), none⟩,
    (op 9 (.call 57) [.t 8]),
   ⟨(some 4), .mvo, [.t 9], .none, (some 9), none⟩] [5, 6, 7, 8, 9, 0, 1]) <|
   .ret }

/- (*bitext/bitextmake.Numbers).Next -/
def F41 : AFun :=
 { nargs := 2, keep := false, res := [.tmp 4], body :=
   .seq (.reg false [] [(op 4 .mv [.c (.int .i64 0)])] [4]) <|
   .seq (.reg false [] [(op 5 .mv [.c (.int .i64 0)])] []) <|
   .seq (.seq (.reg true [] [
    (mv 6 0),
    (op 7 .nilc [.t 6]),
    (op 8 (.fa 1) [.t 7]),
   ⟨(some 9), (.ld false 1), [.t 8], .sh, none, none⟩,
    (mv 10 0),
    (op 11 .nilc [.t 10]),
    (op 12 (.fa 0) [.t 11]),
   ⟨(some 13), (.ld false 1), [.t 12], .sh, none, none⟩,
    (op 14 (.len false) [.t 13]),
    (op 15 (.bin .lss) [.t 9, .t 14])] [6, 7, 8, 9, 10, 11, 12, 13, 14]) <|
   .cond (.t 15) (.reg true [] [
    (mv 16 0),
    (op 17 .nilc [.t 16]),
    (op 18 (.fa 0) [.t 17]),
   ⟨(some 19), (.ld false 1), [.t 18], .sh, none, none⟩,
    (mv 20 0),
    (op 21 .nilc [.t 20]),
    (op 22 (.fa 1) [.t 21]),
   ⟨(some 23), (.ld false 1), [.t 22], .sh, none, none⟩,
    (op 24 (.ia 1) [.t 19, .t 23]),
    (op 25 (.ld false 1) [.t 24]),
    (mv 5 25)] [16, 17, 18, 19, 20, 21, 22, 23, 24, 25])
    (.skip)) <|
   .seq (.reg false [] [
    (mv 26 0),
    (op 27 .nilc [.t 26]),
    (op 28 (.fa 1) [.t 27]),
   ⟨(some 29), (.ld false 1), [.t 28], .sh, none, none⟩,
    (op 30 (.bin .add) [.t 29, .c (.int .i64 1)]),
    (op 31 .nilc [.t 26]),
    (op 32 (.fa 1) [.t 31]),
   ⟨none, (.st 1), [.t 32, .t 30], .sh, none, none⟩] [26, 27, 28, 29, 30, 31, 32, 0]) <|
   .seq (.reg false [] [
    (mv 33 5),
    (mv 34 1),
    (op 35 (.call 18) [.t 33, .t 34]),
    (mv 4 35)] [33, 34, 35, 5, 1]) <|
   .ret }

/- bitext/bitextmake.Fragment -/
def L42_0 : ACode :=
   .loop [20, 21, 24, 25, 26, 13, 27, 28, 30, 29, 31, 32, 33, 34, 35, 36, 37, 39, 38, 40, 41, 42, 43, 44, 45, 46, 47, 48, 49, 51, 50, 52, 53, 54, 55, 56, 57, 58, 59, 60, 61, 62, 63, 64, 65, 66, 68, 67, 69, 70, 71, 72, 14, 73, 74, 75, 76, 77, 78, 79, 80, 81, 82, 83, 84, 85, 86, 87, 88, 89, 90, 91, 92, 93, 94, 95, 96, 97, 98, 99, 100, 101, 102, 103, 104, 105, 106, 107, 108, 109, 110, 111, 112, 113, 114, 22, 23] (.seq (.seq (.reg false [] [
    (mv 20 12),
    (op 21 (.bin .gtr) [.t 20, .c (.int .i64 0)])] [20]) <|
   .cond (.t 21) (.skip)
    (.exit 0)) <|
   .seq (.block 1 (.seq (.reg false [13] [
    (mv 24 0),
   ⟨(some 25), (.call 63), [.t 24, .c (.int .i64 3)], .sh, none, none⟩,
    (op 26 (.build [.int .i64 0, .str [], .int .i64 0] [(0, 1), (1, 1)]) [.c (.int .i64 1), .t 25]),
   ⟨(some 13), (.alloc [.int .i64 0, .str [], .int .i64 0]), [], (.lo 13), none, none⟩,
   ⟨none, (.st 3), [.t 13, .t 26], (.lo 13), none, none⟩] [24, 25, 26]) <|
   .seq (.seq (.reg false [] [
    (mv 27 0),
   ⟨(some 28), (.call 41), [.t 27, .c (.int .i64 8)], .sh, none, none⟩] [27]) <|
   .block 2 (.seq (.seq (.reg false [] [
    (op 30 (.bin .eql) [.t 28, .c (.int .i64 0)]),
    (mv 29 30)] [30]) <|
   .cond (.t 29) (.skip)
    (.reg false [] [
    (op 31 (.bin .eql) [.t 28, .c (.int .i64 1)]),
    (mv 29 31)] [31])) <|
   .cond (.t 29) (.reg false [] [
    (op 32 (.mks 1 [.str []] 3 [0, 1, 2]) [.c (.str [110]), .c (.str [110, 97, 109, 101]), .c (.str [120, 49])]),
    (mv 33 0),
   ⟨(some 34), (.call 41), [.t 33, .c (.int .i64 3)], .sh, none, none⟩,
    (op 35 (.ia 1) [.t 32, .t 34]),
    (op 36 (.ld false 1) [.t 35]),
    (op 37 (.build [.int .i64 0, .str [], .int .i64 0] [(0, 1), (1, 1)]) [.c (.int .i64 5), .t 36]),
   ⟨none, (.st 3), [.t 13, .t 37], (.lo 13), none, none⟩] [32, 33, 34, 35, 36, 37])
    (.seq (.reg false [] [
    (op 39 (.bin .eql) [.t 28, .c (.int .i64 2)]),
    (mv 38 39)] [39]) <|
   .cond (.t 38) (.seq (.reg false [] [(mv 40 2)] []) <|
   .cond (.t 40) (.seq (.reg false [] [
    (mv 41 11),
    (op 42 (.bin .add) [.t 41, .c (.int .i64 1)]),
    (mv 11 42)] [41, 42]) <|
   .reg false [] [
    (op 43 (.mks 1 [.str []] 2 [0, 1]) [.c (.str [98, 114]), .c (.str [105, 109, 103, 32, 97])]),
    (mv 44 0),
   ⟨(some 45), (.call 41), [.t 44, .c (.int .i64 2)], .sh, none, none⟩,
    (op 46 (.ia 1) [.t 43, .t 45]),
    (op 47 (.ld false 1) [.t 46]),
    (mv 48 11),
    (op 49 (.build [.int .i64 0, .str [], .int .i64 0] [(0, 1), (1, 1), (2, 1)]) [.c (.int .i64 4), .t 47, .t 48]),
   ⟨none, (.st 3), [.t 13, .t 49], (.lo 13), none, none⟩] [43, 44, 45, 46, 47, 48, 49])
    (.skip))
    (.seq (.seq (.reg false [] [
    (op 51 (.bin .eql) [.t 28, .c (.int .i64 3)]),
    (mv 50 51)] [51]) <|
   .cond (.t 50) (.skip)
    (.reg false [] [
    (op 52 (.bin .eql) [.t 28, .c (.int .i64 4)]),
    (mv 50 52)] [52])) <|
   .cond (.t 50) (.seq (.reg false [] [(mv 53 2)] []) <|
   .cond (.t 53) (.seq (.reg false [] [
    (mv 54 11),
    (op 55 (.bin .add) [.t 54, .c (.int .i64 1)]),
    (mv 11 55)] [54, 55]) <|
   .seq (.reg false [] [
    (op 56 (.mks 1 [.str []] 3 [0, 1, 2]) [.c (.str [98]), .c (.str [105]), .c (.str [97, 32, 104, 61, 49])]),
    (mv 57 0),
   ⟨(some 58), (.call 41), [.t 57, .c (.int .i64 3)], .sh, none, none⟩,
    (op 59 (.ia 1) [.t 56, .t 58]),
    (op 60 (.ld false 1) [.t 59]),
    (mv 61 11),
    (op 62 (.build [.int .i64 0, .str [], .int .i64 0] [(0, 1), (1, 1), (2, 1)]) [.c (.int .i64 2), .t 60, .t 61]),
   ⟨none, (.st 3), [.t 13, .t 62], (.lo 13), none, none⟩] [56, 57, 58, 59, 60, 61, 62]) <|
   .reg false [] [
   ⟨(some 63), .mvo, [.t 10], .none, (some 10), none⟩,
   ⟨(some 64), (.ld true 3), [.t 13], (.lo 13), none, none⟩,
    (op 65 (.mks 3 [.int .i64 0, .str [], .int .i64 0] 1 [0]) [.t 64]),
   ⟨(some 66), (.app false 3 32), [.t 63, .t 65], .none, (some 63), none⟩,
   ⟨(some 10), .mvo, [.t 66], .none, (some 66), none⟩] [63, 64, 65, 66])
    (.skip))
    (.seq (.seq (.reg false [] [
    (op 68 (.bin .eql) [.t 28, .c (.int .i64 5)]),
    (mv 67 68)] [68]) <|
   .cond (.t 67) (.skip)
    (.reg false [] [
    (op 69 (.bin .eql) [.t 28, .c (.int .i64 6)]),
    (mv 67 69)] [69, 28])) <|
   .cond (.t 67) (.seq (.reg false [] [
    (mv 70 10),
    (op 71 (.len false) [.t 70]),
    (op 72 (.bin .sub) [.t 71, .c (.int .i64 1)]),
    (mv 14 72)] [70, 71, 72]) <|
   .seq (.reg false [] [
    (mv 73 14),
    (op 74 (.bin .geq) [.t 73, .c (.int .i64 0)])] [73]) <|
   .cond (.t 74) (.seq (.seq (.reg false [] [
    (mv 75 3),
    (op 76 (.un .not) [.t 75])] [75]) <|
   .cond (.t 76) (.reg false [] [
    (mv 77 0),
    (mv 78 14),
    (op 79 (.bin .add) [.t 78, .c (.int .i64 1)]),
   ⟨(some 80), (.call 41), [.t 77, .t 79], .sh, none, none⟩,
    (mv 14 80)] [77, 78, 79, 80])
    (.skip)) <|
   .seq (.reg true [] [
    (mv 81 10),
    (mv 82 14),
    (op 83 (.ia 3) [.t 81, .t 82]),
    (op 84 (.fa 1) [.t 83]),
    (op 85 (.ld false 1) [.t 84]),
    (op 86 (.call 64) [.t 85]),
    (mv 87 10),
    (mv 88 14),
    (op 89 (.ia 3) [.t 87, .t 88]),
    (op 90 (.fa 2) [.t 89]),
    (op 91 (.ld false 1) [.t 90]),
    (op 92 (.build [.int .i64 0, .str [], .int .i64 0] [(0, 1), (1, 1), (2, 1)]) [.c (.int .i64 3), .t 86, .t 91]),
   ⟨none, (.st 3), [.t 13, .t 92], (.lo 13), none, none⟩] [81, 82, 83, 84, 85, 86, 87, 88, 89, 90, 91, 92]) <|
   .reg true [] [
    (mv 93 10),
    (mv 94 14),
    (op 95 (.slc false 3 false true) [.t 93, .t 94]),
    (op 96 (.app false 3 32) [.c (.sl .full 3 []), .t 95]),
    (mv 97 10),
    (mv 98 14),
    (op 99 (.bin .add) [.t 98, .c (.int .i64 1)]),
    (op 100 (.slc false 3 true false) [.t 97, .t 99]),
   ⟨(some 101), (.app false 3 32), [.t 96, .t 100], .none, (some 96), none⟩,
   ⟨(some 10), .mvo, [.t 101], .none, (some 101), none⟩] [93, 94, 95, 96, 97, 98, 99, 100, 101, 14])
    (.seq (.reg false [] [
    (mv 102 2),
    (mv 103 102),
   ⟨(some 104), .mv, [.t 3], .none, none, (some (103, true))⟩,
   ⟨(some 105), (.un .not), [.t 104], .none, none, (some (103, true))⟩,
    (op 106 .pick [.t 103, .t 105, .c (.bool false)])] [102, 103, 104, 105]) <|
   .cond (.t 106) (.seq (.reg false [] [
    (mv 107 11),
    (op 108 (.bin .add) [.t 107, .c (.int .i64 1)]),
    (mv 11 108)] [107, 108]) <|
   .reg false [] [
    (mv 109 11),
    (op 110 (.build [.int .i64 0, .str [], .int .i64 0] [(0, 1), (1, 1), (2, 1)]) [.c (.int .i64 3), .c (.str [98]), .t 109]),
   ⟨none, (.st 3), [.t 13, .t 110], (.lo 13), none, none⟩] [109, 110])
    (.skip)))
    (.skip)))))) <|
   .reg false [] [
    (mv 111 9),
   ⟨(some 112), (.ld true 3), [.t 13], (.lo 13), none, none⟩,
    (op 113 (.mks 3 [.int .i64 0, .str [], .int .i64 0] 1 [0]) [.t 112]),
    (op 114 (.call 37) [.t 111, .t 113]),
   ⟨(some 9), .mvo, [.t 114], .none, (some 114), none⟩] [111, 112, 113, 114, 13])) <|
   .reg false [] [
    (mv 22 12),
    (op 23 (.bin .sub) [.t 22, .c (.int .i64 1)]),
    (mv 12 23)] [22, 23])
def L42_1 : ACode :=
   .loop [118, 119, 120, 121, 122, 125, 126, 127, 128, 129, 130, 131, 132, 133, 134, 135, 136, 137, 138, 139, 123, 124] (.seq (.seq (.reg false [] [
    (mv 118 15),
    (op 119 (.bin .geq) [.t 118, .c (.int .i64 0)]),
    (mv 120 119),
   ⟨(some 121), .mv, [.t 3], .none, none, (some (120, true))⟩,
    (op 122 .pick [.t 120, .t 121, .c (.bool false)])] [118, 119, 120, 121]) <|
   .cond (.t 122) (.skip)
    (.exit 3)) <|
   .seq (.block 4 (.reg true [] [
   ⟨(some 125), .mvo, [.t 9], .none, (some 9), none⟩,
    (mv 126 10),
    (mv 127 15),
    (op 128 (.ia 3) [.t 126, .t 127]),
    (op 129 (.fa 1) [.t 128]),
    (op 130 (.ld false 1) [.t 129]),
    (op 131 (.call 64) [.t 130]),
    (mv 132 10),
    (mv 133 15),
    (op 134 (.ia 3) [.t 132, .t 133]),
    (op 135 (.fa 2) [.t 134]),
    (op 136 (.ld false 1) [.t 135]),
    (op 137 (.build [.int .i64 0, .str [], .int .i64 0] [(0, 1), (1, 1), (2, 1)]) [.c (.int .i64 3), .t 131, .t 136]),
    (op 138 (.mks 3 [.int .i64 0, .str [], .int .i64 0] 1 [0]) [.t 137]),
   ⟨(some 139), (.app false 3 32), [.t 125, .t 138], .none, (some 125), none⟩,
   ⟨(some 9), .mvo, [.t 139], .none, (some 139), none⟩] [125, 126, 127, 128, 129, 130, 131, 132, 133, 134, 135, 136, 137, 138, 139])) <|
   .reg false [] [
    (mv 123 15),
    (op 124 (.bin .sub) [.t 123, .c (.int .i64 1)]),
    (mv 15 124)] [123, 124])
def F42 : AFun :=
 { nargs := 4, keep := false, res := [.tmp 8], body :=
   .seq (.reg false [] [(op 8 .mv [.c (.sl .full 3 [])])] [8]) <|
   .seq (.reg false [] [
    (op 9 .mv [.c (.sl .full 3 [])]),
    (op 10 .mv [.c (.sl .full 3 [])])] []) <|
   .seq (.reg false [] [(op 11 .mv [.c (.int .i64 0)])] []) <|
   .seq (.seq (.reg false [] [
    (mv 16 0),
    (mv 17 1),
    (op 18 (.bin .add) [.t 17, .c (.int .i64 1)]),
   ⟨(some 19), (.call 41), [.t 16, .t 18], .sh, none, none⟩,
    (mv 12 19)] [16, 17, 18, 19, 1]) <|
   .block 0 (L42_0)) <|
   .seq (.seq (.reg false [] [
    (mv 115 10),
    (op 116 (.len false) [.t 115]),
    (op 117 (.bin .sub) [.t 116, .c (.int .i64 1)]),
    (mv 15 117)] [115, 116, 117]) <|
   .block 3 (L42_1)) <|
   .seq (.reg false [] [
    (mv 140 9),
   ⟨(some 8), .mvo, [.t 140], .none, (some 140), none⟩] [140, 9]) <|
   .ret }

/- bitext/bitextmake.Line -/
def L63_0 : ACode :=
   .loop [12, 13, 16, 17, 7, 18, 19, 20, 21, 22, 23, 24, 25, 26, 27, 28, 29, 14, 15] (.seq (.seq (.reg false [] [
    (mv 12 6),
    (op 13 (.bin .gtr) [.t 12, .c (.int .i64 0)])] [12]) <|
   .cond (.t 13) (.skip)
    (.exit 0)) <|
   .seq (.block 1 (.seq (.reg false [] [
    (mv 16 0),
   ⟨(some 17), (.call 95), [.t 16], .sh, none, none⟩,
    (mv 7 17)] [16, 17]) <|
   .seq (.seq (.reg false [] [
    (mv 18 5),
    (op 19 (.bin .neq) [.t 18, .c (.str [])]),
    (mv 20 19),
   ⟨(some 21), .mv, [.t 0], .none, none, (some (20, true))⟩,
   ⟨(some 22), (.call 41), [.t 21, .c (.int .i64 3)], .sh, none, (some (20, true))⟩,
   ⟨(some 23), (.bin .gtr), [.t 22, .c (.int .i64 0)], .none, none, (some (20, true))⟩,
    (op 24 .pick [.t 20, .t 23, .c (.bool false)])] [18, 19, 20, 21, 22, 23]) <|
   .cond (.t 24) (.reg false [] [
    (mv 25 5),
    (op 26 (.bin .add) [.t 25, .c (.str [32])]),
    (mv 5 26)] [25, 26])
    (.skip)) <|
   .reg false [] [
    (mv 27 5),
    (mv 28 7),
    (op 29 (.bin .add) [.t 27, .t 28]),
    (mv 5 29)] [27, 28, 29, 7])) <|
   .reg false [] [
    (mv 14 6),
    (op 15 (.bin .sub) [.t 14, .c (.int .i64 1)]),
    (mv 6 15)] [14, 15])
def F63 : AFun :=
 { nargs := 2, keep := false, res := [.tmp 4], body :=
   .seq (.reg false [] [(op 4 .mv [.c (.str [])])] [4]) <|
   .seq (.reg false [] [(op 5 .mv [.c (.str [])])] []) <|
   .seq (.seq (.reg false [] [
    (mv 8 0),
    (mv 9 1),
    (op 10 (.bin .add) [.t 9, .c (.int .i64 1)]),
   ⟨(some 11), (.call 41), [.t 8, .t 10], .sh, none, none⟩,
    (mv 6 11)] [8, 9, 10, 11, 1]) <|
   .block 0 (L63_0)) <|
   .seq (.reg false [] [
    (mv 30 5),
    (mv 4 30)] [30, 5]) <|
   .ret }

/- bitext/bitextref3.Name -/
def L64_0 : ACode :=
   .loop [4, 5, 6, 7, 10, 11, 12, 13, 14, 15, 16, 2, 8, 9] (.seq (.seq (.reg false [] [
    (mv 4 3),
    (mv 5 0),
    (op 6 (.len true) [.t 5]),
    (op 7 (.bin .lss) [.t 4, .t 6])] [4, 5, 6]) <|
   .cond (.t 7) (.skip)
    (.exit 0)) <|
   .seq (.block 1 (.seq (.reg false [] [
    (mv 10 0),
    (mv 11 3),
    (op 12 .ixs [.t 10, .t 11]),
    (op 13 (.bin .eql) [.t 12, .c (.int .u8 32)])] [10, 11, 12]) <|
   .cond (.t 13) (.seq (.reg false [] [
    (mv 14 0),
    (mv 15 3),
    (op 16 (.slc true 0 false true) [.t 14, .t 15]),
    (mv 2 16)] [14, 15, 16, 0, 3]) <|
   .ret)
    (.skip))) <|
   .reg false [] [
    (mv 8 3),
    (op 9 (.bin .add) [.t 8, .c (.int .i64 1)]),
    (mv 3 9)] [8, 9])
def F64 : AFun :=
 { nargs := 1, keep := false, res := [.tmp 2], body :=
   .seq (.reg false [] [(op 2 .mv [.c (.str [])])] [2]) <|
   .seq (.seq (.reg false [] [(op 3 .mv [.c (.int .i64 0)])] []) <|
   .block 0 (L64_0)) <|
   .seq (.reg false [] [
    (mv 17 0),
    (mv 2 17)] [17, 0]) <|
   .ret }

/- bitext/bitextref3.IsTag -/
def F65 : AFun :=
 { nargs := 1, keep := false, res := [.tmp 2], body :=
   .seq (.reg false [1] [
   ⟨(some 1), (.box 3), [.t 0], (.lo 1), none, none⟩,
    (op 2 .mv [.c (.bool false)])] [2, 0]) <|
   .seq (.reg false [] [
    (op 3 (.fa 0) [.t 1]),
   ⟨(some 4), (.ld false 1), [.t 3], (.lo 1), none, none⟩,
    (op 5 (.bin .eql) [.t 4, .c (.int .i64 2)]),
    (mv 6 5),
   ⟨(some 7), (.fa 0), [.t 1], .none, none, (some (6, false))⟩,
   ⟨(some 8), (.ld false 1), [.t 7], (.lo 1), none, (some (6, false))⟩,
   ⟨(some 9), (.bin .eql), [.t 8, .c (.int .i64 3)], .none, none, (some (6, false))⟩,
    (op 10 .pick [.t 6, .c (.bool true), .t 9]),
    (mv 11 10),
   ⟨(some 12), (.fa 0), [.t 1], .none, none, (some (11, false))⟩,
   ⟨(some 13), (.ld false 1), [.t 12], (.lo 1), none, (some (11, false))⟩,
   ⟨(some 14), (.bin .eql), [.t 13, .c (.int .i64 4)], .none, none, (some (11, false))⟩,
    (op 15 .pick [.t 11, .c (.bool true), .t 14]),
    (mv 2 15)] [3, 4, 5, 6, 7, 8, 9, 10, 11, 12, 13, 14, 15, 1]) <|
   .ret }

/- bitext/bitextref3.Has -/
def L66_0 : ACode :=
   .loop [9, 10, 5, 11, 12, 13, 14, 15, 16, 4, 17] (.seq (.reg false [] [(op 9 (.bin .lss) [.t 8, .t 7])] []) <|
   .seq (.cond (.t 9) (.skip)
    (.exit 0)) <|
   .seq (.block 1 (.seq (.reg false [] [
    (mv 10 8),
    (mv 5 10)] [10]) <|
   .seq (.reg false [] [
    (mv 11 0),
    (mv 12 5),
    (op 13 (.ia 1) [.t 11, .t 12]),
    (op 14 (.ld false 1) [.t 13]),
    (mv 15 1),
    (op 16 (.bin .eql) [.t 14, .t 15])] [11, 12, 13, 14, 15, 5]) <|
   .cond (.t 16) (.seq (.reg false [] [(op 4 .mv [.c (.bool true)])] []) <|
   .ret)
    (.skip))) <|
   .reg false [] [
    (op 17 (.bin .add) [.t 8, .c (.int .i64 1)]),
    (mv 8 17)] [17])
def F66 : AFun :=
 { nargs := 2, keep := false, res := [.tmp 4], body :=
   .seq (.reg false [] [(op 4 .mv [.c (.bool false)])] [4]) <|
   .seq (.seq (.reg false [] [
    (mv 6 0),
    (op 7 (.len false) [.t 6]),
    (op 8 .mv [.c (.int .i64 0)])] [6]) <|
   .block 0 (L66_0)) <|
   .seq (.reg false [] [(op 4 .mv [.c (.bool false)])] []) <|
   .ret }

/- bitext/item.Length -/
def L67_0 : ACode :=
   .loop [9, 10, 11, 5, 12, 13, 14, 15, 16] (.seq (.reg false [] [(op 9 (.bin .lss) [.t 8, .t 7])] []) <|
   .seq (.cond (.t 9) (.skip)
    (.exit 0)) <|
   .seq (.block 1 (.seq (.reg false [5] [
    (op 10 (.ia 3) [.t 6, .t 8]),
    (op 11 (.ld true 3) [.t 10]),
   ⟨(some 5), (.alloc [.int .i64 0, .str [], .int .i64 0]), [], (.lo 5), none, none⟩,
   ⟨none, (.st 3), [.t 5, .t 11], (.lo 5), none, none⟩] [10, 11]) <|
   .reg false [] [
    (mv 12 3),
   ⟨(some 13), (.ld true 3), [.t 5], (.lo 5), none, none⟩,
    (op 14 (.call 96) [.t 13]),
    (op 15 (.bin .add) [.t 12, .t 14]),
    (mv 3 15)] [12, 13, 14, 15, 5])) <|
   .reg false [] [
    (op 16 (.bin .add) [.t 8, .c (.int .i64 1)]),
    (mv 8 16)] [16])
def F67 : AFun :=
 { nargs := 1, keep := false, res := [.tmp 2], body :=
   .seq (.reg false [] [(op 2 .mv [.c (.int .i64 0)])] [2]) <|
   .seq (.reg false [] [(op 3 .mv [.c (.int .i64 0)])] []) <|
   .seq (.seq (.reg false [] [
    (mv 6 0),
    (op 7 (.len false) [.t 6]),
    (op 8 .mv [.c (.int .i64 0)])] [0]) <|
   .block 0 (L67_0)) <|
   .seq (.reg false [] [
    (mv 17 3),
    (mv 2 17)] [17, 3]) <|
   .ret }

/- bitext/item.wellFormed -/
def F68 : AFun :=
 { nargs := 2, keep := false, res := [.tmp 4], body :=
   .seq (.reg false [] [(op 4 .mv [.c (.bool false)])] [4]) <|
   .seq (.reg false [5] [
    (mv 6 0),
    (mv 7 1),
    (op 8 (.ia 3) [.t 6, .t 7]),
    (op 9 (.ld true 3) [.t 8]),
   ⟨(some 5), (.alloc [.int .i64 0, .str [], .int .i64 0]), [], (.lo 5), none, none⟩,
   ⟨none, (.st 3), [.t 5, .t 9], (.lo 5), none, none⟩] [6, 7, 8, 9]) <|
   .seq (.seq (.reg false [] [
    (op 10 (.fa 0) [.t 5]),
   ⟨(some 11), (.ld false 1), [.t 10], (.lo 5), none, none⟩] [10]) <|
   .block 0 (.seq (.reg false [] [
    (op 13 (.bin .eql) [.t 11, .c (.int .i64 1)]),
    (mv 12 13)] [13]) <|
   .cond (.t 12) (.seq (.reg false [] [
    (op 14 (.fa 1) [.t 5]),
   ⟨(some 15), (.ld false 1), [.t 14], (.lo 5), none, none⟩,
    (op 16 (.bin .neq) [.t 15, .c (.str [])]),
    (mv 17 16),
   ⟨(some 18), (.fa 2), [.t 5], .none, none, (some (17, true))⟩,
   ⟨(some 19), (.ld false 1), [.t 18], (.lo 5), none, (some (17, true))⟩,
   ⟨(some 20), (.bin .eql), [.t 19, .c (.int .i64 0)], .none, none, (some (17, true))⟩,
    (op 21 .pick [.t 17, .t 20, .c (.bool false)]),
    (mv 22 21),
   ⟨(some 23), .mv, [.t 1], .none, none, (some (22, true))⟩,
   ⟨(some 24), (.bin .eql), [.t 23, .c (.int .i64 0)], .none, none, (some (22, true))⟩,
   ⟨(some 25), .mv, [.t 24], .none, none, (some (22, true))⟩,
   ⟨(some 26), .mv, [.t 0], .none, none, (some (25, false))⟩,
   ⟨(some 27), .mv, [.t 1], .none, none, (some (25, false))⟩,
   ⟨(some 28), (.bin .sub), [.t 27, .c (.int .i64 1)], .none, none, (some (25, false))⟩,
   ⟨(some 29), (.ia 3), [.t 26, .t 28], .none, none, (some (25, false))⟩,
   ⟨(some 30), (.fa 0), [.t 29], .none, none, (some (25, false))⟩,
   ⟨(some 31), (.ld false 1), [.t 30], .none, none, (some (25, false))⟩,
   ⟨(some 32), (.bin .neq), [.t 31, .c (.int .i64 1)], .none, none, (some (25, false))⟩,
   ⟨(some 33), .pick, [.t 25, .c (.bool true), .t 32], .none, none, (some (22, true))⟩,
    (op 34 .pick [.t 22, .t 33, .c (.bool false)]),
    (mv 4 34)] [14, 15, 16, 17, 18, 19, 20, 21, 22, 23, 24, 25, 26, 27, 28, 29, 30, 31, 32, 33, 34, 5, 1, 0]) <|
   .ret)
    (.seq (.reg false [] [
    (op 36 (.bin .eql) [.t 11, .c (.int .i64 5)]),
    (mv 35 36)] [36]) <|
   .cond (.t 35) (.seq (.reg false [] [
    (op 37 (.fa 1) [.t 5]),
   ⟨(some 38), (.ld false 1), [.t 37], (.lo 5), none, none⟩,
    (op 39 (.call 83) [.t 38]),
    (mv 40 39),
   ⟨(some 41), (.fa 2), [.t 5], .none, none, (some (40, true))⟩,
   ⟨(some 42), (.ld false 1), [.t 41], (.lo 5), none, (some (40, true))⟩,
   ⟨(some 43), (.bin .eql), [.t 42, .c (.int .i64 0)], .none, none, (some (40, true))⟩,
    (op 44 .pick [.t 40, .t 43, .c (.bool false)]),
    (mv 4 44)] [37, 38, 39, 40, 41, 42, 43, 44, 5]) <|
   .ret)
    (.seq (.seq (.reg false [] [
    (op 46 (.bin .eql) [.t 11, .c (.int .i64 2)]),
    (mv 45 46)] [46]) <|
   .cond (.t 45) (.skip)
    (.reg false [] [
    (op 47 (.bin .eql) [.t 11, .c (.int .i64 4)]),
    (mv 45 47)] [47])) <|
   .cond (.t 45) (.seq (.reg false [] [
    (op 48 (.fa 1) [.t 5]),
   ⟨(some 49), (.ld false 1), [.t 48], (.lo 5), none, none⟩,
    (op 50 (.call 97) [.t 49]),
    (mv 51 50),
   ⟨(some 52), (.fa 2), [.t 5], .none, none, (some (51, true))⟩,
   ⟨(some 53), (.ld false 1), [.t 52], (.lo 5), none, (some (51, true))⟩,
   ⟨(some 54), (.bin .geq), [.t 53, .c (.int .i64 1)], .none, none, (some (51, true))⟩,
    (op 55 .pick [.t 51, .t 54, .c (.bool false)]),
    (mv 56 55),
   ⟨(some 57), (.fa 2), [.t 5], .none, none, (some (56, true))⟩,
   ⟨(some 58), (.ld false 1), [.t 57], (.lo 5), none, (some (56, true))⟩,
   ⟨(some 59), (.bin .leq), [.t 58, .c (.int .i64 999)], .none, none, (some (56, true))⟩,
    (op 60 .pick [.t 56, .t 59, .c (.bool false)]),
    (mv 4 60)] [48, 49, 50, 51, 52, 53, 54, 55, 56, 57, 58, 59, 60, 5]) <|
   .ret)
    (.seq (.reg false [] [
    (op 62 (.bin .eql) [.t 11, .c (.int .i64 3)]),
    (mv 61 62)] [62, 11]) <|
   .cond (.t 61) (.seq (.reg false [] [
    (op 63 (.fa 1) [.t 5]),
   ⟨(some 64), (.ld false 1), [.t 63], (.lo 5), none, none⟩,
    (op 65 (.call 83) [.t 64]),
    (mv 66 65),
   ⟨(some 67), (.fa 2), [.t 5], .none, none, (some (66, true))⟩,
   ⟨(some 68), (.ld false 1), [.t 67], (.lo 5), none, (some (66, true))⟩,
   ⟨(some 69), (.bin .geq), [.t 68, .c (.int .i64 1)], .none, none, (some (66, true))⟩,
    (op 70 .pick [.t 66, .t 69, .c (.bool false)]),
    (mv 71 70),
   ⟨(some 72), (.fa 2), [.t 5], .none, none, (some (71, true))⟩,
   ⟨(some 73), (.ld false 1), [.t 72], (.lo 5), none, (some (71, true))⟩,
   ⟨(some 74), (.bin .leq), [.t 73, .c (.int .i64 999)], .none, none, (some (71, true))⟩,
    (op 75 .pick [.t 71, .t 74, .c (.bool false)]),
    (mv 4 75)] [63, 64, 65, 66, 67, 68, 69, 70, 71, 72, 73, 74, 75, 5]) <|
   .ret)
    (.skip)))))) <|
   .seq (.reg false [] [(op 4 .mv [.c (.bool false)])] []) <|
   .ret }

/- bitext/item.isTag -/
def F69 : AFun :=
 { nargs := 1, keep := false, res := [.tmp 2], body :=
   .seq (.reg false [1] [
   ⟨(some 1), (.box 3), [.t 0], (.lo 1), none, none⟩,
    (op 2 .mv [.c (.bool false)])] [2, 0]) <|
   .seq (.reg false [] [
    (op 3 (.fa 0) [.t 1]),
   ⟨(some 4), (.ld false 1), [.t 3], (.lo 1), none, none⟩,
    (op 5 (.bin .eql) [.t 4, .c (.int .i64 2)]),
    (mv 6 5),
   ⟨(some 7), (.fa 0), [.t 1], .none, none, (some (6, false))⟩,
   ⟨(some 8), (.ld false 1), [.t 7], (.lo 1), none, (some (6, false))⟩,
   ⟨(some 9), (.bin .eql), [.t 8, .c (.int .i64 3)], .none, none, (some (6, false))⟩,
    (op 10 .pick [.t 6, .c (.bool true), .t 9]),
    (mv 11 10),
   ⟨(some 12), (.fa 0), [.t 1], .none, none, (some (11, false))⟩,
   ⟨(some 13), (.ld false 1), [.t 12], (.lo 1), none, (some (11, false))⟩,
   ⟨(some 14), (.bin .eql), [.t 13, .c (.int .i64 4)], .none, none, (some (11, false))⟩,
    (op 15 .pick [.t 11, .c (.bool true), .t 14]),
    (mv 2 15)] [3, 4, 5, 6, 7, 8, 9, 10, 11, 12, 13, 14, 15, 1]) <|
   .ret }

/- bitext/item.fits -/
def L70_0 : ACode :=
   .loop [10, 11, 12, 6, 13, 14, 15, 16, 17, 18, 19, 20, 21, 22, 23, 24, 25, 26, 27, 28, 29, 30, 31, 32, 33, 34, 35, 36, 37, 38, 4, 39] (.seq (.reg false [] [(op 10 (.bin .lss) [.t 9, .t 8])] []) <|
   .seq (.cond (.t 10) (.skip)
    (.exit 0)) <|
   .seq (.block 1 (.seq (.reg false [6] [
    (op 11 (.ia 3) [.t 7, .t 9]),
    (op 12 (.ld true 3) [.t 11]),
   ⟨(some 6), (.alloc [.int .i64 0, .str [], .int .i64 0]), [], (.lo 6), none, none⟩,
   ⟨none, (.st 3), [.t 6, .t 12], (.lo 6), none, none⟩] [11, 12]) <|
   .seq (.seq (.reg false [] [
   ⟨(some 13), (.ld true 3), [.t 6], (.lo 6), none, none⟩,
    (op 14 (.call 69) [.t 13]),
    (op 15 (.un .not) [.t 14]),
    (mv 16 15),
   ⟨(some 17), (.fa 2), [.t 6], .none, none, (some (16, false))⟩,
   ⟨(some 18), (.ld false 1), [.t 17], (.lo 6), none, (some (16, false))⟩,
   ⟨(some 19), (.fa 2), [.t 3], .none, none, (some (16, false))⟩,
   ⟨(some 20), (.ld false 1), [.t 19], (.lo 3), none, (some (16, false))⟩,
   ⟨(some 21), (.bin .neq), [.t 18, .t 20], .none, none, (some (16, false))⟩,
    (op 22 .pick [.t 16, .c (.bool true), .t 21])] [13, 14, 15, 16, 17, 18, 19, 20, 21]) <|
   .cond (.t 22) (.exit 1)
    (.skip)) <|
   .seq (.reg true [] [
    (op 23 (.fa 0) [.t 3]),
   ⟨(some 24), (.ld false 1), [.t 23], (.lo 3), none, none⟩,
    (op 25 (.bin .neq) [.t 24, .c (.int .i64 3)]),
    (mv 26 25),
   ⟨(some 27), (.fa 0), [.t 6], .none, none, (some (26, false))⟩,
   ⟨(some 28), (.ld false 1), [.t 27], (.lo 6), none, (some (26, false))⟩,
   ⟨(some 29), (.bin .neq), [.t 28, .c (.int .i64 2)], .none, none, (some (26, false))⟩,
    (op 30 .pick [.t 26, .c (.bool true), .t 29]),
    (mv 31 30),
   ⟨(some 32), (.fa 1), [.t 6], .none, none, (some (31, false))⟩,
   ⟨(some 33), (.ld false 1), [.t 32], (.lo 6), none, (some (31, false))⟩,
   ⟨(some 34), (.call 98), [.t 33], .none, none, (some (31, false))⟩,
   ⟨(some 35), (.fa 1), [.t 3], .none, none, (some (31, false))⟩,
   ⟨(some 36), (.ld false 1), [.t 35], (.lo 3), none, (some (31, false))⟩,
   ⟨(some 37), (.bin .neq), [.t 34, .t 36], .none, none, (some (31, false))⟩,
    (op 38 .pick [.t 31, .c (.bool true), .t 37])] [23, 24, 25, 26, 27, 28, 29, 30, 31, 32, 33, 34, 35, 36, 37, 6]) <|
   .cond (.t 38) (.seq (.reg false [] [(op 4 .mv [.c (.bool false)])] []) <|
   .ret)
    (.skip))) <|
   .reg false [] [
    (op 39 (.bin .add) [.t 9, .c (.int .i64 1)]),
    (mv 9 39)] [39])
def F70 : AFun :=
 { nargs := 2, keep := false, res := [.tmp 4], body :=
   .seq (.reg false [3] [
   ⟨(some 3), (.box 3), [.t 1], (.lo 3), none, none⟩,
    (op 4 .mv [.c (.bool false)])] [4, 1]) <|
   .seq (.seq (.reg false [] [
    (mv 7 0),
    (op 8 (.len false) [.t 7]),
    (op 9 .mv [.c (.int .i64 0)])] [0]) <|
   .block 0 (L70_0)) <|
   .seq (.reg false [] [(op 4 .mv [.c (.bool true)])] []) <|
   .ret }

/- bitext/item.Numbers -/
def L71_0 : ACode :=
   .loop [11, 12, 13, 6, 14, 15, 16, 17, 18, 19, 20, 21, 22, 23, 24, 25, 26, 27, 28, 29, 30, 31] (.seq (.reg false [] [(op 11 (.bin .lss) [.t 10, .t 9])] []) <|
   .seq (.cond (.t 11) (.skip)
    (.exit 0)) <|
   .seq (.block 1 (.seq (.reg false [6] [
    (op 12 (.ia 3) [.t 8, .t 10]),
    (op 13 (.ld true 3) [.t 12]),
   ⟨(some 6), (.alloc [.int .i64 0, .str [], .int .i64 0]), [], (.lo 6), none, none⟩,
   ⟨none, (.st 3), [.t 6, .t 13], (.lo 6), none, none⟩] [12, 13]) <|
   .seq (.reg false [] [
   ⟨(some 14), (.ld true 3), [.t 6], (.lo 6), none, none⟩,
    (op 15 (.call 69) [.t 14]),
    (mv 16 15),
   ⟨(some 17), .mv, [.t 4], .none, none, (some (16, true))⟩,
   ⟨(some 18), (.fa 2), [.t 6], .none, none, (some (16, true))⟩,
   ⟨(some 19), (.ld false 1), [.t 18], (.lo 6), none, (some (16, true))⟩,
   ⟨(some 20), (.lkp false false [0] [.bool false]), [.t 17, .t 19], .sh, none, (some (16, true))⟩,
   ⟨(some 21), (.un .not), [.t 20], .none, none, (some (16, true))⟩,
    (op 22 .pick [.t 16, .t 21, .c (.bool false)])] [14, 15, 16, 17, 18, 19, 20, 21]) <|
   .cond (.t 22) (.seq (.reg false [] [
    (mv 23 4),
    (op 24 (.fa 2) [.t 6]),
   ⟨(some 25), (.ld false 1), [.t 24], (.lo 6), none, none⟩,
   ⟨none, (.mup [0]), [.t 23, .t 25, .c (.bool true)], .sh, none, none⟩] [23, 24, 25]) <|
   .reg false [] [
   ⟨(some 26), .mvo, [.t 3], .none, (some 3), none⟩,
    (op 27 (.fa 2) [.t 6]),
   ⟨(some 28), (.ld false 1), [.t 27], (.lo 6), none, none⟩,
    (op 29 (.mks 1 [.int .i64 0] 1 [0]) [.t 28]),
   ⟨(some 30), (.app false 1 8), [.t 26, .t 29], .none, (some 26), none⟩,
   ⟨(some 3), .mvo, [.t 30], .none, (some 30), none⟩] [26, 27, 28, 29, 30, 6])
    (.skip))) <|
   .reg false [] [
    (op 31 (.bin .add) [.t 10, .c (.int .i64 1)]),
    (mv 10 31)] [31])
def F71 : AFun :=
 { nargs := 1, keep := false, res := [.tmp 2], body :=
   .seq (.reg false [] [(op 2 .mv [.c (.sl .full 1 [])])] [2]) <|
   .seq (.reg false [] [(op 3 .mv [.c (.sl .full 1 [])])] []) <|
   .seq (.reg false [] [
   ⟨(some 7), .mkm, [], .sh, none, none⟩,
    (mv 4 7)] [7]) <|
   .seq (.seq (.reg false [] [
    (mv 8 0),
    (op 9 (.len false) [.t 8]),
    (op 10 .mv [.c (.int .i64 0)])] [0]) <|
   .block 0 (L71_0)) <|
   .seq (.reg false [] [
    (mv 32 3),
   ⟨(some 2), .mvo, [.t 32], .none, (some 32), none⟩] [32, 3]) <|
   .ret }

/- bitext/item.Rename -/
def L72_0 : ACode :=
   .loop [21, 22, 25, 26, 27, 28, 29, 30, 31, 32, 33, 23, 24] (.seq (.seq (.reg false [] [
    (mv 21 8),
    (op 22 (.bin .geq) [.t 21, .c (.int .i64 0)])] [21]) <|
   .cond (.t 22) (.skip)
    (.exit 0)) <|
   .seq (.block 1 (.reg true [] [
    (mv 25 7),
    (mv 26 1),
    (mv 27 8),
    (op 28 (.ia 1) [.t 26, .t 27]),
    (op 29 (.ld false 1) [.t 28]),
    (mv 30 2),
    (mv 31 8),
    (op 32 (.ia 1) [.t 30, .t 31]),
    (op 33 (.ld false 1) [.t 32]),
   ⟨none, (.mup [0]), [.t 25, .t 29, .t 33], .sh, none, none⟩] [25, 26, 27, 28, 29, 30, 31, 32, 33])) <|
   .reg false [] [
    (mv 23 8),
    (op 24 (.bin .sub) [.t 23, .c (.int .i64 1)]),
    (mv 8 24)] [23, 24])
def L72_1 : ACode :=
   .loop [37, 38, 39, 11, 40, 41, 43, 44, 45, 46, 42, 47, 48, 12, 13, 49, 50, 51, 52, 53, 54, 55, 56, 57] (.seq (.reg false [] [(op 37 (.bin .lss) [.t 36, .t 35])] []) <|
   .seq (.cond (.t 37) (.skip)
    (.exit 2)) <|
   .seq (.block 3 (.seq (.reg false [11] [
    (op 38 (.ia 3) [.t 34, .t 36]),
    (op 39 (.ld true 3) [.t 38]),
   ⟨(some 11), (.alloc [.int .i64 0, .str [], .int .i64 0]), [], (.lo 11), none, none⟩,
   ⟨none, (.st 3), [.t 11, .t 39], (.lo 11), none, none⟩] [38, 39]) <|
   .seq (.seq (.reg false [] [
   ⟨(some 40), (.ld true 3), [.t 11], (.lo 11), none, none⟩,
    (op 41 (.call 69) [.t 40])] [40]) <|
   .cond (.t 41) (.seq (.reg false [] [
    (mv 43 7),
    (op 44 (.fa 2) [.t 11]),
   ⟨(some 45), (.ld false 1), [.t 44], (.lo 11), none, none⟩,
   ⟨(some 46), (.lkp true false [0] [.int .i64 0]), [.t 43, .t 45], .sh, none, none⟩,
    (mv 42 46),
    (op 47 (.ext 0) [.t 42]),
    (op 48 (.ext 1) [.t 42]),
    (mv 12 47),
    (mv 13 48)] [43, 44, 45, 46, 42, 47, 48]) <|
   .seq (.seq (.reg false [] [
    (mv 49 13),
    (op 50 (.un .not) [.t 49])] [49, 13]) <|
   .cond (.t 50) (.exit 3)
    (.skip)) <|
   .reg false [] [
    (mv 51 12),
    (op 52 (.fa 2) [.t 11]),
   ⟨none, (.st 1), [.t 52, .t 51], (.lo 11), none, none⟩] [51, 52, 12])
    (.skip)) <|
   .reg false [] [
   ⟨(some 53), .mvo, [.t 9], .none, (some 9), none⟩,
   ⟨(some 54), (.ld true 3), [.t 11], (.lo 11), none, none⟩,
    (op 55 (.mks 3 [.int .i64 0, .str [], .int .i64 0] 1 [0]) [.t 54]),
   ⟨(some 56), (.app false 3 32), [.t 53, .t 55], .none, (some 53), none⟩,
   ⟨(some 9), .mvo, [.t 56], .none, (some 56), none⟩] [53, 54, 55, 56, 11])) <|
   .reg false [] [
    (op 57 (.bin .add) [.t 36, .c (.int .i64 1)]),
    (mv 36 57)] [57])
def F72 : AFun :=
 { nargs := 3, keep := false, res := [.tmp 6], body :=
   .seq (.reg false [] [(op 6 .mv [.c (.sl .full 3 [])])] [6]) <|
   .seq (.reg false [] [
   ⟨(some 14), .mkm, [], .sh, none, none⟩,
    (mv 7 14)] [14]) <|
   .seq (.seq (.reg false [] [
    (mv 15 1),
    (op 16 (.len false) [.t 15]),
    (mv 17 2),
    (op 18 (.len false) [.t 17]),
    (op 19 (.mm false) [.t 16, .t 18]),
    (op 20 (.bin .sub) [.t 19, .c (.int .i64 1)]),
    (mv 8 20)] [15, 16, 17, 18, 19, 20]) <|
   .block 0 (L72_0)) <|
   .seq (.reg false [] [(op 9 .mv [.c (.sl .full 3 [])])] []) <|
   .seq (.seq (.reg false [] [
    (mv 34 0),
    (op 35 (.len false) [.t 34]),
    (op 36 .mv [.c (.int .i64 0)])] [0]) <|
   .block 2 (L72_1)) <|
   .seq (.reg false [] [
    (mv 58 9),
    (op 59 (.call 99) [.t 58]),
   ⟨(some 6), .mvo, [.t 59], .none, (some 59), none⟩] [58, 59, 9]) <|
   .ret }

/- bitext/item.counting -/
def L73_0 : ACode :=
   .loop [10, 11, 4, 12, 13, 14, 15, 16, 17] (.seq (.reg false [] [(op 10 (.bin .lss) [.t 9, .t 8])] []) <|
   .seq (.cond (.t 10) (.skip)
    (.exit 0)) <|
   .seq (.block 1 (.seq (.reg false [] [
    (mv 11 9),
    (mv 4 11)] [11]) <|
   .reg false [] [
    (mv 12 3),
    (mv 13 4),
    (mv 14 4),
    (op 15 (.bin .add) [.t 14, .c (.int .i64 1)]),
    (op 16 (.ia 1) [.t 12, .t 13]),
   ⟨none, (.st 1), [.t 16, .t 15], .sh, none, none⟩] [12, 13, 14, 15, 16, 4])) <|
   .reg false [] [
    (op 17 (.bin .add) [.t 9, .c (.int .i64 1)]),
    (mv 9 17)] [17])
def F73 : AFun :=
 { nargs := 1, keep := false, res := [.tmp 2], body :=
   .seq (.reg false [] [(op 2 .mv [.c (.sl .full 1 [])])] [2]) <|
   .seq (.reg false [] [
    (mv 5 0),
   ⟨(some 6), (.mkl 1 [.int .i64 0] 8), [.t 5, .t 5], .sh, none, none⟩,
   ⟨(some 3), .mvo, [.t 6], .none, (some 6), none⟩] [5, 6, 0]) <|
   .seq (.seq (.reg false [] [
    (mv 7 3),
    (op 8 (.len false) [.t 7]),
    (op 9 .mv [.c (.int .i64 0)])] [7]) <|
   .block 0 (L73_0)) <|
   .seq (.reg false [] [
    (mv 18 3),
   ⟨(some 2), .mvo, [.t 18], .none, (some 18), none⟩] [18, 3]) <|
   .ret }

/- bitext/bitextref1.IsName -/
def L74_0 : ACode :=
   .loop [13, 14, 15, 16, 19, 20, 21, 4, 22, 23, 24, 25, 26, 27, 28, 29, 30, 31, 32, 33, 34, 35, 36, 37, 38, 39, 40, 41, 42, 43, 2, 17, 18] (.seq (.seq (.reg false [] [
    (mv 13 3),
    (mv 14 0),
    (op 15 (.len true) [.t 14]),
    (op 16 (.bin .lss) [.t 13, .t 15])] [13, 14, 15]) <|
   .cond (.t 16) (.skip)
    (.exit 0)) <|
   .seq (.block 1 (.seq (.reg false [] [
    (mv 19 0),
    (mv 20 3),
    (op 21 .ixs [.t 19, .t 20]),
    (mv 4 21)] [19, 20, 21]) <|
   .seq (.seq (.reg false [] [
    (mv 22 4),
    (op 23 (.bin .geq) [.t 22, .c (.int .u8 97)]),
    (mv 24 23),
   ⟨(some 25), .mv, [.t 4], .none, none, (some (24, true))⟩,
   ⟨(some 26), (.bin .leq), [.t 25, .c (.int .u8 122)], .none, none, (some (24, true))⟩,
    (op 27 .pick [.t 24, .t 26, .c (.bool false)]),
    (mv 28 27),
   ⟨(some 29), .mv, [.t 3], .none, none, (some (28, false))⟩,
   ⟨(some 30), (.bin .gtr), [.t 29, .c (.int .i64 0)], .none, none, (some (28, false))⟩,
   ⟨(some 31), .mv, [.t 30], .none, none, (some (28, false))⟩,
   ⟨(some 32), .mv, [.t 4], .none, none, (some (31, true))⟩,
   ⟨(some 33), (.bin .geq), [.t 32, .c (.int .u8 48)], .none, none, (some (31, true))⟩,
   ⟨(some 34), .mv, [.t 33], .none, none, (some (31, true))⟩,
   ⟨(some 35), .mv, [.t 4], .none, none, (some (34, true))⟩,
   ⟨(some 36), (.bin .leq), [.t 35, .c (.int .u8 57)], .none, none, (some (34, true))⟩,
   ⟨(some 37), .pick, [.t 34, .t 36, .c (.bool false)], .none, none, (some (31, true))⟩,
   ⟨(some 38), .mv, [.t 37], .none, none, (some (31, true))⟩,
   ⟨(some 39), .mv, [.t 4], .none, none, (some (38, false))⟩,
   ⟨(some 40), (.bin .eql), [.t 39, .c (.int .u8 45)], .none, none, (some (38, false))⟩,
   ⟨(some 41), .pick, [.t 38, .c (.bool true), .t 40], .none, none, (some (31, true))⟩,
   ⟨(some 42), .pick, [.t 31, .t 41, .c (.bool false)], .none, none, (some (28, false))⟩,
    (op 43 .pick [.t 28, .c (.bool true), .t 42])] [22, 23, 24, 25, 26, 27, 28, 29, 30, 31, 32, 33, 34, 35, 36, 37, 38, 39, 40, 41, 42, 4]) <|
   .cond (.t 43) (.exit 1)
    (.skip)) <|
   .seq (.reg false [] [(op 2 .mv [.c (.bool false)])] []) <|
   .ret)) <|
   .reg false [] [
    (mv 17 3),
    (op 18 (.bin .add) [.t 17, .c (.int .i64 1)]),
    (mv 3 18)] [17, 18])
def F74 : AFun :=
 { nargs := 1, keep := false, res := [.tmp 2], body :=
   .seq (.reg false [] [(op 2 .mv [.c (.bool false)])] [2]) <|
   .seq (.seq (.reg false [] [
    (mv 5 0),
    (op 6 (.len true) [.t 5]),
    (op 7 (.bin .lss) [.t 6, .c (.int .i64 1)]),
    (mv 8 7),
   ⟨(some 9), .mv, [.t 0], .none, none, (some (8, false))⟩,
   ⟨(some 10), (.len true), [.t 9], .none, none, (some (8, false))⟩,
   ⟨(some 11), (.bin .gtr), [.t 10, .c (.int .i64 24)], .none, none, (some (8, false))⟩,
    (op 12 .pick [.t 8, .c (.bool true), .t 11])] [5, 6, 7, 8, 9, 10, 11]) <|
   .cond (.t 12) (.seq (.reg false [] [(op 2 .mv [.c (.bool false)])] []) <|
   .ret)
    (.skip)) <|
   .seq (.seq (.reg false [] [(op 3 .mv [.c (.int .i64 0)])] []) <|
   .block 0 (L74_0)) <|
   .seq (.reg false [] [(op 2 .mv [.c (.bool true)])] []) <|
   .ret }

/- bitext/bitextref3.IsContent -/
def L75_0 : ACode :=
   .loop [9, 10, 11, 12, 15, 16, 17, 4, 18, 19, 20, 21, 22, 23, 24, 25, 26, 27, 28, 29, 30, 31, 32, 33, 34, 35, 36, 37, 38, 39, 2, 13, 14] (.seq (.seq (.reg false [] [
    (mv 9 3),
    (mv 10 0),
    (op 11 (.len true) [.t 10]),
    (op 12 (.bin .lss) [.t 9, .t 11])] [9, 10, 11]) <|
   .cond (.t 12) (.skip)
    (.exit 0)) <|
   .seq (.block 1 (.seq (.reg false [] [
    (mv 15 0),
    (mv 16 3),
    (op 17 .ixs [.t 15, .t 16]),
    (mv 4 17)] [15, 16, 17]) <|
   .seq (.reg false [] [
    (mv 18 4),
    (op 19 (.bin .lss) [.t 18, .c (.int .u8 32)]),
    (mv 20 19),
   ⟨(some 21), .mv, [.t 4], .none, none, (some (20, false))⟩,
   ⟨(some 22), (.bin .gtr), [.t 21, .c (.int .u8 126)], .none, none, (some (20, false))⟩,
    (op 23 .pick [.t 20, .c (.bool true), .t 22]),
    (mv 24 23),
   ⟨(some 25), .mv, [.t 4], .none, none, (some (24, false))⟩,
   ⟨(some 26), (.bin .eql), [.t 25, .c (.int .u8 60)], .none, none, (some (24, false))⟩,
    (op 27 .pick [.t 24, .c (.bool true), .t 26]),
    (mv 28 27),
   ⟨(some 29), .mv, [.t 4], .none, none, (some (28, false))⟩,
   ⟨(some 30), (.bin .eql), [.t 29, .c (.int .u8 62)], .none, none, (some (28, false))⟩,
    (op 31 .pick [.t 28, .c (.bool true), .t 30]),
    (mv 32 31),
   ⟨(some 33), .mv, [.t 4], .none, none, (some (32, false))⟩,
   ⟨(some 34), (.bin .eql), [.t 33, .c (.int .u8 123)], .none, none, (some (32, false))⟩,
    (op 35 .pick [.t 32, .c (.bool true), .t 34]),
    (mv 36 35),
   ⟨(some 37), .mv, [.t 4], .none, none, (some (36, false))⟩,
   ⟨(some 38), (.bin .eql), [.t 37, .c (.int .u8 125)], .none, none, (some (36, false))⟩,
    (op 39 .pick [.t 36, .c (.bool true), .t 38])] [18, 19, 20, 21, 22, 23, 24, 25, 26, 27, 28, 29, 30, 31, 32, 33, 34, 35, 36, 37, 38, 4]) <|
   .cond (.t 39) (.seq (.reg false [] [(op 2 .mv [.c (.bool false)])] []) <|
   .ret)
    (.skip))) <|
   .reg false [] [
    (mv 13 3),
    (op 14 (.bin .add) [.t 13, .c (.int .i64 1)]),
    (mv 3 14)] [13, 14])
def F75 : AFun :=
 { nargs := 1, keep := false, res := [.tmp 2], body :=
   .seq (.reg false [] [(op 2 .mv [.c (.bool false)])] [2]) <|
   .seq (.seq (.reg false [] [
    (mv 6 0),
    (op 7 (.len true) [.t 6]),
    (op 8 (.bin .gtr) [.t 7, .c (.int .i64 64)])] [6, 7]) <|
   .cond (.t 8) (.seq (.reg false [] [(op 2 .mv [.c (.bool false)])] []) <|
   .ret)
    (.skip)) <|
   .seq (.seq (.reg false [] [(op 3 .mv [.c (.int .i64 0)])] []) <|
   .block 0 (L75_0)) <|
   .seq (.reg false [] [
    (mv 40 0),
    (op 41 (.call 64) [.t 40]),
    (mv 5 41)] [40, 41]) <|
   .seq (.reg false [] [
    (mv 42 5),
    (op 43 (.call 74) [.t 42]),
    (mv 44 43),
   ⟨(some 45), .mv, [.t 5], .none, none, (some (44, true))⟩,
   ⟨(some 46), (.len true), [.t 45], .none, none, (some (44, true))⟩,
   ⟨(some 47), .mv, [.t 0], .none, none, (some (44, true))⟩,
   ⟨(some 48), (.len true), [.t 47], .none, none, (some (44, true))⟩,
   ⟨(some 49), (.bin .eql), [.t 46, .t 48], .none, none, (some (44, true))⟩,
   ⟨(some 50), .mv, [.t 49], .none, none, (some (44, true))⟩,
   ⟨(some 51), .mv, [.t 0], .none, none, (some (50, false))⟩,
   ⟨(some 52), (.len true), [.t 51], .none, none, (some (50, false))⟩,
   ⟨(some 53), .mv, [.t 5], .none, none, (some (50, false))⟩,
   ⟨(some 54), (.len true), [.t 53], .none, none, (some (50, false))⟩,
   ⟨(some 55), (.bin .add), [.t 54, .c (.int .i64 1)], .none, none, (some (50, false))⟩,
   ⟨(some 56), (.bin .gtr), [.t 52, .t 55], .none, none, (some (50, false))⟩,
   ⟨(some 57), .pick, [.t 50, .c (.bool true), .t 56], .none, none, (some (44, true))⟩,
    (op 58 .pick [.t 44, .t 57, .c (.bool false)]),
    (mv 59 58),
   ⟨(some 60), .mv, [.t 0], .none, none, (some (59, true))⟩,
   ⟨(some 61), .mv, [.t 0], .none, none, (some (59, true))⟩,
   ⟨(some 62), (.len true), [.t 61], .none, none, (some (59, true))⟩,
   ⟨(some 63), (.bin .sub), [.t 62, .c (.int .i64 1)], .none, none, (some (59, true))⟩,
   ⟨(some 64), .ixs, [.t 60, .t 63], .none, none, (some (59, true))⟩,
   ⟨(some 65), (.bin .neq), [.t 64, .c (.int .u8 47)], .none, none, (some (59, true))⟩,
    (op 66 .pick [.t 59, .t 65, .c (.bool false)]),
    (mv 2 66)] [42, 43, 44, 45, 46, 47, 48, 49, 50, 51, 52, 53, 54, 55, 56, 57, 58, 59, 60, 61, 62, 63, 64, 65, 66, 5, 0]) <|
   .ret }

/- internal/strconv.Itoa -/
def F76 : AFun :=
 { nargs := 1, keep := false, res := [.tmp 2], body :=
   .seq (.reg false [] [(op 2 .mv [.c (.str [])])] [2]) <|
   .seq (.reg false [] [
    (mv 3 0),
    (op 4 (.call 100) [.t 3, .c (.int .i64 10)]),
    (mv 2 4)] [3, 4, 0]) <|
   .ret }

/- bitext/notation.plain -/
def F77 : AFun :=
 { nargs := 1, keep := false, res := [.tmp 2], body :=
   .seq (.reg false [] [(op 2 .mv [.c (.bool false)])] [2]) <|
   .seq (.reg false [] [
    (mv 3 0),
    (op 4 (.bin .neq) [.t 3, .c (.int .u8 92)]),
    (mv 5 4),
   ⟨(some 6), .mv, [.t 0], .none, none, (some (5, true))⟩,
   ⟨(some 7), (.bin .neq), [.t 6, .c (.int .u8 60)], .none, none, (some (5, true))⟩,
    (op 8 .pick [.t 5, .t 7, .c (.bool false)]),
    (mv 9 8),
   ⟨(some 10), .mv, [.t 0], .none, none, (some (9, true))⟩,
   ⟨(some 11), (.bin .neq), [.t 10, .c (.int .u8 123)], .none, none, (some (9, true))⟩,
    (op 12 .pick [.t 9, .t 11, .c (.bool false)]),
    (mv 13 12),
   ⟨(some 14), .mv, [.t 0], .none, none, (some (13, true))⟩,
   ⟨(some 15), (.bin .neq), [.t 14, .c (.int .u8 9)], .none, none, (some (13, true))⟩,
    (op 16 .pick [.t 13, .t 15, .c (.bool false)]),
    (mv 17 16),
   ⟨(some 18), .mv, [.t 0], .none, none, (some (17, true))⟩,
   ⟨(some 19), (.bin .neq), [.t 18, .c (.int .u8 10)], .none, none, (some (17, true))⟩,
    (op 20 .pick [.t 17, .t 19, .c (.bool false)]),
    (mv 21 20),
   ⟨(some 22), .mv, [.t 0], .none, none, (some (21, true))⟩,
   ⟨(some 23), (.bin .neq), [.t 22, .c (.int .u8 13)], .none, none, (some (21, true))⟩,
    (op 24 .pick [.t 21, .t 23, .c (.bool false)]),
    (mv 25 24),
   ⟨(some 26), .mv, [.t 0], .none, none, (some (25, true))⟩,
   ⟨(some 27), (.call 101), [.t 26], .none, none, (some (25, true))⟩,
   ⟨(some 28), (.bin .neq), [.t 27, .c (.int .i64 1)], .none, none, (some (25, true))⟩,
    (op 29 .pick [.t 25, .t 28, .c (.bool false)]),
    (mv 2 29)] [3, 4, 5, 6, 7, 8, 9, 10, 11, 12, 13, 14, 15, 16, 17, 18, 19, 20, 21, 22, 23, 24, 25, 26, 27, 28, 29, 0]) <|
   .ret }

/- bitext/bitextref3.written -/
def F78 : AFun :=
 { nargs := 1, keep := false, res := [.tmp 2], body :=
   .seq (.reg false [] [(op 2 .mv [.c (.str [])])] [2]) <|
   .seq (.block 0 (.seq (.reg false [] [
    (mv 4 0),
    (op 5 (.bin .eql) [.t 4, .c (.int .u8 92)]),
    (mv 6 5),
   ⟨(some 7), .mv, [.t 0], .none, none, (some (6, false))⟩,
   ⟨(some 8), (.bin .eql), [.t 7, .c (.int .u8 60)], .none, none, (some (6, false))⟩,
    (op 9 .pick [.t 6, .c (.bool true), .t 8]),
    (mv 10 9),
   ⟨(some 11), .mv, [.t 0], .none, none, (some (10, false))⟩,
   ⟨(some 12), (.bin .eql), [.t 11, .c (.int .u8 123)], .none, none, (some (10, false))⟩,
    (op 13 .pick [.t 10, .c (.bool true), .t 12]),
    (mv 3 13)] [4, 5, 6, 7, 8, 9, 10, 11, 12, 13]) <|
   .cond (.t 3) (.seq (.reg false [] [
    (mv 14 0),
    (op 15 (.mks 1 [.int .u8 0] 1 [0]) [.t 14]),
    (op 16 .b2s [.t 15]),
    (op 17 (.bin .add) [.c (.str [92]), .t 16]),
    (mv 2 17)] [14, 15, 16, 17, 0]) <|
   .ret)
    (.seq (.reg false [] [
    (mv 19 0),
    (op 20 (.bin .eql) [.t 19, .c (.int .u8 10)]),
    (mv 18 20)] [19, 20]) <|
   .cond (.t 18) (.seq (.reg false [] [(op 2 .mv [.c (.str [92, 110])])] []) <|
   .ret)
    (.seq (.reg false [] [
    (mv 22 0),
    (op 23 (.bin .eql) [.t 22, .c (.int .u8 9)]),
    (mv 21 23)] [22, 23]) <|
   .cond (.t 21) (.seq (.reg false [] [(op 2 .mv [.c (.str [92, 116])])] []) <|
   .ret)
    (.seq (.reg false [] [
    (mv 25 0),
    (op 26 (.bin .eql) [.t 25, .c (.int .u8 13)]),
    (mv 27 26),
   ⟨(some 28), .mv, [.t 0], .none, none, (some (27, false))⟩,
   ⟨(some 29), (.call 102), [.t 28], .none, none, (some (27, false))⟩,
   ⟨(some 30), (.bin .eql), [.t 29, .c (.int .i64 1)], .none, none, (some (27, false))⟩,
    (op 31 .pick [.t 27, .c (.bool true), .t 30]),
    (mv 24 31)] [25, 26, 27, 28, 29, 30, 31]) <|
   .cond (.t 24) (.seq (.reg true [] [
    (mv 32 0),
    (op 33 (.bin .quo) [.t 32, .c (.int .u8 16)]),
    (op 34 .ixs [.c (.str [48, 49, 50, 51, 52, 53, 54, 55, 56, 57, 97, 98, 99, 100, 101, 102]), .t 33]),
    (mv 35 0),
    (op 36 (.bin .rem) [.t 35, .c (.int .u8 16)]),
    (op 37 .ixs [.c (.str [48, 49, 50, 51, 52, 53, 54, 55, 56, 57, 97, 98, 99, 100, 101, 102]), .t 36]),
    (op 38 (.mks 1 [.int .u8 0] 2 [0, 1]) [.t 34, .t 37]),
    (op 39 .b2s [.t 38]),
    (op 40 (.bin .add) [.c (.str [92, 120]), .t 39]),
    (mv 2 40)] [32, 33, 34, 35, 36, 37, 38, 39, 40, 0]) <|
   .ret)
    (.skip)))))) <|
   .seq (.reg false [] [
    (mv 41 0),
    (op 42 (.mks 1 [.int .u8 0] 1 [0]) [.t 41]),
    (op 43 .b2s [.t 42]),
    (mv 2 43)] [41, 42, 43, 0]) <|
   .ret }

/- bitext/bitextref1.Decimal -/
def F79 : AFun :=
 { nargs := 1, keep := false, res := [.tmp 2], body :=
   .seq (.reg false [] [(op 2 .mv [.c (.str [])])] [2]) <|
   .seq (.seq (.reg false [] [
    (mv 3 0),
    (op 4 (.bin .lss) [.t 3, .c (.int .i64 0)]),
    (mv 5 4),
   ⟨(some 6), .mv, [.t 0], .none, none, (some (5, true))⟩,
   ⟨(some 7), (.bin .gtr), [.t 6, .c (.int .i64 (-4611686018427387904))], .none, none, (some (5, true))⟩,
    (op 8 .pick [.t 5, .t 7, .c (.bool false)])] [3, 4, 5, 6, 7]) <|
   .cond (.t 8) (.seq (.reg false [] [
    (mv 9 0),
    (op 10 (.un .neg) [.t 9]),
    (op 11 (.call 103) [.t 10]),
    (op 12 (.bin .add) [.c (.str [45]), .t 11]),
    (mv 2 12)] [9, 10, 11, 12, 0]) <|
   .ret)
    (.skip)) <|
   .seq (.reg false [] [
    (mv 13 0),
    (op 14 (.mm true) [.t 13, .c (.int .i64 0)]),
    (op 15 (.call 103) [.t 14]),
    (mv 2 15)] [13, 14, 15, 0]) <|
   .ret }

/- strings.IndexByte -/
def F81 : AFun :=
 { nargs := 2, keep := false, res := [.tmp 4], body :=
   .seq (.reg false [] [(op 4 .mv [.c (.int .i64 0)])] [4]) <|
   .seq (.reg false [] [
    (mv 5 0),
    (mv 6 1),
    (op 7 (.call 105) [.t 5, .t 6]),
    (mv 4 7)] [5, 6, 7, 0, 1]) <|
   .ret }

/- bitext/class.IsName -/
def L83_0 : ACode :=
   .loop [23, 24, 25, 26, 29, 30, 31, 4, 32, 33, 34, 35, 36, 37, 38, 39, 40, 41, 42, 43, 44, 45, 46, 47, 48, 49, 50, 2, 27, 28] (.seq (.seq (.reg false [] [
    (mv 23 3),
    (mv 24 0),
    (op 25 (.len true) [.t 24]),
    (op 26 (.bin .lss) [.t 23, .t 25])] [23, 24, 25]) <|
   .cond (.t 26) (.skip)
    (.exit 0)) <|
   .seq (.block 1 (.seq (.reg false [] [
    (mv 29 0),
    (mv 30 3),
    (op 31 .ixs [.t 29, .t 30]),
    (mv 4 31)] [29, 30, 31]) <|
   .seq (.reg false [] [
    (mv 32 4),
    (op 33 (.bin .geq) [.t 32, .c (.int .u8 97)]),
    (mv 34 33),
   ⟨(some 35), .mv, [.t 4], .none, none, (some (34, true))⟩,
   ⟨(some 36), (.bin .leq), [.t 35, .c (.int .u8 122)], .none, none, (some (34, true))⟩,
    (op 37 .pick [.t 34, .t 36, .c (.bool false)]),
    (mv 38 37),
   ⟨(some 39), .mv, [.t 4], .none, none, (some (38, false))⟩,
   ⟨(some 40), (.bin .geq), [.t 39, .c (.int .u8 48)], .none, none, (some (38, false))⟩,
   ⟨(some 41), .mv, [.t 40], .none, none, (some (38, false))⟩,
   ⟨(some 42), .mv, [.t 4], .none, none, (some (41, true))⟩,
   ⟨(some 43), (.bin .leq), [.t 42, .c (.int .u8 57)], .none, none, (some (41, true))⟩,
   ⟨(some 44), .pick, [.t 41, .t 43, .c (.bool false)], .none, none, (some (38, false))⟩,
    (op 45 .pick [.t 38, .c (.bool true), .t 44]),
    (mv 46 45),
   ⟨(some 47), .mv, [.t 4], .none, none, (some (46, false))⟩,
   ⟨(some 48), (.bin .eql), [.t 47, .c (.int .u8 45)], .none, none, (some (46, false))⟩,
    (op 49 .pick [.t 46, .c (.bool true), .t 48]),
    (op 50 (.un .not) [.t 49])] [32, 33, 34, 35, 36, 37, 38, 39, 40, 41, 42, 43, 44, 45, 46, 47, 48, 49, 4]) <|
   .cond (.t 50) (.seq (.reg false [] [(op 2 .mv [.c (.bool false)])] []) <|
   .ret)
    (.skip))) <|
   .reg false [] [
    (mv 27 3),
    (op 28 (.bin .add) [.t 27, .c (.int .i64 1)]),
    (mv 3 28)] [27, 28])
def F83 : AFun :=
 { nargs := 1, keep := false, res := [.tmp 2], body :=
   .seq (.reg false [] [(op 2 .mv [.c (.bool false)])] [2]) <|
   .seq (.seq (.reg false [] [
    (mv 5 0),
    (op 6 (.len true) [.t 5]),
    (op 7 (.bin .lss) [.t 6, .c (.int .i64 1)]),
    (mv 8 7),
   ⟨(some 9), .mv, [.t 0], .none, none, (some (8, false))⟩,
   ⟨(some 10), (.len true), [.t 9], .none, none, (some (8, false))⟩,
   ⟨(some 11), (.bin .gtr), [.t 10, .c (.int .i64 24)], .none, none, (some (8, false))⟩,
    (op 12 .pick [.t 8, .c (.bool true), .t 11]),
    (mv 13 12),
   ⟨(some 14), .mv, [.t 0], .none, none, (some (13, false))⟩,
   ⟨(some 15), .ixs, [.t 14, .c (.int .i64 0)], .none, none, (some (13, false))⟩,
   ⟨(some 16), (.bin .lss), [.t 15, .c (.int .u8 97)], .none, none, (some (13, false))⟩,
    (op 17 .pick [.t 13, .c (.bool true), .t 16]),
    (mv 18 17),
   ⟨(some 19), .mv, [.t 0], .none, none, (some (18, false))⟩,
   ⟨(some 20), .ixs, [.t 19, .c (.int .i64 0)], .none, none, (some (18, false))⟩,
   ⟨(some 21), (.bin .gtr), [.t 20, .c (.int .u8 122)], .none, none, (some (18, false))⟩,
    (op 22 .pick [.t 18, .c (.bool true), .t 21])] [5, 6, 7, 8, 9, 10, 11, 12, 13, 14, 15, 16, 17, 18, 19, 20, 21]) <|
   .cond (.t 22) (.seq (.reg false [] [(op 2 .mv [.c (.bool false)])] []) <|
   .ret)
    (.skip)) <|
   .seq (.seq (.reg false [] [(op 3 .mv [.c (.int .i64 1)])] []) <|
   .block 0 (L83_0)) <|
   .seq (.reg false [] [(op 2 .mv [.c (.bool true)])] []) <|
   .ret }

/- bitext/bitextmake.word -/
def F95 : AFun :=
 { nargs := 1, keep := false, res := [.tmp 2], body :=
   .seq (.reg false [] [(op 2 .mv [.c (.str [])])] [2]) <|
   .seq (.reg false [] [
    (op 3 (.mks 1 [.str []] 24 [0, 1, 2, 3, 4, 5, 6, 7, 8, 9, 10, 11, 12, 13, 14, 15, 16, 17, 18, 19, 20, 21, 22, 23]) [.c (.str [114, 101, 100]), .c (.str [99, 97, 114]), .c (.str [82, 101, 100]), .c (.str [97]), .c (.str [99, 97, 114, 115]), .c (.str [49, 44, 53]), .c (.str [50, 50]), .c (.str [100, 111, 110, 39, 116]), .c (.str [46]), .c (.str [33]), .c (.str [32]), .c (.str [32, 32]), .c (.str [60]), .c (.str [38]), .c (.str [123]), .c (.str [34]), .c (.str [92]), .c (.str [120, 45, 121]), .c (.str [10]), .c (.str [61]), .c (.str [125]), .c (.str [62]), .c (.str [9]), .c (.str [98])]),
    (mv 4 0),
   ⟨(some 5), (.call 41), [.t 4, .c (.int .i64 24)], .sh, none, none⟩,
    (op 6 (.ia 1) [.t 3, .t 5]),
    (op 7 (.ld false 1) [.t 6]),
    (mv 2 7)] [3, 4, 5, 6, 7, 0]) <|
   .ret }

/- bitext/item.width -/
def F96 : AFun :=
 { nargs := 1, keep := false, res := [.tmp 2], body :=
   .seq (.reg false [1] [
   ⟨(some 1), (.box 3), [.t 0], (.lo 1), none, none⟩,
    (op 2 .mv [.c (.int .i64 0)])] [2, 0]) <|
   .seq (.seq (.reg false [] [
    (op 3 (.fa 0) [.t 1]),
   ⟨(some 4), (.ld false 1), [.t 3], (.lo 1), none, none⟩,
    (op 5 (.bin .eql) [.t 4, .c (.int .i64 1)])] [3, 4]) <|
   .cond (.t 5) (.seq (.reg false [] [
    (op 6 (.fa 1) [.t 1]),
   ⟨(some 7), (.ld false 1), [.t 6], (.lo 1), none, none⟩,
    (op 8 (.len true) [.t 7]),
    (mv 2 8)] [6, 7, 8, 1]) <|
   .ret)
    (.skip)) <|
   .seq (.reg false [] [(op 2 .mv [.c (.int .i64 1)])] []) <|
   .ret }

/- bitext/item.IsContent -/
def L97_0 : ACode :=
   .loop [23, 24, 25, 26, 29, 30, 31, 32, 33, 34, 35, 36, 37, 38, 39, 40, 41, 42, 43, 44, 45, 2, 27, 28] (.seq (.seq (.reg false [] [
    (mv 23 3),
    (mv 24 0),
    (op 25 (.len true) [.t 24]),
    (op 26 (.bin .lss) [.t 23, .t 25])] [23, 24, 25]) <|
   .cond (.t 26) (.skip)
    (.exit 0)) <|
   .seq (.block 1 (.seq (.reg false [] [
    (mv 29 0),
    (mv 30 3),
    (op 31 .ixs [.t 29, .t 30]),
    (op 32 (.bin .lss) [.t 31, .c (.int .u8 32)]),
    (mv 33 32),
   ⟨(some 34), .mv, [.t 0], .none, none, (some (33, false))⟩,
   ⟨(some 35), .mv, [.t 3], .none, none, (some (33, false))⟩,
   ⟨(some 36), .ixs, [.t 34, .t 35], .none, none, (some (33, false))⟩,
   ⟨(some 37), (.bin .gtr), [.t 36, .c (.int .u8 126)], .none, none, (some (33, false))⟩,
    (op 38 .pick [.t 33, .c (.bool true), .t 37]),
    (mv 39 38),
   ⟨(some 40), .mv, [.t 0], .none, none, (some (39, false))⟩,
   ⟨(some 41), .mv, [.t 3], .none, none, (some (39, false))⟩,
   ⟨(some 42), .ixs, [.t 40, .t 41], .none, none, (some (39, false))⟩,
   ⟨(some 43), (.call 81), [.c (.str [60, 62, 123, 125]), .t 42], .none, none, (some (39, false))⟩,
   ⟨(some 44), (.bin .geq), [.t 43, .c (.int .i64 0)], .none, none, (some (39, false))⟩,
    (op 45 .pick [.t 39, .c (.bool true), .t 44])] [29, 30, 31, 32, 33, 34, 35, 36, 37, 38, 39, 40, 41, 42, 43, 44]) <|
   .cond (.t 45) (.seq (.reg false [] [(op 2 .mv [.c (.bool false)])] []) <|
   .ret)
    (.skip))) <|
   .reg false [] [
    (mv 27 3),
    (op 28 (.bin .add) [.t 27, .c (.int .i64 1)]),
    (mv 3 28)] [27, 28])
def F97 : AFun :=
 { nargs := 1, keep := false, res := [.tmp 2], body :=
   .seq (.reg false [] [(op 2 .mv [.c (.bool false)])] [2]) <|
   .seq (.seq (.reg false [] [
    (mv 7 0),
    (op 8 (.len true) [.t 7]),
    (op 9 (.bin .gtr) [.t 8, .c (.int .i64 64)]),
    (mv 10 9),
   ⟨(some 11), .mv, [.t 0], .none, none, (some (10, false))⟩,
   ⟨(some 12), (.len true), [.t 11], .none, none, (some (10, false))⟩,
   ⟨(some 13), (.bin .eql), [.t 12, .c (.int .i64 0)], .none, none, (some (10, false))⟩,
    (op 14 .pick [.t 10, .c (.bool true), .t 13]),
    (mv 15 14),
   ⟨(some 16), .mv, [.t 0], .none, none, (some (15, false))⟩,
   ⟨(some 17), .mv, [.t 0], .none, none, (some (15, false))⟩,
   ⟨(some 18), (.len true), [.t 17], .none, none, (some (15, false))⟩,
   ⟨(some 19), (.bin .sub), [.t 18, .c (.int .i64 1)], .none, none, (some (15, false))⟩,
   ⟨(some 20), .ixs, [.t 16, .t 19], .none, none, (some (15, false))⟩,
   ⟨(some 21), (.bin .eql), [.t 20, .c (.int .u8 47)], .none, none, (some (15, false))⟩,
    (op 22 .pick [.t 15, .c (.bool true), .t 21])] [7, 8, 9, 10, 11, 12, 13, 14, 15, 16, 17, 18, 19, 20, 21]) <|
   .cond (.t 22) (.seq (.reg false [] [(op 2 .mv [.c (.bool false)])] []) <|
   .ret)
    (.skip)) <|
   .seq (.seq (.reg false [] [(op 3 .mv [.c (.int .i64 0)])] []) <|
   .block 0 (L97_0)) <|
   .seq (.reg false [] [
    (mv 47 0),
    (op 48 (.call 107) [.t 47, .c (.str [32])]),
    (mv 46 48),
    (op 49 (.ext 0) [.t 46]),
    (op 50 (.ext 1) [.t 46]),
    (op 51 (.ext 2) [.t 46]),
    (mv 4 49),
    (mv 5 50),
    (mv 6 51)] [47, 48, 46, 49, 50, 51, 0]) <|
   .seq (.reg false [] [
    (mv 52 4),
    (op 53 (.call 83) [.t 52]),
    (mv 54 53),
   ⟨(some 55), .mv, [.t 6], .none, none, (some (54, true))⟩,
   ⟨(some 56), (.un .not), [.t 55], .none, none, (some (54, true))⟩,
   ⟨(some 57), .mv, [.t 56], .none, none, (some (54, true))⟩,
   ⟨(some 58), .mv, [.t 5], .none, none, (some (57, false))⟩,
   ⟨(some 59), (.len true), [.t 58], .none, none, (some (57, false))⟩,
   ⟨(some 60), (.bin .gtr), [.t 59, .c (.int .i64 0)], .none, none, (some (57, false))⟩,
   ⟨(some 61), .pick, [.t 57, .c (.bool true), .t 60], .none, none, (some (54, true))⟩,
    (op 62 .pick [.t 54, .t 61, .c (.bool false)]),
    (mv 2 62)] [52, 53, 54, 55, 56, 57, 58, 59, 60, 61, 62, 4, 6, 5]) <|
   .ret }

/- bitext/item.name -/
def F98 : AFun :=
 { nargs := 1, keep := false, res := [.tmp 2], body :=
   .seq (.reg false [] [(op 2 .mv [.c (.str [])])] [2]) <|
   .seq (.reg false [] [
    (mv 7 0),
    (op 8 (.call 107) [.t 7, .c (.str [32])]),
    (mv 6 8),
    (op 9 (.ext 0) [.t 6]),
    (op 10 (.ext 1) [.t 6]),
    (op 11 (.ext 2) [.t 6]),
    (mv 3 9),
    (mv 4 10),
    (mv 5 11)] [7, 8, 6, 9, 10, 11, 4, 5, 0]) <|
   .seq (.reg false [] [
    (mv 12 3),
    (mv 2 12)] [12, 3]) <|
   .ret }

/- bitext/item.Normalize -/
def L99_0 : ACode :=
   .loop [25, 26, 27, 28, 29, 30, 31, 32, 33, 34, 35, 36, 37, 38, 39, 40, 41, 42, 43, 44, 45] (.seq (.seq (.reg false [] [
    (mv 25 4),
    (mv 26 0),
    (op 27 (.len false) [.t 26]),
    (op 28 (.bin .lss) [.t 25, .t 27]),
    (mv 29 28),
   ⟨(some 30), .mv, [.t 0], .none, none, (some (29, true))⟩,
   ⟨(some 31), .mv, [.t 4], .none, none, (some (29, true))⟩,
   ⟨(some 32), (.ia 3), [.t 30, .t 31], .none, none, (some (29, true))⟩,
   ⟨(some 33), (.fa 0), [.t 32], .none, none, (some (29, true))⟩,
   ⟨(some 34), (.ld false 1), [.t 33], .none, none, (some (29, true))⟩,
   ⟨(some 35), (.bin .eql), [.t 34, .c (.int .i64 1)], .none, none, (some (29, true))⟩,
    (op 36 .pick [.t 29, .t 35, .c (.bool false)])] [25, 26, 27, 28, 29, 30, 31, 32, 33, 34, 35]) <|
   .cond (.t 36) (.skip)
    (.exit 2)) <|
   .block 3 (.seq (.reg false [] [
   ⟨(some 37), .mvo, [.t 5], .none, (some 5), none⟩,
    (mv 38 0),
    (mv 39 4),
    (op 40 (.ia 3) [.t 38, .t 39]),
    (op 41 (.fa 1) [.t 40]),
    (op 42 (.ld false 1) [.t 41]),
   ⟨(some 43), (.app true 1 1), [.t 37, .t 42], .none, (some 37), none⟩,
   ⟨(some 5), .mvo, [.t 43], .none, (some 43), none⟩] [37, 38, 39, 40, 41, 42, 43]) <|
   .reg false [] [
    (mv 44 4),
    (op 45 (.bin .add) [.t 44, .c (.int .i64 1)]),
    (mv 4 45)] [44, 45]))
def L99_1 : ACode :=
   .loop [6, 7, 8, 9, 10, 11, 12, 13, 14, 15, 16, 17, 18, 19, 20, 21, 22, 23, 24, 5, 25, 26, 27, 28, 29, 30, 31, 32, 33, 34, 35, 36, 37, 38, 39, 40, 41, 42, 43, 44, 45, 46, 47, 48, 49, 50, 51, 52, 53, 54] (.seq (.seq (.reg false [] [
    (mv 6 4),
    (mv 7 0),
    (op 8 (.len false) [.t 7]),
    (op 9 (.bin .lss) [.t 6, .t 8])] [6, 7, 8]) <|
   .cond (.t 9) (.skip)
    (.exit 0)) <|
   .block 1 (.seq (.seq (.reg false [] [
    (mv 10 0),
    (mv 11 4),
    (op 12 (.ia 3) [.t 10, .t 11]),
    (op 13 (.fa 0) [.t 12]),
    (op 14 (.ld false 1) [.t 13]),
    (op 15 (.bin .neq) [.t 14, .c (.int .i64 1)])] [10, 11, 12, 13, 14]) <|
   .cond (.t 15) (.seq (.reg false [] [
   ⟨(some 16), .mvo, [.t 3], .none, (some 3), none⟩,
    (mv 17 0),
    (mv 18 4),
    (op 19 (.ia 3) [.t 17, .t 18]),
    (op 20 (.ld true 3) [.t 19]),
    (op 21 (.mks 3 [.int .i64 0, .str [], .int .i64 0] 1 [0]) [.t 20]),
   ⟨(some 22), (.app false 3 32), [.t 16, .t 21], .none, (some 16), none⟩,
   ⟨(some 3), .mvo, [.t 22], .none, (some 22), none⟩] [16, 17, 18, 19, 20, 21, 22]) <|
   .seq (.reg false [] [
    (mv 23 4),
    (op 24 (.bin .add) [.t 23, .c (.int .i64 1)]),
    (mv 4 24)] [23, 24]) <|
   .exit 1)
    (.skip)) <|
   .seq (.reg false [] [(op 5 .mv [.c (.sl .full 1 [])])] []) <|
   .seq (.block 2 (L99_0)) <|
   .seq (.reg false [] [
    (mv 46 5),
    (op 47 (.len false) [.t 46]),
    (op 48 (.bin .gtr) [.t 47, .c (.int .i64 0)])] [46, 47]) <|
   .cond (.t 48) (.reg false [] [
   ⟨(some 49), .mvo, [.t 3], .none, (some 3), none⟩,
    (mv 50 5),
    (op 51 .b2s [.t 50]),
    (op 52 (.build [.int .i64 0, .str [], .int .i64 0] [(0, 1), (1, 1)]) [.c (.int .i64 1), .t 51]),
    (op 53 (.mks 3 [.int .i64 0, .str [], .int .i64 0] 1 [0]) [.t 52]),
   ⟨(some 54), (.app false 3 32), [.t 49, .t 53], .none, (some 49), none⟩,
   ⟨(some 3), .mvo, [.t 54], .none, (some 54), none⟩] [49, 50, 51, 52, 53, 54, 5])
    (.skip)))
def F99 : AFun :=
 { nargs := 1, keep := false, res := [.tmp 2], body :=
   .seq (.reg false [] [(op 2 .mv [.c (.sl .full 3 [])])] [2]) <|
   .seq (.reg false [] [(op 3 .mv [.c (.sl .full 3 [])])] []) <|
   .seq (.seq (.reg false [] [(op 4 .mv [.c (.int .i64 0)])] []) <|
   .block 0 (L99_1)) <|
   .seq (.reg false [] [
    (mv 55 3),
   ⟨(some 2), .mvo, [.t 55], .none, (some 55), none⟩] [55, 3]) <|
   .ret }

/- internal/strconv.FormatInt -/
def F100 : AFun :=
 { nargs := 2, keep := false, res := [.tmp 4], body :=
   .seq (.reg false [] [(op 4 .mv [.c (.str [])])] [4]) <|
   .seq (.seq (.reg false [] [
    (mv 10 1),
    (op 11 (.bin .eql) [.t 10, .c (.int .i64 10)])] [10]) <|
   .cond (.t 11) (.seq (.seq (.reg false [] [
    (mv 12 0),
    (op 13 (.bin .leq) [.c (.int .i64 0), .t 12]),
    (mv 14 13),
   ⟨(some 15), .mv, [.t 0], .none, none, (some (14, true))⟩,
   ⟨(some 16), (.bin .lss), [.t 15, .c (.int .i64 100)], .none, none, (some (14, true))⟩,
    (op 17 .pick [.t 14, .t 16, .c (.bool false)])] [12, 13, 14, 15, 16]) <|
   .cond (.t 17) (.seq (.reg false [] [
    (mv 18 0),
    (op 19 (.call 122) [.t 18]),
    (mv 4 19)] [18, 19, 0]) <|
   .ret)
    (.skip)) <|
   .seq (.reg false [] [⟨(some 5), (.allocS [.int .u8 0, .int .u8 0, .int .u8 0, .int .u8 0, .int .u8 0, .int .u8 0, .int .u8 0, .int .u8 0, .int .u8 0, .int .u8 0, .int .u8 0, .int .u8 0, .int .u8 0, .int .u8 0, .int .u8 0, .int .u8 0, .int .u8 0, .int .u8 0, .int .u8 0, .int .u8 0, .int .u8 0, .int .u8 0, .int .u8 0, .int .u8 0]), [], .sh, none, none⟩] []) <|
   .seq (.reg false [] [
    (mv 20 0),
    (op 21 (.cvi .u64) [.t 20]),
    (mv 6 21)] [20, 21]) <|
   .seq (.seq (.reg false [] [
    (mv 22 0),
    (op 23 (.bin .lss) [.t 22, .c (.int .i64 0)])] [22]) <|
   .cond (.t 23) (.reg false [] [
    (mv 24 6),
    (op 25 (.un .neg) [.t 24]),
    (mv 6 25)] [24, 25])
    (.skip)) <|
   .seq (.reg false [] [
    (mv 26 6),
    (op 27 (.call 123) [.t 26]),
    (mv 7 27)] [26, 27]) <|
   .seq (.reg false [] [
    (mv 28 7),
    (op 29 (.bin .add) [.c (.int .i64 1), .t 28]),
   ⟨(some 30), (.sla 24), [.t 5, .c (.int .i64 1), .t 29], .sh, none, none⟩,
    (mv 31 6),
   ⟨(some 32), (.call 124), [.t 30, .t 31], .sh, none, none⟩] [28, 29, 30, 31, 32, 6]) <|
   .seq (.seq (.reg false [] [
    (mv 33 0),
    (op 34 (.bin .lss) [.t 33, .c (.int .i64 0)])] [33, 0]) <|
   .cond (.t 34) (.seq (.reg false [] [
    (op 35 (.iaA 1 24) [.t 5, .c (.int .i64 0)]),
   ⟨none, (.st 1), [.t 35, .c (.int .u8 45)], .sh, none, none⟩] [35]) <|
   .seq (.reg false [] [⟨none, .mv, [], .none, none, none⟩] []) <|
   .ret)
    (.skip)) <|
   .seq (.reg false [] [
    (mv 40 7),
    (op 41 (.bin .add) [.c (.int .i64 1), .t 40]),
   ⟨(some 42), (.sla 24), [.t 5, .c (.int .i64 1), .t 41], .sh, none, none⟩,
   ⟨(some 43), .b2s, [.t 42], .sh, none, none⟩,
    (mv 4 43)] [40, 41, 42, 43, 7, 5]) <|
   .ret)
    (.skip)) <|
   .seq (.reg false [] [
    (mv 45 0),
    (op 46 (.cvi .u64) [.t 45]),
    (mv 47 1),
    (mv 48 0),
    (op 49 (.bin .lss) [.t 48, .c (.int .i64 0)]),
    (op 50 (.call 125) [.c (.sl .full 1 []), .t 46, .t 47, .t 49, .c (.bool false)]),
    (mv 44 50),
    (op 51 (.ext 0) [.t 44]),
    (op 52 (.ext 1) [.t 44]),
   ⟨(some 8), .mvo, [.t 51], .none, (some 51), none⟩,
    (mv 9 52)] [45, 46, 47, 48, 49, 50, 44, 51, 52, 8, 0, 1]) <|
   .seq (.reg false [] [
    (mv 53 9),
    (mv 4 53)] [53, 9]) <|
   .ret }

/- bitext/class.Of -/
def F101 : AFun :=
 { nargs := 1, keep := false, res := [.tmp 2], body :=
   .seq (.reg false [] [(op 2 .mv [.c (.int .i64 0)])] [2]) <|
   .seq (.block 0 (.seq (.reg false [] [
    (mv 4 0),
    (op 5 (.bin .eql) [.t 4, .c (.int .u8 9)]),
    (mv 6 5),
   ⟨(some 7), .mv, [.t 0], .none, none, (some (6, false))⟩,
   ⟨(some 8), (.bin .eql), [.t 7, .c (.int .u8 10)], .none, none, (some (6, false))⟩,
    (op 9 .pick [.t 6, .c (.bool true), .t 8]),
    (mv 10 9),
   ⟨(some 11), .mv, [.t 0], .none, none, (some (10, false))⟩,
   ⟨(some 12), (.bin .eql), [.t 11, .c (.int .u8 13)], .none, none, (some (10, false))⟩,
    (op 13 .pick [.t 10, .c (.bool true), .t 12]),
    (mv 14 13),
   ⟨(some 15), .mv, [.t 0], .none, none, (some (14, false))⟩,
   ⟨(some 16), (.bin .eql), [.t 15, .c (.int .u8 32)], .none, none, (some (14, false))⟩,
    (op 17 .pick [.t 14, .c (.bool true), .t 16]),
    (mv 3 17)] [4, 5, 6, 7, 8, 9, 10, 11, 12, 13, 14, 15, 16, 17]) <|
   .cond (.t 3) (.seq (.reg false [] [(op 2 .mv [.c (.int .i64 2)])] []) <|
   .ret)
    (.seq (.reg false [] [
    (mv 19 0),
    (op 20 (.bin .lss) [.t 19, .c (.int .u8 32)]),
    (mv 21 20),
   ⟨(some 22), .mv, [.t 0], .none, none, (some (21, false))⟩,
   ⟨(some 23), (.bin .eql), [.t 22, .c (.int .u8 127)], .none, none, (some (21, false))⟩,
    (op 24 .pick [.t 21, .c (.bool true), .t 23]),
    (mv 18 24)] [19, 20, 21, 22, 23, 24]) <|
   .cond (.t 18) (.seq (.reg false [] [(op 2 .mv [.c (.int .i64 1)])] []) <|
   .ret)
    (.seq (.reg false [] [
    (mv 26 0),
    (op 27 (.bin .geq) [.t 26, .c (.int .u8 48)]),
    (mv 28 27),
   ⟨(some 29), .mv, [.t 0], .none, none, (some (28, true))⟩,
   ⟨(some 30), (.bin .leq), [.t 29, .c (.int .u8 57)], .none, none, (some (28, true))⟩,
    (op 31 .pick [.t 28, .t 30, .c (.bool false)]),
    (mv 25 31)] [26, 27, 28, 29, 30, 31]) <|
   .cond (.t 25) (.seq (.reg false [] [(op 2 .mv [.c (.int .i64 3)])] []) <|
   .ret)
    (.seq (.reg false [] [
    (mv 33 0),
    (op 34 (.bin .geq) [.t 33, .c (.int .u8 97)]),
    (mv 35 34),
   ⟨(some 36), .mv, [.t 0], .none, none, (some (35, true))⟩,
   ⟨(some 37), (.bin .leq), [.t 36, .c (.int .u8 122)], .none, none, (some (35, true))⟩,
    (op 38 .pick [.t 35, .t 37, .c (.bool false)]),
    (mv 39 38),
   ⟨(some 40), .mv, [.t 0], .none, none, (some (39, false))⟩,
   ⟨(some 41), (.bin .geq), [.t 40, .c (.int .u8 65)], .none, none, (some (39, false))⟩,
   ⟨(some 42), .mv, [.t 41], .none, none, (some (39, false))⟩,
   ⟨(some 43), .mv, [.t 0], .none, none, (some (42, true))⟩,
   ⟨(some 44), (.bin .leq), [.t 43, .c (.int .u8 90)], .none, none, (some (42, true))⟩,
   ⟨(some 45), .pick, [.t 42, .t 44, .c (.bool false)], .none, none, (some (39, false))⟩,
    (op 46 .pick [.t 39, .c (.bool true), .t 45]),
    (mv 47 46),
   ⟨(some 48), .mv, [.t 0], .none, none, (some (47, false))⟩,
   ⟨(some 49), (.bin .geq), [.t 48, .c (.int .u8 128)], .none, none, (some (47, false))⟩,
    (op 50 .pick [.t 47, .c (.bool true), .t 49]),
    (mv 32 50)] [33, 34, 35, 36, 37, 38, 39, 40, 41, 42, 43, 44, 45, 46, 47, 48, 49, 50, 0]) <|
   .cond (.t 32) (.seq (.reg false [] [(op 2 .mv [.c (.int .i64 4)])] []) <|
   .ret)
    (.skip)))))) <|
   .seq (.reg false [] [(op 2 .mv [.c (.int .i64 5)])] []) <|
   .ret }

/- bitext/bitextref1.Class -/
def F102 : AFun :=
 { nargs := 1, keep := false, res := [.tmp 2], body :=
   .seq (.reg false [] [(op 2 .mv [.c (.int .i64 0)])] [2]) <|
   .seq (.block 0 (.seq (.reg false [] [
    (mv 4 0),
    (op 5 (.bin .eql) [.t 4, .c (.int .u8 9)]),
    (mv 6 5),
   ⟨(some 7), .mv, [.t 0], .none, none, (some (6, false))⟩,
   ⟨(some 8), (.bin .eql), [.t 7, .c (.int .u8 10)], .none, none, (some (6, false))⟩,
    (op 9 .pick [.t 6, .c (.bool true), .t 8]),
    (mv 10 9),
   ⟨(some 11), .mv, [.t 0], .none, none, (some (10, false))⟩,
   ⟨(some 12), (.bin .eql), [.t 11, .c (.int .u8 13)], .none, none, (some (10, false))⟩,
    (op 13 .pick [.t 10, .c (.bool true), .t 12]),
    (mv 14 13),
   ⟨(some 15), .mv, [.t 0], .none, none, (some (14, false))⟩,
   ⟨(some 16), (.bin .eql), [.t 15, .c (.int .u8 32)], .none, none, (some (14, false))⟩,
    (op 17 .pick [.t 14, .c (.bool true), .t 16]),
    (mv 3 17)] [4, 5, 6, 7, 8, 9, 10, 11, 12, 13, 14, 15, 16, 17]) <|
   .cond (.t 3) (.seq (.reg false [] [(op 2 .mv [.c (.int .i64 2)])] []) <|
   .ret)
    (.seq (.reg false [] [
    (mv 19 0),
    (op 20 (.bin .lss) [.t 19, .c (.int .u8 32)]),
    (mv 21 20),
   ⟨(some 22), .mv, [.t 0], .none, none, (some (21, false))⟩,
   ⟨(some 23), (.bin .eql), [.t 22, .c (.int .u8 127)], .none, none, (some (21, false))⟩,
    (op 24 .pick [.t 21, .c (.bool true), .t 23]),
    (mv 18 24)] [19, 20, 21, 22, 23, 24]) <|
   .cond (.t 18) (.seq (.reg false [] [(op 2 .mv [.c (.int .i64 1)])] []) <|
   .ret)
    (.seq (.reg false [] [
    (mv 26 0),
    (op 27 (.bin .geq) [.t 26, .c (.int .u8 48)]),
    (mv 28 27),
   ⟨(some 29), .mv, [.t 0], .none, none, (some (28, true))⟩,
   ⟨(some 30), (.bin .leq), [.t 29, .c (.int .u8 57)], .none, none, (some (28, true))⟩,
    (op 31 .pick [.t 28, .t 30, .c (.bool false)]),
    (mv 25 31)] [26, 27, 28, 29, 30, 31]) <|
   .cond (.t 25) (.seq (.reg false [] [(op 2 .mv [.c (.int .i64 3)])] []) <|
   .ret)
    (.seq (.reg false [] [
    (mv 33 0),
    (op 34 (.bin .geq) [.t 33, .c (.int .u8 65)]),
    (mv 35 34),
   ⟨(some 36), .mv, [.t 0], .none, none, (some (35, true))⟩,
   ⟨(some 37), (.bin .leq), [.t 36, .c (.int .u8 90)], .none, none, (some (35, true))⟩,
    (op 38 .pick [.t 35, .t 37, .c (.bool false)]),
    (mv 39 38),
   ⟨(some 40), .mv, [.t 0], .none, none, (some (39, false))⟩,
   ⟨(some 41), (.bin .geq), [.t 40, .c (.int .u8 97)], .none, none, (some (39, false))⟩,
   ⟨(some 42), .mv, [.t 41], .none, none, (some (39, false))⟩,
   ⟨(some 43), .mv, [.t 0], .none, none, (some (42, true))⟩,
   ⟨(some 44), (.bin .leq), [.t 43, .c (.int .u8 122)], .none, none, (some (42, true))⟩,
   ⟨(some 45), .pick, [.t 42, .t 44, .c (.bool false)], .none, none, (some (39, false))⟩,
    (op 46 .pick [.t 39, .c (.bool true), .t 45]),
    (mv 47 46),
   ⟨(some 48), .mv, [.t 0], .none, none, (some (47, false))⟩,
   ⟨(some 49), (.bin .geq), [.t 48, .c (.int .u8 128)], .none, none, (some (47, false))⟩,
    (op 50 .pick [.t 47, .c (.bool true), .t 49]),
    (mv 32 50)] [33, 34, 35, 36, 37, 38, 39, 40, 41, 42, 43, 44, 45, 46, 47, 48, 49, 50, 0]) <|
   .cond (.t 32) (.seq (.reg false [] [(op 2 .mv [.c (.int .i64 4)])] []) <|
   .ret)
    (.skip)))))) <|
   .seq (.reg false [] [(op 2 .mv [.c (.int .i64 5)])] []) <|
   .ret }

/- bitext/bitextref1.decimal -/
def L103_0 : ACode :=
   .loop [4, 5, 6, 7, 8, 9, 10, 11, 12, 13, 14, 15, 16, 2] (.block 1 (.seq (.reg false [] [
    (mv 4 0),
    (op 5 (.bin .rem) [.t 4, .c (.int .i64 10)]),
    (op 6 (.bin .add) [.c (.int .i64 48), .t 5]),
    (op 7 (.cvi .u8) [.t 6]),
    (op 8 (.mks 1 [.int .u8 0] 1 [0]) [.t 7]),
    (op 9 .b2s [.t 8]),
    (mv 10 3),
    (op 11 (.bin .add) [.t 9, .t 10]),
    (mv 3 11)] [4, 5, 6, 7, 8, 9, 10, 11]) <|
   .seq (.reg false [] [
    (mv 12 0),
    (op 13 (.bin .quo) [.t 12, .c (.int .i64 10)]),
    (mv 0 13)] [12, 13]) <|
   .seq (.reg false [] [
    (mv 14 0),
    (op 15 (.bin .eql) [.t 14, .c (.int .i64 0)])] [14]) <|
   .cond (.t 15) (.seq (.reg false [] [
    (mv 16 3),
    (mv 2 16)] [16, 3]) <|
   .ret)
    (.skip)))
def F103 : AFun :=
 { nargs := 1, keep := false, res := [.tmp 2], body :=
   .seq (.reg false [] [(op 2 .mv [.c (.str [])])] [2]) <|
   .seq (.reg false [] [(op 3 .mv [.c (.str [])])] []) <|
   .block 0 (L103_0) }

/- internal/stringslite.IndexByte -/
def F105 : AFun :=
 { nargs := 2, keep := false, res := [.tmp 4], body :=
   .seq (.reg false [] [(op 4 .mv [.c (.int .i64 0)])] [4]) <|
   .seq (.reg false [] [
    (mv 5 0),
    (mv 6 1),
    (op 7 (.call 126) [.t 5, .t 6]),
    (mv 4 7)] [5, 6, 7, 0, 1]) <|
   .ret }

/- strings.Cut -/
def F107 : AFun :=
 { nargs := 2, keep := false, res := [.tmp 4, .tmp 5, .tmp 6], body :=
   .seq (.reg false [] [
    (op 4 .mv [.c (.str [])]),
    (op 5 .mv [.c (.str [])]),
    (op 6 .mv [.c (.bool false)])] [4, 5, 6]) <|
   .seq (.reg false [] [
    (mv 7 0),
    (mv 8 1),
    (op 9 (.call 128) [.t 7, .t 8]),
    (op 10 (.ext 0) [.t 9]),
    (op 11 (.ext 1) [.t 9]),
    (op 12 (.ext 2) [.t 9]),
    (mv 4 10),
    (mv 5 11),
    (mv 6 12)] [7, 8, 9, 10, 11, 12, 0, 1]) <|
   .ret }

/- internal/strconv.small -/
def F122 : AFun :=
 { nargs := 1, keep := false, res := [.tmp 2], body :=
   .seq (.reg false [] [(op 2 .mv [.c (.str [])])] [2]) <|
   .seq (.seq (.reg false [] [
    (mv 3 0),
    (op 4 (.bin .lss) [.t 3, .c (.int .i64 10)])] [3]) <|
   .cond (.t 4) (.seq (.reg false [] [
    (mv 5 0),
    (mv 6 0),
    (op 7 (.bin .add) [.t 6, .c (.int .i64 1)]),
    (op 8 (.slc true 0 true true) [.c (.str [48, 49, 50, 51, 52, 53, 54, 55, 56, 57, 97, 98, 99, 100, 101, 102, 103, 104, 105, 106, 107, 108, 109, 110, 111, 112, 113, 114, 115, 116, 117, 118, 119, 120, 121, 122]), .t 5, .t 7]),
    (mv 2 8)] [5, 6, 7, 8, 0]) <|
   .ret)
    (.skip)) <|
   .seq (.reg false [] [
    (mv 9 0),
    (op 10 (.bin .mul) [.t 9, .c (.int .i64 2)]),
    (mv 11 0),
    (op 12 (.bin .mul) [.t 11, .c (.int .i64 2)]),
    (op 13 (.bin .add) [.t 12, .c (.int .i64 2)]),
    (op 14 (.slc true 0 true true) [.c (.str [48, 48, 48, 49, 48, 50, 48, 51, 48, 52, 48, 53, 48, 54, 48, 55, 48, 56, 48, 57, 49, 48, 49, 49, 49, 50, 49, 51, 49, 52, 49, 53, 49, 54, 49, 55, 49, 56, 49, 57, 50, 48, 50, 49, 50, 50, 50, 51, 50, 52, 50, 53, 50, 54, 50, 55, 50, 56, 50, 57, 51, 48, 51, 49, 51, 50, 51, 51, 51, 52, 51, 53, 51, 54, 51, 55, 51, 56, 51, 57, 52, 48, 52, 49, 52, 50, 52, 51, 52, 52, 52, 53, 52, 54, 52, 55, 52, 56, 52, 57, 53, 48, 53, 49, 53, 50, 53, 51, 53, 52, 53, 53, 53, 54, 53, 55, 53, 56, 53, 57, 54, 48, 54, 49, 54, 50, 54, 51, 54, 52, 54, 53, 54, 54, 54, 55, 54, 56, 54, 57, 55, 48, 55, 49, 55, 50, 55, 51, 55, 52, 55, 53, 55, 54, 55, 55, 55, 56, 55, 57, 56, 48, 56, 49, 56, 50, 56, 51, 56, 52, 56, 53, 56, 54, 56, 55, 56, 56, 56, 57, 57, 48, 57, 49, 57, 50, 57, 51, 57, 52, 57, 53, 57, 54, 57, 55, 57, 56, 57, 57]), .t 10, .t 13]),
    (mv 2 14)] [9, 10, 11, 12, 13, 14, 0]) <|
   .ret }

/- internal/strconv.numDigits -/
def F123 : AFun :=
 { nargs := 1, keep := false, res := [.tmp 2], body :=
   .seq (.reg false [] [(op 2 .mv [.c (.int .i64 0)])] [2]) <|
   .seq (.reg false [] [
    (mv 4 0),
    (op 5 (.call 137) [.t 4]),
    (op 6 (.call 136) [.t 5]),
    (mv 3 6)] [4, 5, 6]) <|
   .seq (.reg false [] [
    (mv 7 3),
    (mv 8 0),
    (mv 9 3),
    (op 10 (.iaA 1 20) [.c (.ip [.int .u64 1, .int .u64 10, .int .u64 100, .int .u64 1000, .int .u64 10000, .int .u64 100000, .int .u64 1000000, .int .u64 10000000, .int .u64 100000000, .int .u64 1000000000, .int .u64 10000000000, .int .u64 100000000000, .int .u64 1000000000000, .int .u64 10000000000000, .int .u64 100000000000000, .int .u64 1000000000000000, .int .u64 10000000000000000, .int .u64 100000000000000000, .int .u64 1000000000000000000, .int .u64 10000000000000000000]), .t 9]),
   ⟨(some 11), (.ld false 1), [.t 10], .sh, none, none⟩,
    (op 12 (.bin .geq) [.t 8, .t 11]),
    (op 13 (.call 138) [.t 12]),
    (op 14 (.bin .add) [.t 7, .t 13]),
    (mv 2 14)] [7, 8, 9, 10, 11, 12, 13, 14, 3, 0]) <|
   .ret }

/- internal/strconv.formatBase10 -/
def L124_0 : ACode :=
   .loop [19, 20, 21, 22, 23, 5, 24, 25, 26, 27, 28, 29, 6, 7, 30, 31, 32, 33, 34, 35, 8, 9, 36, 37, 38, 39, 40, 41, 10, 11, 42, 43, 44, 45, 46, 47, 48, 49, 50, 51, 52, 53, 54, 55, 56, 57, 58, 59, 60, 61, 62, 63, 64, 65, 66, 67, 68, 69, 70, 71, 72, 73, 74, 75, 76, 77, 78, 79, 80, 81, 82, 83, 84, 85, 86, 87, 88, 89, 90, 91, 92, 93, 94, 95] (.seq (.seq (.reg false [] [
    (mv 19 4),
    (op 20 (.bin .geq) [.t 19, .c (.int .i64 8)])] [19]) <|
   .cond (.t 20) (.skip)
    (.exit 0)) <|
   .block 1 (.seq (.reg false [] [
    (mv 21 1),
    (op 22 (.bin .rem) [.t 21, .c (.int .u64 100000000)]),
    (op 23 (.cvi .u32) [.t 22]),
    (mv 5 23)] [21, 22, 23]) <|
   .seq (.reg false [] [
    (mv 24 1),
    (op 25 (.bin .quo) [.t 24, .c (.int .u64 100000000)]),
    (mv 1 25)] [24, 25]) <|
   .seq (.reg false [] [
    (mv 26 5),
    (op 27 (.bin .quo) [.t 26, .c (.int .u32 10000)]),
    (mv 28 5),
    (op 29 (.bin .rem) [.t 28, .c (.int .u32 10000)]),
    (mv 6 27),
    (mv 7 29)] [26, 27, 28, 29, 5]) <|
   .seq (.reg false [] [
    (mv 30 7),
    (op 31 (.bin .quo) [.t 30, .c (.int .u32 100)]),
    (op 32 (.bin .mul) [.t 31, .c (.int .u32 2)]),
    (mv 33 7),
    (op 34 (.bin .rem) [.t 33, .c (.int .u32 100)]),
    (op 35 (.bin .mul) [.t 34, .c (.int .u32 2)]),
    (mv 8 32),
    (mv 9 35)] [30, 31, 32, 33, 34, 35, 7]) <|
   .seq (.reg false [] [
    (mv 36 6),
    (op 37 (.bin .quo) [.t 36, .c (.int .u32 100)]),
    (op 38 (.bin .mul) [.t 37, .c (.int .u32 2)]),
    (mv 39 6),
    (op 40 (.bin .rem) [.t 39, .c (.int .u32 100)]),
    (op 41 (.bin .mul) [.t 40, .c (.int .u32 2)]),
    (mv 10 38),
    (mv 11 41)] [36, 37, 38, 39, 40, 41, 6]) <|
   .seq (.reg true [] [
    (mv 42 0),
    (mv 43 4),
    (op 44 (.bin .sub) [.t 43, .c (.int .i64 1)]),
    (mv 45 0),
    (mv 46 4),
    (op 47 (.bin .sub) [.t 46, .c (.int .i64 2)]),
    (mv 48 9),
    (op 49 (.bin .add) [.t 48, .c (.int .u32 1)]),
    (op 50 .ixs [.c (.str [48, 48, 48, 49, 48, 50, 48, 51, 48, 52, 48, 53, 48, 54, 48, 55, 48, 56, 48, 57, 49, 48, 49, 49, 49, 50, 49, 51, 49, 52, 49, 53, 49, 54, 49, 55, 49, 56, 49, 57, 50, 48, 50, 49, 50, 50, 50, 51, 50, 52, 50, 53, 50, 54, 50, 55, 50, 56, 50, 57, 51, 48, 51, 49, 51, 50, 51, 51, 51, 52, 51, 53, 51, 54, 51, 55, 51, 56, 51, 57, 52, 48, 52, 49, 52, 50, 52, 51, 52, 52, 52, 53, 52, 54, 52, 55, 52, 56, 52, 57, 53, 48, 53, 49, 53, 50, 53, 51, 53, 52, 53, 53, 53, 54, 53, 55, 53, 56, 53, 57, 54, 48, 54, 49, 54, 50, 54, 51, 54, 52, 54, 53, 54, 54, 54, 55, 54, 56, 54, 57, 55, 48, 55, 49, 55, 50, 55, 51, 55, 52, 55, 53, 55, 54, 55, 55, 55, 56, 55, 57, 56, 48, 56, 49, 56, 50, 56, 51, 56, 52, 56, 53, 56, 54, 56, 55, 56, 56, 56, 57, 57, 48, 57, 49, 57, 50, 57, 51, 57, 52, 57, 53, 57, 54, 57, 55, 57, 56, 57, 57]), .t 49]),
    (mv 51 9),
    (op 52 .ixs [.c (.str [48, 48, 48, 49, 48, 50, 48, 51, 48, 52, 48, 53, 48, 54, 48, 55, 48, 56, 48, 57, 49, 48, 49, 49, 49, 50, 49, 51, 49, 52, 49, 53, 49, 54, 49, 55, 49, 56, 49, 57, 50, 48, 50, 49, 50, 50, 50, 51, 50, 52, 50, 53, 50, 54, 50, 55, 50, 56, 50, 57, 51, 48, 51, 49, 51, 50, 51, 51, 51, 52, 51, 53, 51, 54, 51, 55, 51, 56, 51, 57, 52, 48, 52, 49, 52, 50, 52, 51, 52, 52, 52, 53, 52, 54, 52, 55, 52, 56, 52, 57, 53, 48, 53, 49, 53, 50, 53, 51, 53, 52, 53, 53, 53, 54, 53, 55, 53, 56, 53, 57, 54, 48, 54, 49, 54, 50, 54, 51, 54, 52, 54, 53, 54, 54, 54, 55, 54, 56, 54, 57, 55, 48, 55, 49, 55, 50, 55, 51, 55, 52, 55, 53, 55, 54, 55, 55, 55, 56, 55, 57, 56, 48, 56, 49, 56, 50, 56, 51, 56, 52, 56, 53, 56, 54, 56, 55, 56, 56, 56, 57, 57, 48, 57, 49, 57, 50, 57, 51, 57, 52, 57, 53, 57, 54, 57, 55, 57, 56, 57, 57]), .t 51]),
    (op 53 (.ia 1) [.t 42, .t 44]),
   ⟨none, (.st 1), [.t 53, .t 50], .sh, none, none⟩,
    (op 54 (.ia 1) [.t 45, .t 47]),
   ⟨none, (.st 1), [.t 54, .t 52], .sh, none, none⟩] [42, 43, 44, 45, 46, 47, 48, 49, 50, 51, 52, 53, 54, 9]) <|
   .seq (.reg true [] [
    (mv 55 0),
    (mv 56 4),
    (op 57 (.bin .sub) [.t 56, .c (.int .i64 3)]),
    (mv 58 0),
    (mv 59 4),
    (op 60 (.bin .sub) [.t 59, .c (.int .i64 4)]),
    (mv 61 8),
    (op 62 (.bin .add) [.t 61, .c (.int .u32 1)]),
    (op 63 .ixs [.c (.str [48, 48, 48, 49, 48, 50, 48, 51, 48, 52, 48, 53, 48, 54, 48, 55, 48, 56, 48, 57, 49, 48, 49, 49, 49, 50, 49, 51, 49, 52, 49, 53, 49, 54, 49, 55, 49, 56, 49, 57, 50, 48, 50, 49, 50, 50, 50, 51, 50, 52, 50, 53, 50, 54, 50, 55, 50, 56, 50, 57, 51, 48, 51, 49, 51, 50, 51, 51, 51, 52, 51, 53, 51, 54, 51, 55, 51, 56, 51, 57, 52, 48, 52, 49, 52, 50, 52, 51, 52, 52, 52, 53, 52, 54, 52, 55, 52, 56, 52, 57, 53, 48, 53, 49, 53, 50, 53, 51, 53, 52, 53, 53, 53, 54, 53, 55, 53, 56, 53, 57, 54, 48, 54, 49, 54, 50, 54, 51, 54, 52, 54, 53, 54, 54, 54, 55, 54, 56, 54, 57, 55, 48, 55, 49, 55, 50, 55, 51, 55, 52, 55, 53, 55, 54, 55, 55, 55, 56, 55, 57, 56, 48, 56, 49, 56, 50, 56, 51, 56, 52, 56, 53, 56, 54, 56, 55, 56, 56, 56, 57, 57, 48, 57, 49, 57, 50, 57, 51, 57, 52, 57, 53, 57, 54, 57, 55, 57, 56, 57, 57]), .t 62]),
    (mv 64 8),
    (op 65 .ixs [.c (.str [48, 48, 48, 49, 48, 50, 48, 51, 48, 52, 48, 53, 48, 54, 48, 55, 48, 56, 48, 57, 49, 48, 49, 49, 49, 50, 49, 51, 49, 52, 49, 53, 49, 54, 49, 55, 49, 56, 49, 57, 50, 48, 50, 49, 50, 50, 50, 51, 50, 52, 50, 53, 50, 54, 50, 55, 50, 56, 50, 57, 51, 48, 51, 49, 51, 50, 51, 51, 51, 52, 51, 53, 51, 54, 51, 55, 51, 56, 51, 57, 52, 48, 52, 49, 52, 50, 52, 51, 52, 52, 52, 53, 52, 54, 52, 55, 52, 56, 52, 57, 53, 48, 53, 49, 53, 50, 53, 51, 53, 52, 53, 53, 53, 54, 53, 55, 53, 56, 53, 57, 54, 48, 54, 49, 54, 50, 54, 51, 54, 52, 54, 53, 54, 54, 54, 55, 54, 56, 54, 57, 55, 48, 55, 49, 55, 50, 55, 51, 55, 52, 55, 53, 55, 54, 55, 55, 55, 56, 55, 57, 56, 48, 56, 49, 56, 50, 56, 51, 56, 52, 56, 53, 56, 54, 56, 55, 56, 56, 56, 57, 57, 48, 57, 49, 57, 50, 57, 51, 57, 52, 57, 53, 57, 54, 57, 55, 57, 56, 57, 57]), .t 64]),
    (op 66 (.ia 1) [.t 55, .t 57]),
   ⟨none, (.st 1), [.t 66, .t 63], .sh, none, none⟩,
    (op 67 (.ia 1) [.t 58, .t 60]),
   ⟨none, (.st 1), [.t 67, .t 65], .sh, none, none⟩] [55, 56, 57, 58, 59, 60, 61, 62, 63, 64, 65, 66, 67, 8]) <|
   .seq (.reg true [] [
    (mv 68 0),
    (mv 69 4),
    (op 70 (.bin .sub) [.t 69, .c (.int .i64 5)]),
    (mv 71 0),
    (mv 72 4),
    (op 73 (.bin .sub) [.t 72, .c (.int .i64 6)]),
    (mv 74 11),
    (op 75 (.bin .add) [.t 74, .c (.int .u32 1)]),
    (op 76 .ixs [.c (.str [48, 48, 48, 49, 48, 50, 48, 51, 48, 52, 48, 53, 48, 54, 48, 55, 48, 56, 48, 57, 49, 48, 49, 49, 49, 50, 49, 51, 49, 52, 49, 53, 49, 54, 49, 55, 49, 56, 49, 57, 50, 48, 50, 49, 50, 50, 50, 51, 50, 52, 50, 53, 50, 54, 50, 55, 50, 56, 50, 57, 51, 48, 51, 49, 51, 50, 51, 51, 51, 52, 51, 53, 51, 54, 51, 55, 51, 56, 51, 57, 52, 48, 52, 49, 52, 50, 52, 51, 52, 52, 52, 53, 52, 54, 52, 55, 52, 56, 52, 57, 53, 48, 53, 49, 53, 50, 53, 51, 53, 52, 53, 53, 53, 54, 53, 55, 53, 56, 53, 57, 54, 48, 54, 49, 54, 50, 54, 51, 54, 52, 54, 53, 54, 54, 54, 55, 54, 56, 54, 57, 55, 48, 55, 49, 55, 50, 55, 51, 55, 52, 55, 53, 55, 54, 55, 55, 55, 56, 55, 57, 56, 48, 56, 49, 56, 50, 56, 51, 56, 52, 56, 53, 56, 54, 56, 55, 56, 56, 56, 57, 57, 48, 57, 49, 57, 50, 57, 51, 57, 52, 57, 53, 57, 54, 57, 55, 57, 56, 57, 57]), .t 75]),
    (mv 77 11),
    (op 78 .ixs [.c (.str [48, 48, 48, 49, 48, 50, 48, 51, 48, 52, 48, 53, 48, 54, 48, 55, 48, 56, 48, 57, 49, 48, 49, 49, 49, 50, 49, 51, 49, 52, 49, 53, 49, 54, 49, 55, 49, 56, 49, 57, 50, 48, 50, 49, 50, 50, 50, 51, 50, 52, 50, 53, 50, 54, 50, 55, 50, 56, 50, 57, 51, 48, 51, 49, 51, 50, 51, 51, 51, 52, 51, 53, 51, 54, 51, 55, 51, 56, 51, 57, 52, 48, 52, 49, 52, 50, 52, 51, 52, 52, 52, 53, 52, 54, 52, 55, 52, 56, 52, 57, 53, 48, 53, 49, 53, 50, 53, 51, 53, 52, 53, 53, 53, 54, 53, 55, 53, 56, 53, 57, 54, 48, 54, 49, 54, 50, 54, 51, 54, 52, 54, 53, 54, 54, 54, 55, 54, 56, 54, 57, 55, 48, 55, 49, 55, 50, 55, 51, 55, 52, 55, 53, 55, 54, 55, 55, 55, 56, 55, 57, 56, 48, 56, 49, 56, 50, 56, 51, 56, 52, 56, 53, 56, 54, 56, 55, 56, 56, 56, 57, 57, 48, 57, 49, 57, 50, 57, 51, 57, 52, 57, 53, 57, 54, 57, 55, 57, 56, 57, 57]), .t 77]),
    (op 79 (.ia 1) [.t 68, .t 70]),
   ⟨none, (.st 1), [.t 79, .t 76], .sh, none, none⟩,
    (op 80 (.ia 1) [.t 71, .t 73]),
   ⟨none, (.st 1), [.t 80, .t 78], .sh, none, none⟩] [68, 69, 70, 71, 72, 73, 74, 75, 76, 77, 78, 79, 80, 11]) <|
   .seq (.reg true [] [
    (mv 81 0),
    (mv 82 4),
    (op 83 (.bin .sub) [.t 82, .c (.int .i64 7)]),
    (mv 84 0),
    (mv 85 4),
    (op 86 (.bin .sub) [.t 85, .c (.int .i64 8)]),
    (mv 87 10),
    (op 88 (.bin .add) [.t 87, .c (.int .u32 1)]),
    (op 89 .ixs [.c (.str [48, 48, 48, 49, 48, 50, 48, 51, 48, 52, 48, 53, 48, 54, 48, 55, 48, 56, 48, 57, 49, 48, 49, 49, 49, 50, 49, 51, 49, 52, 49, 53, 49, 54, 49, 55, 49, 56, 49, 57, 50, 48, 50, 49, 50, 50, 50, 51, 50, 52, 50, 53, 50, 54, 50, 55, 50, 56, 50, 57, 51, 48, 51, 49, 51, 50, 51, 51, 51, 52, 51, 53, 51, 54, 51, 55, 51, 56, 51, 57, 52, 48, 52, 49, 52, 50, 52, 51, 52, 52, 52, 53, 52, 54, 52, 55, 52, 56, 52, 57, 53, 48, 53, 49, 53, 50, 53, 51, 53, 52, 53, 53, 53, 54, 53, 55, 53, 56, 53, 57, 54, 48, 54, 49, 54, 50, 54, 51, 54, 52, 54, 53, 54, 54, 54, 55, 54, 56, 54, 57, 55, 48, 55, 49, 55, 50, 55, 51, 55, 52, 55, 53, 55, 54, 55, 55, 55, 56, 55, 57, 56, 48, 56, 49, 56, 50, 56, 51, 56, 52, 56, 53, 56, 54, 56, 55, 56, 56, 56, 57, 57, 48, 57, 49, 57, 50, 57, 51, 57, 52, 57, 53, 57, 54, 57, 55, 57, 56, 57, 57]), .t 88]),
    (mv 90 10),
    (op 91 .ixs [.c (.str [48, 48, 48, 49, 48, 50, 48, 51, 48, 52, 48, 53, 48, 54, 48, 55, 48, 56, 48, 57, 49, 48, 49, 49, 49, 50, 49, 51, 49, 52, 49, 53, 49, 54, 49, 55, 49, 56, 49, 57, 50, 48, 50, 49, 50, 50, 50, 51, 50, 52, 50, 53, 50, 54, 50, 55, 50, 56, 50, 57, 51, 48, 51, 49, 51, 50, 51, 51, 51, 52, 51, 53, 51, 54, 51, 55, 51, 56, 51, 57, 52, 48, 52, 49, 52, 50, 52, 51, 52, 52, 52, 53, 52, 54, 52, 55, 52, 56, 52, 57, 53, 48, 53, 49, 53, 50, 53, 51, 53, 52, 53, 53, 53, 54, 53, 55, 53, 56, 53, 57, 54, 48, 54, 49, 54, 50, 54, 51, 54, 52, 54, 53, 54, 54, 54, 55, 54, 56, 54, 57, 55, 48, 55, 49, 55, 50, 55, 51, 55, 52, 55, 53, 55, 54, 55, 55, 55, 56, 55, 57, 56, 48, 56, 49, 56, 50, 56, 51, 56, 52, 56, 53, 56, 54, 56, 55, 56, 56, 56, 57, 57, 48, 57, 49, 57, 50, 57, 51, 57, 52, 57, 53, 57, 54, 57, 55, 57, 56, 57, 57]), .t 90]),
    (op 92 (.ia 1) [.t 81, .t 83]),
   ⟨none, (.st 1), [.t 92, .t 89], .sh, none, none⟩,
    (op 93 (.ia 1) [.t 84, .t 86]),
   ⟨none, (.st 1), [.t 93, .t 91], .sh, none, none⟩] [81, 82, 83, 84, 85, 86, 87, 88, 89, 90, 91, 92, 93, 10]) <|
   .reg false [] [
    (mv 94 4),
    (op 95 (.bin .sub) [.t 94, .c (.int .i64 8)]),
    (mv 4 95)] [94, 95]))
def F124 : AFun :=
 { nargs := 2, keep := false, res := [], body :=
   .seq (.reg false [] [
    (mv 17 0),
    (op 18 (.len false) [.t 17]),
    (mv 4 18)] [17, 18]) <|
   .seq (.block 0 (L124_0)) <|
   .seq (.reg false [] [
    (mv 96 1),
    (op 97 (.cvi .u32) [.t 96]),
    (mv 12 97)] [96, 97, 1]) <|
   .seq (.seq (.reg false [] [
    (mv 98 4),
    (op 99 (.bin .geq) [.t 98, .c (.int .i64 4)])] [98]) <|
   .cond (.t 99) (.seq (.reg false [] [
    (mv 100 12),
    (op 101 (.bin .rem) [.t 100, .c (.int .u32 10000)]),
    (mv 13 101)] [100, 101]) <|
   .seq (.reg false [] [
    (mv 102 12),
    (op 103 (.bin .quo) [.t 102, .c (.int .u32 10000)]),
    (mv 12 103)] [102, 103]) <|
   .seq (.reg false [] [
    (mv 104 13),
    (op 105 (.bin .quo) [.t 104, .c (.int .u32 100)]),
    (op 106 (.bin .mul) [.t 105, .c (.int .u32 2)]),
    (mv 107 13),
    (op 108 (.bin .rem) [.t 107, .c (.int .u32 100)]),
    (op 109 (.bin .mul) [.t 108, .c (.int .u32 2)]),
    (mv 14 106),
    (mv 15 109)] [104, 105, 106, 107, 108, 109, 13]) <|
   .seq (.reg true [] [
    (mv 110 0),
    (mv 111 4),
    (op 112 (.bin .sub) [.t 111, .c (.int .i64 1)]),
    (mv 113 0),
    (mv 114 4),
    (op 115 (.bin .sub) [.t 114, .c (.int .i64 2)]),
    (mv 116 15),
    (op 117 (.bin .add) [.t 116, .c (.int .u32 1)]),
    (op 118 .ixs [.c (.str [48, 48, 48, 49, 48, 50, 48, 51, 48, 52, 48, 53, 48, 54, 48, 55, 48, 56, 48, 57, 49, 48, 49, 49, 49, 50, 49, 51, 49, 52, 49, 53, 49, 54, 49, 55, 49, 56, 49, 57, 50, 48, 50, 49, 50, 50, 50, 51, 50, 52, 50, 53, 50, 54, 50, 55, 50, 56, 50, 57, 51, 48, 51, 49, 51, 50, 51, 51, 51, 52, 51, 53, 51, 54, 51, 55, 51, 56, 51, 57, 52, 48, 52, 49, 52, 50, 52, 51, 52, 52, 52, 53, 52, 54, 52, 55, 52, 56, 52, 57, 53, 48, 53, 49, 53, 50, 53, 51, 53, 52, 53, 53, 53, 54, 53, 55, 53, 56, 53, 57, 54, 48, 54, 49, 54, 50, 54, 51, 54, 52, 54, 53, 54, 54, 54, 55, 54, 56, 54, 57, 55, 48, 55, 49, 55, 50, 55, 51, 55, 52, 55, 53, 55, 54, 55, 55, 55, 56, 55, 57, 56, 48, 56, 49, 56, 50, 56, 51, 56, 52, 56, 53, 56, 54, 56, 55, 56, 56, 56, 57, 57, 48, 57, 49, 57, 50, 57, 51, 57, 52, 57, 53, 57, 54, 57, 55, 57, 56, 57, 57]), .t 117]),
    (mv 119 15),
    (op 120 .ixs [.c (.str [48, 48, 48, 49, 48, 50, 48, 51, 48, 52, 48, 53, 48, 54, 48, 55, 48, 56, 48, 57, 49, 48, 49, 49, 49, 50, 49, 51, 49, 52, 49, 53, 49, 54, 49, 55, 49, 56, 49, 57, 50, 48, 50, 49, 50, 50, 50, 51, 50, 52, 50, 53, 50, 54, 50, 55, 50, 56, 50, 57, 51, 48, 51, 49, 51, 50, 51, 51, 51, 52, 51, 53, 51, 54, 51, 55, 51, 56, 51, 57, 52, 48, 52, 49, 52, 50, 52, 51, 52, 52, 52, 53, 52, 54, 52, 55, 52, 56, 52, 57, 53, 48, 53, 49, 53, 50, 53, 51, 53, 52, 53, 53, 53, 54, 53, 55, 53, 56, 53, 57, 54, 48, 54, 49, 54, 50, 54, 51, 54, 52, 54, 53, 54, 54, 54, 55, 54, 56, 54, 57, 55, 48, 55, 49, 55, 50, 55, 51, 55, 52, 55, 53, 55, 54, 55, 55, 55, 56, 55, 57, 56, 48, 56, 49, 56, 50, 56, 51, 56, 52, 56, 53, 56, 54, 56, 55, 56, 56, 56, 57, 57, 48, 57, 49, 57, 50, 57, 51, 57, 52, 57, 53, 57, 54, 57, 55, 57, 56, 57, 57]), .t 119]),
    (op 121 (.ia 1) [.t 110, .t 112]),
   ⟨none, (.st 1), [.t 121, .t 118], .sh, none, none⟩,
    (op 122 (.ia 1) [.t 113, .t 115]),
   ⟨none, (.st 1), [.t 122, .t 120], .sh, none, none⟩] [110, 111, 112, 113, 114, 115, 116, 117, 118, 119, 120, 121, 122, 15]) <|
   .seq (.reg true [] [
    (mv 123 0),
    (mv 124 4),
    (op 125 (.bin .sub) [.t 124, .c (.int .i64 3)]),
    (mv 126 0),
    (mv 127 4),
    (op 128 (.bin .sub) [.t 127, .c (.int .i64 4)]),
    (mv 129 14),
    (op 130 (.bin .add) [.t 129, .c (.int .u32 1)]),
    (op 131 .ixs [.c (.str [48, 48, 48, 49, 48, 50, 48, 51, 48, 52, 48, 53, 48, 54, 48, 55, 48, 56, 48, 57, 49, 48, 49, 49, 49, 50, 49, 51, 49, 52, 49, 53, 49, 54, 49, 55, 49, 56, 49, 57, 50, 48, 50, 49, 50, 50, 50, 51, 50, 52, 50, 53, 50, 54, 50, 55, 50, 56, 50, 57, 51, 48, 51, 49, 51, 50, 51, 51, 51, 52, 51, 53, 51, 54, 51, 55, 51, 56, 51, 57, 52, 48, 52, 49, 52, 50, 52, 51, 52, 52, 52, 53, 52, 54, 52, 55, 52, 56, 52, 57, 53, 48, 53, 49, 53, 50, 53, 51, 53, 52, 53, 53, 53, 54, 53, 55, 53, 56, 53, 57, 54, 48, 54, 49, 54, 50, 54, 51, 54, 52, 54, 53, 54, 54, 54, 55, 54, 56, 54, 57, 55, 48, 55, 49, 55, 50, 55, 51, 55, 52, 55, 53, 55, 54, 55, 55, 55, 56, 55, 57, 56, 48, 56, 49, 56, 50, 56, 51, 56, 52, 56, 53, 56, 54, 56, 55, 56, 56, 56, 57, 57, 48, 57, 49, 57, 50, 57, 51, 57, 52, 57, 53, 57, 54, 57, 55, 57, 56, 57, 57]), .t 130]),
    (mv 132 14),
    (op 133 .ixs [.c (.str [48, 48, 48, 49, 48, 50, 48, 51, 48, 52, 48, 53, 48, 54, 48, 55, 48, 56, 48, 57, 49, 48, 49, 49, 49, 50, 49, 51, 49, 52, 49, 53, 49, 54, 49, 55, 49, 56, 49, 57, 50, 48, 50, 49, 50, 50, 50, 51, 50, 52, 50, 53, 50, 54, 50, 55, 50, 56, 50, 57, 51, 48, 51, 49, 51, 50, 51, 51, 51, 52, 51, 53, 51, 54, 51, 55, 51, 56, 51, 57, 52, 48, 52, 49, 52, 50, 52, 51, 52, 52, 52, 53, 52, 54, 52, 55, 52, 56, 52, 57, 53, 48, 53, 49, 53, 50, 53, 51, 53, 52, 53, 53, 53, 54, 53, 55, 53, 56, 53, 57, 54, 48, 54, 49, 54, 50, 54, 51, 54, 52, 54, 53, 54, 54, 54, 55, 54, 56, 54, 57, 55, 48, 55, 49, 55, 50, 55, 51, 55, 52, 55, 53, 55, 54, 55, 55, 55, 56, 55, 57, 56, 48, 56, 49, 56, 50, 56, 51, 56, 52, 56, 53, 56, 54, 56, 55, 56, 56, 56, 57, 57, 48, 57, 49, 57, 50, 57, 51, 57, 52, 57, 53, 57, 54, 57, 55, 57, 56, 57, 57]), .t 132]),
    (op 134 (.ia 1) [.t 123, .t 125]),
   ⟨none, (.st 1), [.t 134, .t 131], .sh, none, none⟩,
    (op 135 (.ia 1) [.t 126, .t 128]),
   ⟨none, (.st 1), [.t 135, .t 133], .sh, none, none⟩] [123, 124, 125, 126, 127, 128, 129, 130, 131, 132, 133, 134, 135, 14]) <|
   .reg false [] [
    (mv 136 4),
    (op 137 (.bin .sub) [.t 136, .c (.int .i64 4)]),
    (mv 4 137)] [136, 137])
    (.skip)) <|
   .seq (.seq (.reg false [] [
    (mv 138 4),
    (op 139 (.bin .geq) [.t 138, .c (.int .i64 2)])] [138]) <|
   .cond (.t 139) (.seq (.reg false [] [
    (mv 140 12),
    (op 141 (.bin .rem) [.t 140, .c (.int .u32 100)]),
    (op 142 (.bin .mul) [.t 141, .c (.int .u32 2)]),
    (mv 16 142)] [140, 141, 142]) <|
   .seq (.reg false [] [
    (mv 143 12),
    (op 144 (.bin .quo) [.t 143, .c (.int .u32 100)]),
    (mv 12 144)] [143, 144]) <|
   .seq (.reg true [] [
    (mv 145 0),
    (mv 146 4),
    (op 147 (.bin .sub) [.t 146, .c (.int .i64 1)]),
    (mv 148 0),
    (mv 149 4),
    (op 150 (.bin .sub) [.t 149, .c (.int .i64 2)]),
    (mv 151 16),
    (op 152 (.bin .add) [.t 151, .c (.int .u32 1)]),
    (op 153 .ixs [.c (.str [48, 48, 48, 49, 48, 50, 48, 51, 48, 52, 48, 53, 48, 54, 48, 55, 48, 56, 48, 57, 49, 48, 49, 49, 49, 50, 49, 51, 49, 52, 49, 53, 49, 54, 49, 55, 49, 56, 49, 57, 50, 48, 50, 49, 50, 50, 50, 51, 50, 52, 50, 53, 50, 54, 50, 55, 50, 56, 50, 57, 51, 48, 51, 49, 51, 50, 51, 51, 51, 52, 51, 53, 51, 54, 51, 55, 51, 56, 51, 57, 52, 48, 52, 49, 52, 50, 52, 51, 52, 52, 52, 53, 52, 54, 52, 55, 52, 56, 52, 57, 53, 48, 53, 49, 53, 50, 53, 51, 53, 52, 53, 53, 53, 54, 53, 55, 53, 56, 53, 57, 54, 48, 54, 49, 54, 50, 54, 51, 54, 52, 54, 53, 54, 54, 54, 55, 54, 56, 54, 57, 55, 48, 55, 49, 55, 50, 55, 51, 55, 52, 55, 53, 55, 54, 55, 55, 55, 56, 55, 57, 56, 48, 56, 49, 56, 50, 56, 51, 56, 52, 56, 53, 56, 54, 56, 55, 56, 56, 56, 57, 57, 48, 57, 49, 57, 50, 57, 51, 57, 52, 57, 53, 57, 54, 57, 55, 57, 56, 57, 57]), .t 152]),
    (mv 154 16),
    (op 155 .ixs [.c (.str [48, 48, 48, 49, 48, 50, 48, 51, 48, 52, 48, 53, 48, 54, 48, 55, 48, 56, 48, 57, 49, 48, 49, 49, 49, 50, 49, 51, 49, 52, 49, 53, 49, 54, 49, 55, 49, 56, 49, 57, 50, 48, 50, 49, 50, 50, 50, 51, 50, 52, 50, 53, 50, 54, 50, 55, 50, 56, 50, 57, 51, 48, 51, 49, 51, 50, 51, 51, 51, 52, 51, 53, 51, 54, 51, 55, 51, 56, 51, 57, 52, 48, 52, 49, 52, 50, 52, 51, 52, 52, 52, 53, 52, 54, 52, 55, 52, 56, 52, 57, 53, 48, 53, 49, 53, 50, 53, 51, 53, 52, 53, 53, 53, 54, 53, 55, 53, 56, 53, 57, 54, 48, 54, 49, 54, 50, 54, 51, 54, 52, 54, 53, 54, 54, 54, 55, 54, 56, 54, 57, 55, 48, 55, 49, 55, 50, 55, 51, 55, 52, 55, 53, 55, 54, 55, 55, 55, 56, 55, 57, 56, 48, 56, 49, 56, 50, 56, 51, 56, 52, 56, 53, 56, 54, 56, 55, 56, 56, 56, 57, 57, 48, 57, 49, 57, 50, 57, 51, 57, 52, 57, 53, 57, 54, 57, 55, 57, 56, 57, 57]), .t 154]),
    (op 156 (.ia 1) [.t 145, .t 147]),
   ⟨none, (.st 1), [.t 156, .t 153], .sh, none, none⟩,
    (op 157 (.ia 1) [.t 148, .t 150]),
   ⟨none, (.st 1), [.t 157, .t 155], .sh, none, none⟩] [145, 146, 147, 148, 149, 150, 151, 152, 153, 154, 155, 156, 157, 16]) <|
   .reg false [] [
    (mv 158 4),
    (op 159 (.bin .sub) [.t 158, .c (.int .i64 2)]),
    (mv 4 159)] [158, 159])
    (.skip)) <|
   .seq (.reg false [] [
    (mv 160 4),
    (op 161 (.bin .gtr) [.t 160, .c (.int .i64 0)])] [160, 4]) <|
   .cond (.t 161) (.reg false [] [
    (mv 162 0),
    (mv 163 12),
    (op 164 (.bin .add) [.c (.int .u32 48), .t 163]),
    (op 165 (.cvi .u8) [.t 164]),
    (op 166 (.ia 1) [.t 162, .c (.int .i64 0)]),
   ⟨none, (.st 1), [.t 166, .t 165], .sh, none, none⟩] [162, 163, 164, 165, 166, 0, 12])
    (.skip) }

/- internal/stringslite.Cut -/
def F128 : AFun :=
 { nargs := 2, keep := false, res := [.tmp 4, .tmp 5, .tmp 6], body :=
   .seq (.reg false [] [
    (op 4 .mv [.c (.str [])]),
    (op 5 .mv [.c (.str [])]),
    (op 6 .mv [.c (.bool false)])] [4, 5, 6]) <|
   .seq (.seq (.reg false [] [
    (mv 8 0),
    (mv 9 1),
    (op 10 (.call 141) [.t 8, .t 9]),
    (mv 7 10)] [8, 9, 10]) <|
   .seq (.reg false [] [
    (mv 11 7),
    (op 12 (.bin .geq) [.t 11, .c (.int .i64 0)])] [11]) <|
   .cond (.t 12) (.seq (.reg true [] [
    (mv 13 0),
    (mv 14 7),
    (op 15 (.slc true 0 false true) [.t 13, .t 14]),
    (mv 16 0),
    (mv 17 7),
    (mv 18 1),
    (op 19 (.len true) [.t 18]),
    (op 20 (.bin .add) [.t 17, .t 19]),
    (op 21 (.slc true 0 true false) [.t 16, .t 20]),
    (mv 4 15),
    (mv 5 21),
    (op 6 .mv [.c (.bool true)])] [13, 14, 15, 16, 17, 18, 19, 20, 21, 0, 7, 1]) <|
   .ret)
    (.skip)) <|
   .seq (.reg false [] [
    (mv 22 0),
    (mv 4 22),
    (op 5 .mv [.c (.str [])]),
    (op 6 .mv [.c (.bool false)])] [22, 0]) <|
   .ret }

/- internal/strconv.log10Pow2 -/
def F136 : AFun :=
 { nargs := 1, keep := false, res := [.tmp 2], body :=
   .seq (.reg false [] [(op 2 .mv [.c (.int .i64 0)])] [2]) <|
   .seq (.reg false [] [
    (mv 3 0),
    (op 4 (.bin .mul) [.t 3, .c (.int .i64 78913)]),
    (op 5 (.shf false) [.t 4, .c (.int .u64 18)]),
    (mv 2 5)] [3, 4, 5, 0]) <|
   .ret }

/- math/bits.Len64 -/
def F137 : AFun :=
 { nargs := 1, keep := false, res := [.tmp 2], body :=
   .seq (.reg false [] [(op 2 .mv [.c (.int .i64 0)])] []) <|
   .seq (.seq (.reg false [] [
    (mv 3 0),
    (op 4 (.bin .geq) [.t 3, .c (.int .u64 4294967296)])] [3]) <|
   .cond (.t 4) (.seq (.reg false [] [
    (mv 5 0),
    (op 6 (.shf false) [.t 5, .c (.int .u64 32)]),
    (mv 0 6)] [5, 6]) <|
   .reg false [] [(op 2 .mv [.c (.int .i64 32)])] [])
    (.skip)) <|
   .seq (.seq (.reg false [] [
    (mv 7 0),
    (op 8 (.bin .geq) [.t 7, .c (.int .u64 65536)])] [7]) <|
   .cond (.t 8) (.seq (.reg false [] [
    (mv 9 0),
    (op 10 (.shf false) [.t 9, .c (.int .u64 16)]),
    (mv 0 10)] [9, 10]) <|
   .reg false [] [
    (mv 11 2),
    (op 12 (.bin .add) [.t 11, .c (.int .i64 16)]),
    (mv 2 12)] [11, 12])
    (.skip)) <|
   .seq (.seq (.reg false [] [
    (mv 13 0),
    (op 14 (.bin .geq) [.t 13, .c (.int .u64 256)])] [13]) <|
   .cond (.t 14) (.seq (.reg false [] [
    (mv 15 0),
    (op 16 (.shf false) [.t 15, .c (.int .u64 8)]),
    (mv 0 16)] [15, 16]) <|
   .reg false [] [
    (mv 17 2),
    (op 18 (.bin .add) [.t 17, .c (.int .i64 8)]),
    (mv 2 18)] [17, 18])
    (.skip)) <|
   .seq (.reg false [] [
    (mv 19 2),
    (mv 20 0),
    (op 21 (.cvi .u8) [.t 20]),
    (op 22 .ixs [.c (.str [0, 1, 2, 2, 3, 3, 3, 3, 4, 4, 4, 4, 4, 4, 4, 4, 5, 5, 5, 5, 5, 5, 5, 5, 5, 5, 5, 5, 5, 5, 5, 5, 6, 6, 6, 6, 6, 6, 6, 6, 6, 6, 6, 6, 6, 6, 6, 6, 6, 6, 6, 6, 6, 6, 6, 6, 6, 6, 6, 6, 6, 6, 6, 6, 7, 7, 7, 7, 7, 7, 7, 7, 7, 7, 7, 7, 7, 7, 7, 7, 7, 7, 7, 7, 7, 7, 7, 7, 7, 7, 7, 7, 7, 7, 7, 7, 7, 7, 7, 7, 7, 7, 7, 7, 7, 7, 7, 7, 7, 7, 7, 7, 7, 7, 7, 7, 7, 7, 7, 7, 7, 7, 7, 7, 7, 7, 7, 7, 8, 8, 8, 8, 8, 8, 8, 8, 8, 8, 8, 8, 8, 8, 8, 8, 8, 8, 8, 8, 8, 8, 8, 8, 8, 8, 8, 8, 8, 8, 8, 8, 8, 8, 8, 8, 8, 8, 8, 8, 8, 8, 8, 8, 8, 8, 8, 8, 8, 8, 8, 8, 8, 8, 8, 8, 8, 8, 8, 8, 8, 8, 8, 8, 8, 8, 8, 8, 8, 8, 8, 8, 8, 8, 8, 8, 8, 8, 8, 8, 8, 8, 8, 8, 8, 8, 8, 8, 8, 8, 8, 8, 8, 8, 8, 8, 8, 8, 8, 8, 8, 8, 8, 8, 8, 8, 8, 8, 8, 8, 8, 8, 8, 8, 8, 8, 8, 8, 8, 8, 8, 8, 8, 8, 8, 8, 8, 8]), .t 21]),
    (op 23 (.cvi .i64) [.t 22]),
    (op 24 (.bin .add) [.t 19, .t 23]),
    (mv 2 24)] [19, 20, 21, 22, 23, 24, 0]) <|
   .ret }

/- internal/strconv.bool2[int] -/
def F138 : AFun :=
 { nargs := 1, keep := false, res := [.tmp 2], body :=
   .seq (.reg false [] [(op 2 .mv [.c (.int .i64 0)])] [2]) <|
   .seq (.seq (.reg false [] [(mv 3 0)] [0]) <|
   .cond (.t 3) (.seq (.reg false [] [(op 2 .mv [.c (.int .i64 1)])] []) <|
   .ret)
    (.skip)) <|
   .seq (.reg false [] [(op 2 .mv [.c (.int .i64 0)])] []) <|
   .ret }

/- internal/stringslite.Index -/
def L141_0 : ACode :=
   .loop [57, 58, 59, 60, 61, 62, 63, 64, 65, 66, 67, 68, 69, 70, 71, 11, 72, 73, 4, 74, 75, 76, 77, 78, 79, 80, 81, 82, 83, 84, 85, 86, 87, 88, 89, 90, 91, 92, 93, 94, 95, 96, 97, 98, 99, 100, 101, 102, 103, 104, 105, 106, 107, 108, 109, 110, 111, 112, 12, 113, 114, 115, 116, 117, 118, 119, 120, 121, 122, 123, 124, 125, 126, 127, 128, 129, 130, 131, 132, 133, 134, 135, 136, 137, 13, 138, 139, 140, 141, 142] (.seq (.seq (.reg false [] [
    (mv 57 8),
    (mv 58 9),
    (op 59 (.bin .lss) [.t 57, .t 58])] [57, 58]) <|
   .cond (.t 59) (.skip)
    (.exit 1)) <|
   .block 2 (.seq (.seq (.reg false [] [
    (mv 60 0),
    (mv 61 8),
    (op 62 .ixs [.t 60, .t 61]),
    (mv 63 6),
    (op 64 (.bin .neq) [.t 62, .t 63])] [60, 61, 62, 63]) <|
   .cond (.t 64) (.seq (.reg false [] [
    (mv 65 0),
    (mv 66 8),
    (op 67 (.bin .add) [.t 66, .c (.int .i64 1)]),
    (mv 68 9),
    (op 69 (.slc true 0 true true) [.t 65, .t 67, .t 68]),
    (mv 70 6),
    (op 71 (.call 105) [.t 69, .t 70]),
    (mv 11 71)] [65, 66, 67, 68, 69, 70, 71]) <|
   .seq (.seq (.reg false [] [
    (mv 72 11),
    (op 73 (.bin .lss) [.t 72, .c (.int .i64 0)])] [72]) <|
   .cond (.t 73) (.seq (.reg false [] [(op 4 .mv [.c (.int .i64 (-1))])] []) <|
   .ret)
    (.skip)) <|
   .reg false [] [
    (mv 74 8),
    (mv 75 11),
    (op 76 (.bin .add) [.t 75, .c (.int .i64 1)]),
    (op 77 (.bin .add) [.t 74, .t 76]),
    (mv 8 77)] [74, 75, 76, 77, 11])
    (.skip)) <|
   .seq (.seq (.reg false [] [
    (mv 78 0),
    (mv 79 8),
    (op 80 (.bin .add) [.t 79, .c (.int .i64 1)]),
    (op 81 .ixs [.t 78, .t 80]),
    (mv 82 7),
    (op 83 (.bin .eql) [.t 81, .t 82]),
    (mv 84 83),
   ⟨(some 85), .mv, [.t 0], .none, none, (some (84, true))⟩,
   ⟨(some 86), .mv, [.t 8], .none, none, (some (84, true))⟩,
   ⟨(some 87), .mv, [.t 8], .none, none, (some (84, true))⟩,
   ⟨(some 88), .mv, [.t 5], .none, none, (some (84, true))⟩,
   ⟨(some 89), (.bin .add), [.t 87, .t 88], .none, none, (some (84, true))⟩,
   ⟨(some 90), (.slc true 0 true true), [.t 85, .t 86, .t 89], .none, none, (some (84, true))⟩,
   ⟨(some 91), .mv, [.t 1], .none, none, (some (84, true))⟩,
   ⟨(some 92), (.bin .eql), [.t 90, .t 91], .none, none, (some (84, true))⟩,
    (op 93 .pick [.t 84, .t 92, .c (.bool false)])] [78, 79, 80, 81, 82, 83, 84, 85, 86, 87, 88, 89, 90, 91, 92]) <|
   .cond (.t 93) (.seq (.reg false [] [
    (mv 94 8),
    (mv 4 94)] [94, 8]) <|
   .ret)
    (.skip)) <|
   .seq (.reg false [] [
    (mv 95 8),
    (op 96 (.bin .add) [.t 95, .c (.int .i64 1)]),
    (mv 8 96)] [95, 96]) <|
   .seq (.reg false [] [
    (mv 97 10),
    (op 98 (.bin .add) [.t 97, .c (.int .i64 1)]),
    (mv 10 98)] [97, 98]) <|
   .seq (.reg false [] [⟨none, .mv, [], .none, none, none⟩] []) <|
   .cond (.t 107) (.seq (.reg false [] [
    (mv 108 0),
    (mv 109 8),
    (op 110 (.slc true 0 true false) [.t 108, .t 109]),
    (mv 111 1),
    (op 112 (.call 146) [.t 110, .t 111]),
    (mv 12 112)] [108, 109, 110, 111, 112, 0, 1]) <|
   .seq (.seq (.reg false [] [
    (mv 113 12),
    (op 114 (.bin .geq) [.t 113, .c (.int .i64 0)])] [113]) <|
   .cond (.t 114) (.seq (.reg false [] [
    (mv 115 12),
    (mv 116 8),
    (op 117 (.bin .add) [.t 115, .t 116]),
    (mv 4 117)] [115, 116, 117, 12, 8]) <|
   .ret)
    (.skip)) <|
   .seq (.reg false [] [(op 4 .mv [.c (.int .i64 (-1))])] []) <|
   .ret)
    (.seq (.reg false [] [⟨none, .mv, [], .none, none, none⟩] []) <|
   .cond (.t 132) (.seq (.reg false [] [
    (mv 133 0),
    (mv 134 8),
    (op 135 (.slc true 0 true false) [.t 133, .t 134]),
    (mv 136 1),
    (op 137 (.call 148) [.t 135, .t 136]),
    (mv 13 137)] [133, 134, 135, 136, 137, 0, 1]) <|
   .seq (.seq (.reg false [] [
    (mv 138 13),
    (op 139 (.bin .lss) [.t 138, .c (.int .i64 0)])] [138]) <|
   .cond (.t 139) (.seq (.reg false [] [(op 4 .mv [.c (.int .i64 (-1))])] []) <|
   .ret)
    (.skip)) <|
   .seq (.reg false [] [
    (mv 140 8),
    (mv 141 13),
    (op 142 (.bin .add) [.t 140, .t 141]),
    (mv 4 142)] [140, 141, 142, 8, 13]) <|
   .ret)
    (.skip))))
def F141 : AFun :=
 { nargs := 2, keep := false, res := [.tmp 4], body :=
   .seq (.reg false [] [(op 4 .mv [.c (.int .i64 0)])] [4]) <|
   .seq (.reg false [] [
    (mv 14 1),
    (op 15 (.len true) [.t 14]),
    (mv 5 15)] [14, 15]) <|
   .seq (.block 0 (.seq (.reg false [] [
    (mv 17 5),
    (op 18 (.bin .eql) [.t 17, .c (.int .i64 0)]),
    (mv 19 18),
   ⟨(some 20), .mv, [.t 1], .none, none, (some (19, false))⟩,
   ⟨(some 21), .mv, [.t 0], .none, none, (some (19, false))⟩,
   ⟨(some 22), (.bin .eql), [.t 20, .t 21], .none, none, (some (19, false))⟩,
    (op 23 .pick [.t 19, .c (.bool true), .t 22]),
    (mv 16 23)] [17, 18, 19, 20, 21, 22, 23]) <|
   .cond (.t 16) (.seq (.reg false [] [(op 4 .mv [.c (.int .i64 0)])] []) <|
   .ret)
    (.seq (.reg false [] [
    (mv 25 5),
    (op 26 (.bin .eql) [.t 25, .c (.int .i64 1)]),
    (mv 24 26)] [25, 26]) <|
   .cond (.t 24) (.seq (.reg false [] [
    (mv 27 0),
    (mv 28 1),
    (op 29 .ixs [.t 28, .c (.int .i64 0)]),
    (op 30 (.call 105) [.t 27, .t 29]),
    (mv 4 30)] [27, 28, 29, 30, 0, 1]) <|
   .ret)
    (.seq (.reg false [] [
    (mv 32 5),
    (mv 33 0),
    (op 34 (.len true) [.t 33]),
    (op 35 (.bin .geq) [.t 32, .t 34]),
    (mv 31 35)] [32, 33, 34, 35]) <|
   .cond (.t 31) (.seq (.reg false [] [(op 4 .mv [.c (.int .i64 (-1))])] []) <|
   .ret)
    (.seq (.reg false [] [⟨none, .mv, [], .none, none, none⟩] []) <|
   .cond (.t 36) (.seq (.reg false [] [
    (mv 45 0),
    (mv 46 1),
    (op 47 (.call 146) [.t 45, .t 46]),
    (mv 4 47)] [45, 46, 47, 0, 1]) <|
   .ret)
    (.skip)))))) <|
   .seq (.reg false [] [
    (mv 48 1),
    (op 49 .ixs [.t 48, .c (.int .i64 0)]),
    (mv 6 49)] [48, 49]) <|
   .seq (.reg false [] [
    (mv 50 1),
    (op 51 .ixs [.t 50, .c (.int .i64 1)]),
    (mv 7 51)] [50, 51]) <|
   .seq (.reg false [] [(op 8 .mv [.c (.int .i64 0)])] []) <|
   .seq (.reg false [] [
    (mv 52 0),
    (op 53 (.len true) [.t 52]),
    (mv 54 5),
    (op 55 (.bin .sub) [.t 53, .t 54]),
    (op 56 (.bin .add) [.t 55, .c (.int .i64 1)]),
    (mv 9 56)] [52, 53, 54, 55, 56]) <|
   .seq (.reg false [] [(op 10 .mv [.c (.int .i64 0)])] []) <|
   .seq (.block 1 (L141_0)) <|
   .seq (.reg false [] [(op 4 .mv [.c (.int .i64 (-1))])] []) <|
   .ret }

theorem ok4 : okFun Tryd.prog 4 F4 = true := by kernel_rfl
theorem ok5 : okFun Tryd.prog 5 F5 = true := by kernel_rfl
theorem ok16 : okFun Tryd.prog 16 F16 = true := by kernel_rfl
theorem ok17 : okFun Tryd.prog 17 F17 = true := by kernel_rfl
theorem ok18 : okFun Tryd.prog 18 F18 = true := by kernel_rfl
theorem ok15 : okFun Tryd.prog 15 F15 = true := by kernel_rfl
theorem ok19 : okFun Tryd.prog 19 F19 = true := by kernel_rfl
theorem ok20 : okFun Tryd.prog 20 F20 = true := by kernel_rfl
theorem ok21 : okFun Tryd.prog 21 F21 = true := by kernel_rfl
theorem ok23 : okFun Tryd.prog 23 F23 = true := by kernel_rfl
theorem ok24 : okFun Tryd.prog 24 F24 = true := by kernel_rfl
theorem ok25 : okFun Tryd.prog 25 F25 = true := by kernel_rfl
theorem ok26 : okFun Tryd.prog 26 F26 = true := by kernel_rfl
theorem ok27 : okFun Tryd.prog 27 F27 = true := by kernel_rfl
theorem ok28 : okFun Tryd.prog 28 F28 = true := by kernel_rfl
theorem ok29 : okFun Tryd.prog 29 F29 = true := by kernel_rfl
theorem ok43 : okFun Tryd.prog 43 F43 = true := by kernel_rfl
theorem ok44 : okFun Tryd.prog 44 F44 = true := by kernel_rfl
theorem ok45 : okFun Tryd.prog 45 F45 = true := by kernel_rfl
theorem ok46 : okFun Tryd.prog 46 F46 = true := by kernel_rfl
theorem ok47 : okFun Tryd.prog 47 F47 = true := by kernel_rfl
theorem ok48 : okFun Tryd.prog 48 F48 = true := by kernel_rfl
theorem ok49 : okFun Tryd.prog 49 F49 = true := by kernel_rfl
theorem ok50 : okFun Tryd.prog 50 F50 = true := by kernel_rfl
theorem ok51 : okFun Tryd.prog 51 F51 = true := by kernel_rfl
theorem ok52 : okFun Tryd.prog 52 F52 = true := by kernel_rfl
theorem ok32 : okFun Tryd.prog 32 F32 = true := by kernel_rfl
theorem ok33 : okFun Tryd.prog 33 F33 = true := by kernel_rfl
theorem ok57 : okFun Tryd.prog 57 F57 = true := by kernel_rfl
theorem ok37 : okFun Tryd.prog 37 F37 = true := by kernel_rfl
theorem ok41 : okFun Tryd.prog 41 F41 = true := by kernel_rfl
theorem ok42 : okFun Tryd.prog 42 F42 = true := by kernel_rfl
theorem ok63 : okFun Tryd.prog 63 F63 = true := by kernel_rfl
theorem ok64 : okFun Tryd.prog 64 F64 = true := by kernel_rfl
theorem ok65 : okFun Tryd.prog 65 F65 = true := by kernel_rfl
theorem ok66 : okFun Tryd.prog 66 F66 = true := by kernel_rfl
theorem ok67 : okFun Tryd.prog 67 F67 = true := by kernel_rfl
theorem ok68 : okFun Tryd.prog 68 F68 = true := by kernel_rfl
theorem ok69 : okFun Tryd.prog 69 F69 = true := by kernel_rfl
theorem ok70 : okFun Tryd.prog 70 F70 = true := by kernel_rfl
theorem ok71 : okFun Tryd.prog 71 F71 = true := by kernel_rfl
theorem ok72 : okFun Tryd.prog 72 F72 = true := by kernel_rfl
theorem ok73 : okFun Tryd.prog 73 F73 = true := by kernel_rfl
theorem ok74 : okFun Tryd.prog 74 F74 = true := by kernel_rfl
theorem ok75 : okFun Tryd.prog 75 F75 = true := by kernel_rfl
theorem ok76 : okFun Tryd.prog 76 F76 = true := by kernel_rfl
theorem ok77 : okFun Tryd.prog 77 F77 = true := by kernel_rfl
theorem ok78 : okFun Tryd.prog 78 F78 = true := by kernel_rfl
theorem ok79 : okFun Tryd.prog 79 F79 = true := by kernel_rfl
theorem ok81 : okFun Tryd.prog 81 F81 = true := by kernel_rfl
theorem ok83 : okFun Tryd.prog 83 F83 = true := by kernel_rfl
theorem ok95 : okFun Tryd.prog 95 F95 = true := by kernel_rfl
theorem ok96 : okFun Tryd.prog 96 F96 = true := by kernel_rfl
theorem ok97 : okFun Tryd.prog 97 F97 = true := by kernel_rfl
theorem ok98 : okFun Tryd.prog 98 F98 = true := by kernel_rfl
theorem ok99 : okFun Tryd.prog 99 F99 = true := by kernel_rfl
theorem ok100 : okFun Tryd.prog 100 F100 = true := by kernel_rfl
theorem ok101 : okFun Tryd.prog 101 F101 = true := by kernel_rfl
theorem ok102 : okFun Tryd.prog 102 F102 = true := by kernel_rfl
theorem ok103 : okFun Tryd.prog 103 F103 = true := by kernel_rfl
theorem ok105 : okFun Tryd.prog 105 F105 = true := by kernel_rfl
theorem ok107 : okFun Tryd.prog 107 F107 = true := by kernel_rfl
theorem ok122 : okFun Tryd.prog 122 F122 = true := by kernel_rfl
theorem ok123 : okFun Tryd.prog 123 F123 = true := by kernel_rfl
theorem ok124 : okFun Tryd.prog 124 F124 = true := by kernel_rfl
theorem ok128 : okFun Tryd.prog 128 F128 = true := by kernel_rfl
theorem ok136 : okFun Tryd.prog 136 F136 = true := by kernel_rfl
theorem ok137 : okFun Tryd.prog 137 F137 = true := by kernel_rfl
theorem ok138 : okFun Tryd.prog 138 F138 = true := by kernel_rfl
theorem ok141 : okFun Tryd.prog 141 F141 = true := by kernel_rfl
theorem mix : Tryd.prog.follows .mixedOrders = true := by kernel_rfl
def T0 : FuncId → Option AFun
  | 4 => some F4
  | 5 => some F5
  | 16 => some F16
  | 17 => some F17
  | 18 => some F18
  | 15 => some F15
  | 19 => some F19
  | 20 => some F20
  | 21 => some F21
  | 23 => some F23
  | 24 => some F24
  | 25 => some F25
  | 26 => some F26
  | 27 => some F27
  | 28 => some F28
  | 29 => some F29
  | 43 => some F43
  | 44 => some F44
  | 45 => some F45
  | 46 => some F46
  | 47 => some F47
  | 48 => some F48
  | 49 => some F49
  | 50 => some F50
  | 51 => some F51
  | 52 => some F52
  | 32 => some F32
  | 33 => some F33
  | 57 => some F57
  | 37 => some F37
  | 41 => some F41
  | 42 => some F42
  | 63 => some F63
  | 64 => some F64
  | 65 => some F65
  | 66 => some F66
  | 67 => some F67
  | 68 => some F68
  | 69 => some F69
  | 70 => some F70
  | 71 => some F71
  | 72 => some F72
  | 73 => some F73
  | 74 => some F74
  | 75 => some F75
  | 76 => some F76
  | 77 => some F77
  | 78 => some F78
  | 79 => some F79
  | 81 => some F81
  | 83 => some F83
  | 95 => some F95
  | 96 => some F96
  | 97 => some F97
  | 98 => some F98
  | 99 => some F99
  | 100 => some F100
  | 101 => some F101
  | 102 => some F102
  | 103 => some F103
  | 105 => some F105
  | 107 => some F107
  | 122 => some F122
  | 123 => some F123
  | 124 => some F124
  | 128 => some F128
  | 136 => some F136
  | 137 => some F137
  | 138 => some F138
  | 141 => some F141
  | _ => none
theorem T0_ok : ∀ f F, T0 f = some F → okFun Tryd.prog f F = true := by
  intro f F h
  unfold T0 at h
  split at h
  · cases h; exact ok4
  · cases h; exact ok5
  · cases h; exact ok16
  · cases h; exact ok17
  · cases h; exact ok18
  · cases h; exact ok15
  · cases h; exact ok19
  · cases h; exact ok20
  · cases h; exact ok21
  · cases h; exact ok23
  · cases h; exact ok24
  · cases h; exact ok25
  · cases h; exact ok26
  · cases h; exact ok27
  · cases h; exact ok28
  · cases h; exact ok29
  · cases h; exact ok43
  · cases h; exact ok44
  · cases h; exact ok45
  · cases h; exact ok46
  · cases h; exact ok47
  · cases h; exact ok48
  · cases h; exact ok49
  · cases h; exact ok50
  · cases h; exact ok51
  · cases h; exact ok52
  · cases h; exact ok32
  · cases h; exact ok33
  · cases h; exact ok57
  · cases h; exact ok37
  · cases h; exact ok41
  · cases h; exact ok42
  · cases h; exact ok63
  · cases h; exact ok64
  · cases h; exact ok65
  · cases h; exact ok66
  · cases h; exact ok67
  · cases h; exact ok68
  · cases h; exact ok69
  · cases h; exact ok70
  · cases h; exact ok71
  · cases h; exact ok72
  · cases h; exact ok73
  · cases h; exact ok74
  · cases h; exact ok75
  · cases h; exact ok76
  · cases h; exact ok77
  · cases h; exact ok78
  · cases h; exact ok79
  · cases h; exact ok81
  · cases h; exact ok83
  · cases h; exact ok95
  · cases h; exact ok96
  · cases h; exact ok97
  · cases h; exact ok98
  · cases h; exact ok99
  · cases h; exact ok100
  · cases h; exact ok101
  · cases h; exact ok102
  · cases h; exact ok103
  · cases h; exact ok105
  · cases h; exact ok107
  · cases h; exact ok122
  · cases h; exact ok123
  · cases h; exact ok124
  · cases h; exact ok128
  · cases h; exact ok136
  · cases h; exact ok137
  · cases h; exact ok138
  · cases h; exact ok141
  · cases h
def B0 : Calls' := fun f args sh => match f with
  | 126 => ibB 126 126 args sh
  | _ => none
theorem B0_good : Good Tryd.prog B0 := by
  intro f args sh r sh' h
  unfold B0 at h
  split at h
  · exact ibB_sound (f0 := 126) (fn := Tryd.f126) Tryd.func126 (by kernel_rfl) (by kernel_rfl) (by kernel_rfl) rfl _ _ _ _ _ h
  · cases h
noncomputable abbrev G0 : Calls' := Gx B0 T0
theorem G0_good : Good Tryd.prog G0 := Gx_good mix B0_good T0_ok
end Go.Av
