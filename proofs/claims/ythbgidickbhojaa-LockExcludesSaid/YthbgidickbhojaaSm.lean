/- The functions' bodies as abstract code, held against the program by the kernel. -/
import Derived.Test.YthbgidickbhojaaProg
import Derived.Test.YthbgidickbhojaaCv26
import Derived.KernelRfl
set_option linter.unusedSimpArgs false
set_option linter.unusedVariables false
set_option linter.unusedSimpArgs false
set_option linter.unusedVariables false
namespace Go.Av
open Go.Proofs
/- bitext/bitextlaw29.LockValidates -/
def F8 : AFun :=
  { nargs := 4, keep := false, res := [.tmp 8], body :=
    .seq (.reg false [6] [
       ⟨(some 6), (.box 3), [.t 2], (.lo 6), none, none⟩,
       ⟨(some 8), .mv, [.c (.bool false)], .none, none, none⟩] [8, 2]) <|
    .seq (.seq (.reg false [] [
        ⟨(some 12), .mv, [.t 1], .none, none, none⟩,
        ⟨(some 13), (.mks 1 [.sl .full 1 []] 1 [0]), [.t 12], .none, none, none⟩,
        ⟨(some 14), (.call 31), [.t 13], .none, none, none⟩,
        ⟨(some 15), .mv, [.t 14], .none, none, none⟩,
        ⟨(some 16), .mv, [.t 0], .none, none, (some (15, false))⟩,
        ⟨(some 17), (.len false), [.t 16], .none, none, (some (15, false))⟩,
        ⟨(some 18), (.bin .gtr), [.t 17, .c (.int .i64 60)], .none, none, (some (15, false))⟩,
        ⟨(some 19), .pick, [.t 15, .c (.bool true), .t 18], .none, none, none⟩] [12, 13, 14, 15, 16, 17, 18]) <|
     .cond (.t 19) (.seq (.reg false [] [
         ⟨(some 20), (.call 30), [], .none, none, none⟩,
         ⟨(some 8), .mv, [.t 20], .none, none, none⟩] [20]) <|
      .ret)
      (.skip)) <|
    .seq (.reg false [] [
       ⟨(some 21), .mv, [.t 1], .none, none, none⟩,
       ⟨(some 22), (.call 32), [.t 21], .none, none, none⟩,
       ⟨(some 9), .mvo, [.t 22], .none, (some 22), none⟩] [21, 22, 1]) <|
    .seq (.reg false [] [
       ⟨(some 23), .mv, [.t 3], .none, none, none⟩,
       ⟨(some 24), .mv, [.t 9], .none, none, none⟩,
       ⟨(some 25), (.len false), [.t 24], .none, none, none⟩,
       ⟨(some 26), (.bin .add), [.t 25, .c (.int .i64 1)], .none, none, none⟩,
       ⟨(some 27), (.call 24), [.t 23, .t 26], .none, none, none⟩,
       ⟨(some 10), .mv, [.t 27], .none, none, none⟩] [23, 24, 25, 26, 27, 3]) <|
    .seq (.reg true [] [
       ⟨(some 28), (.mks 3 [.int .i64 0, .str [], .int .i64 0] 0 []), [], .none, none, none⟩,
       ⟨(some 29), .mv, [.t 9], .none, none, none⟩,
       ⟨(some 30), .mv, [.t 10], .none, none, none⟩,
       ⟨(some 31), (.slc false 3 false true), [.t 29, .t 30], .none, none, none⟩,
       ⟨(some 32), (.app false 3 32), [.t 28, .t 31], .none, (some 28), none⟩,
       ⟨(some 33), (.ld true 3), [.t 6], (.lo 6), none, none⟩,
       ⟨(some 34), (.mks 3 [.int .i64 0, .str [], .int .i64 0] 1 [0]), [.t 33], .none, none, none⟩,
       ⟨(some 35), (.app false 3 32), [.t 32, .t 34], .none, (some 32), none⟩,
       ⟨(some 36), .mv, [.t 9], .none, none, none⟩,
       ⟨(some 37), .mv, [.t 10], .none, none, none⟩,
       ⟨(some 38), (.slc false 3 true false), [.t 36, .t 37], .none, none, none⟩,
       ⟨(some 39), (.app false 3 32), [.t 35, .t 38], .none, (some 35), none⟩,
       ⟨(some 11), .mvo, [.t 39], .none, (some 39), none⟩] [28, 29, 30, 31, 32, 33, 34, 35, 36, 37, 38, 39, 10, 6]) <|
    .seq (.reg false [] [
       ⟨(some 40), .mv, [.t 0], .none, none, none⟩,
       ⟨(some 41), (.call 28), [.t 40], .none, none, none⟩,
       ⟨(some 42), .mv, [.t 0], .none, none, none⟩,
       ⟨(some 43), (.call 29), [.t 42], .none, none, none⟩,
       ⟨(some 44), (.bin .eql), [.t 41, .t 43], .none, none, none⟩,
       ⟨(some 45), .mv, [.t 44], .none, none, none⟩,
       ⟨(some 46), .mv, [.t 9], .none, none, (some (45, true))⟩,
       ⟨(some 47), (.call 28), [.t 46], .none, none, (some (45, true))⟩,
       ⟨(some 48), (.bin .eql), [.t 47, .c (.int .i64 0)], .none, none, (some (45, true))⟩,
       ⟨(some 49), .pick, [.t 45, .t 48, .c (.bool false)], .none, none, none⟩,
       ⟨(some 50), .mv, [.t 49], .none, none, none⟩,
       ⟨(some 51), .mv, [.t 11], .none, none, (some (50, true))⟩,
       ⟨(some 52), (.call 28), [.t 51], .none, none, (some (50, true))⟩,
       ⟨(some 53), .mv, [.t 11], .none, none, (some (50, true))⟩,
       ⟨(some 54), (.call 29), [.t 53], .none, none, (some (50, true))⟩,
       ⟨(some 55), (.bin .eql), [.t 52, .t 54], .none, none, (some (50, true))⟩,
       ⟨(some 56), .pick, [.t 50, .t 55, .c (.bool false)], .none, none, none⟩,
       ⟨(some 57), .mv, [.t 56], .none, none, none⟩,
       ⟨(some 58), (.call 30), [], .none, none, (some (57, true))⟩,
       ⟨(some 59), .pick, [.t 57, .t 58, .c (.bool false)], .none, none, none⟩,
       ⟨(some 8), .mv, [.t 59], .none, none, none⟩] [40, 41, 42, 43, 44, 45, 46, 47, 48, 49, 50, 51, 52, 53, 54, 55, 56, 57, 58, 59, 0, 9, 11]) <|
    .ret }

/- bitext/bitextlaw29.LockHolds -/
def F9 : AFun :=
  { nargs := 4, keep := false, res := [.tmp 8], body :=
    .seq (.reg false [] [⟨(some 8), .mv, [.c (.bool false)], .none, none, none⟩] [8]) <|
    .seq (.seq (.reg false [] [
        ⟨(some 12), .mv, [.t 1], .none, none, none⟩,
        ⟨(some 13), (.mks 1 [.sl .full 1 []] 1 [0]), [.t 12], .none, none, none⟩,
        ⟨(some 14), (.call 31), [.t 13], .none, none, none⟩,
        ⟨(some 15), .mv, [.t 14], .none, none, none⟩,
        ⟨(some 16), .mv, [.t 0], .none, none, (some (15, false))⟩,
        ⟨(some 17), (.len false), [.t 16], .none, none, (some (15, false))⟩,
        ⟨(some 18), (.bin .gtr), [.t 17, .c (.int .i64 60)], .none, none, (some (15, false))⟩,
        ⟨(some 19), .pick, [.t 15, .c (.bool true), .t 18], .none, none, none⟩] [12, 13, 14, 15, 16, 17, 18]) <|
     .cond (.t 19) (.seq (.reg false [] [
         ⟨(some 20), (.call 30), [], .none, none, none⟩,
         ⟨(some 8), .mv, [.t 20], .none, none, none⟩] [20]) <|
      .ret)
      (.skip)) <|
    .seq (.reg false [] [
       ⟨(some 21), .mv, [.t 1], .none, none, none⟩,
       ⟨(some 22), (.call 32), [.t 21], .none, none, none⟩,
       ⟨(some 9), .mvo, [.t 22], .none, (some 22), none⟩] [21, 22, 1]) <|
    .seq (.reg false [] [
       ⟨(some 23), .mv, [.t 2], .none, none, none⟩,
       ⟨(some 24), (.call 24), [.t 23, .c (.int .i64 14)], .none, none, none⟩,
       ⟨(some 25), .mv, [.t 3], .none, none, none⟩,
       ⟨(some 26), (.call 24), [.t 25, .c (.int .i64 24)], .none, none, none⟩,
       ⟨(some 10), .mv, [.t 24], .none, none, none⟩,
       ⟨(some 11), .mv, [.t 26], .none, none, none⟩] [23, 24, 25, 26]) <|
    .seq (.reg false [] [
       ⟨(some 27), .mv, [.t 0], .none, none, none⟩,
       ⟨(some 28), .mv, [.t 2], .none, none, none⟩,
       ⟨(some 29), .mv, [.t 3], .none, none, none⟩,
       ⟨(some 30), (.call 33), [.t 27, .t 28, .t 29], .none, none, none⟩,
       ⟨(some 31), .mv, [.t 0], .none, none, none⟩,
       ⟨(some 32), .mv, [.t 2], .none, none, none⟩,
       ⟨(some 33), .mv, [.t 3], .none, none, none⟩,
       ⟨(some 34), (.call 34), [.t 31, .t 32, .t 33], .none, none, none⟩,
       ⟨(some 35), (.bin .eql), [.t 30, .t 34], .none, none, none⟩,
       ⟨(some 36), .mv, [.t 35], .none, none, none⟩,
       ⟨(some 37), .mv, [.t 9], .none, none, (some (36, true))⟩,
       ⟨(some 38), .mv, [.t 10], .none, none, (some (36, true))⟩,
       ⟨(some 39), .mv, [.t 11], .none, none, (some (36, true))⟩,
       ⟨(some 40), (.call 33), [.t 37, .t 38, .t 39], .none, none, (some (36, true))⟩,
       ⟨(some 41), .mv, [.t 9], .none, none, (some (36, true))⟩,
       ⟨(some 42), .mv, [.t 10], .none, none, (some (36, true))⟩,
       ⟨(some 43), .mv, [.t 11], .none, none, (some (36, true))⟩,
       ⟨(some 44), (.call 34), [.t 41, .t 42, .t 43], .none, none, (some (36, true))⟩,
       ⟨(some 45), (.bin .eql), [.t 40, .t 44], .none, none, (some (36, true))⟩,
       ⟨(some 46), .pick, [.t 36, .t 45, .c (.bool false)], .none, none, none⟩,
       ⟨(some 47), .mv, [.t 46], .none, none, none⟩,
       ⟨(some 48), (.call 30), [], .none, none, (some (47, true))⟩,
       ⟨(some 49), .pick, [.t 47, .t 48, .c (.bool false)], .none, none, none⟩,
       ⟨(some 8), .mv, [.t 49], .none, none, none⟩] [27, 28, 29, 30, 31, 32, 33, 34, 35, 36, 37, 38, 39, 40, 41, 42, 43, 44, 45, 46, 47, 48, 49, 0, 2, 3, 9, 10, 11]) <|
    .ret }

/- bitext/bitextlaw29.LockExpires -/
def F12 : AFun :=
  { nargs := 4, keep := false, res := [.tmp 8], body :=
    .seq (.reg false [] [⟨(some 8), .mv, [.c (.bool false)], .none, none, none⟩] [8]) <|
    .seq (.seq (.reg false [] [
        ⟨(some 11), .mv, [.t 0], .none, none, none⟩,
        ⟨(some 12), (.mks 1 [.sl .full 1 []] 1 [0]), [.t 11], .none, none, none⟩,
        ⟨(some 13), (.call 31), [.t 12], .none, none, none⟩] [11, 12]) <|
     .cond (.t 13) (.seq (.reg false [] [
         ⟨(some 14), (.call 30), [], .none, none, none⟩,
         ⟨(some 8), .mv, [.t 14], .none, none, none⟩] [14]) <|
      .ret)
      (.skip)) <|
    .seq (.reg false [] [
       ⟨(some 15), .mv, [.t 0], .none, none, none⟩,
       ⟨(some 16), (.call 32), [.t 15], .none, none, none⟩,
       ⟨(some 9), .mvo, [.t 16], .none, (some 16), none⟩] [15, 16, 0]) <|
    .seq (.reg false [] [
       ⟨(some 17), .mv, [.t 1], .none, none, none⟩,
       ⟨(some 18), (.call 24), [.t 17, .c (.int .i64 24)], .none, none, none⟩,
       ⟨(some 1), .mv, [.t 18], .none, none, none⟩] [17, 18]) <|
    .seq (.reg false [] [
       ⟨(some 19), .mv, [.t 1], .none, none, none⟩,
       ⟨(some 20), .mv, [.t 2], .none, none, none⟩,
       ⟨(some 21), (.call 24), [.t 20, .c (.int .i64 10)], .none, none, none⟩,
       ⟨(some 22), (.bin .add), [.t 19, .t 21], .none, none, none⟩,
       ⟨(some 2), .mv, [.t 22], .none, none, none⟩] [19, 20, 21, 22]) <|
    .seq (.reg false [] [
       ⟨(some 23), .mv, [.t 3], .none, none, none⟩,
       ⟨(some 24), (.call 24), [.t 23, .c (.int .i64 14)], .none, none, none⟩,
       ⟨(some 3), .mv, [.t 24], .none, none, none⟩] [23, 24]) <|
    .seq (.reg false [] [
       ⟨(some 25), .mv, [.t 9], .none, none, none⟩,
       ⟨(some 26), .mv, [.t 1], .none, none, none⟩,
       ⟨(some 27), (.call 39), [.t 25, .t 26], .none, none, none⟩,
       ⟨(some 10), .mvo, [.t 27], .none, (some 27), none⟩] [25, 26, 27, 1]) <|
    .seq (.reg false [] [
       ⟨(some 28), .mv, [.t 10], .none, none, none⟩,
       ⟨(some 29), .mv, [.t 3], .none, none, none⟩,
       ⟨(some 30), .mv, [.t 2], .none, none, none⟩,
       ⟨(some 31), (.call 33), [.t 28, .t 29, .t 30], .none, none, none⟩,
       ⟨(some 32), .mv, [.t 9], .none, none, none⟩,
       ⟨(some 33), .mv, [.t 3], .none, none, none⟩,
       ⟨(some 34), .mv, [.t 2], .none, none, none⟩,
       ⟨(some 35), (.call 33), [.t 32, .t 33, .t 34], .none, none, none⟩,
       ⟨(some 36), (.bin .eql), [.t 31, .t 35], .none, none, none⟩,
       ⟨(some 37), .mv, [.t 36], .none, none, none⟩,
       ⟨(some 38), .mv, [.t 10], .none, none, (some (37, true))⟩,
       ⟨(some 39), (.call 28), [.t 38], .none, none, (some (37, true))⟩,
       ⟨(some 40), (.bin .eql), [.t 39, .c (.int .i64 0)], .none, none, (some (37, true))⟩,
       ⟨(some 41), .pick, [.t 37, .t 40, .c (.bool false)], .none, none, none⟩,
       ⟨(some 42), .mv, [.t 41], .none, none, none⟩,
       ⟨(some 43), .mv, [.t 10], .none, none, (some (42, true))⟩,
       ⟨(some 44), (.len false), [.t 43], .none, none, (some (42, true))⟩,
       ⟨(some 45), .mv, [.t 9], .none, none, (some (42, true))⟩,
       ⟨(some 46), (.len false), [.t 45], .none, none, (some (42, true))⟩,
       ⟨(some 47), (.bin .leq), [.t 44, .t 46], .none, none, (some (42, true))⟩,
       ⟨(some 48), .pick, [.t 42, .t 47, .c (.bool false)], .none, none, none⟩,
       ⟨(some 49), .mv, [.t 48], .none, none, none⟩,
       ⟨(some 50), (.call 30), [], .none, none, (some (49, true))⟩,
       ⟨(some 51), .pick, [.t 49, .t 50, .c (.bool false)], .none, none, none⟩,
       ⟨(some 8), .mv, [.t 51], .none, none, none⟩] [28, 29, 30, 31, 32, 33, 34, 35, 36, 37, 38, 39, 40, 41, 42, 43, 44, 45, 46, 47, 48, 49, 50, 51, 10, 3, 2, 9]) <|
    .ret }

/- bitext/bitextmake.Place -/
def F24 : AFun :=
  { nargs := 2, keep := false, res := [.tmp 4], body :=
    .seq (.reg false [] [⟨(some 4), .mv, [.c (.int .i64 0)], .none, none, none⟩] [4]) <|
    .seq (.reg false [] [
       ⟨(some 5), .mv, [.t 0], .none, none, none⟩,
       ⟨(some 6), .mv, [.t 1], .none, none, none⟩,
       ⟨(some 7), (.bin .rem), [.t 5, .t 6], .none, none, none⟩,
       ⟨(some 0), .mv, [.t 7], .none, none, none⟩] [5, 6, 7]) <|
    .seq (.seq (.reg false [] [
        ⟨(some 8), .mv, [.t 0], .none, none, none⟩,
        ⟨(some 9), (.bin .lss), [.t 8, .c (.int .i64 0)], .none, none, none⟩] [8]) <|
     .cond (.t 9) (.reg false [] [
        ⟨(some 10), .mv, [.t 0], .none, none, none⟩,
        ⟨(some 11), .mv, [.t 1], .none, none, none⟩,
        ⟨(some 12), (.bin .add), [.t 10, .t 11], .none, none, none⟩,
        ⟨(some 0), .mv, [.t 12], .none, none, none⟩] [10, 11, 12, 1])
      (.skip)) <|
    .seq (.reg false [] [
       ⟨(some 13), .mv, [.t 0], .none, none, none⟩,
       ⟨(some 4), .mv, [.t 13], .none, none, none⟩] [13, 0]) <|
    .ret }

/- bitext/lock.Acquire -/
def F25 : AFun :=
  { nargs := 5, keep := false, res := [.tmp 10, .tmp 11], body :=
    .seq (.reg false [] [
       ⟨(some 10), .mv, [.c (.sl .full 3 [])], .none, none, none⟩,
       ⟨(some 11), .mv, [.c (.int .i64 0)], .none, none, none⟩] [10, 11]) <|
    .seq (.seq (.reg false [] [
        ⟨(some 18), .mv, [.t 0], .none, none, none⟩,
        ⟨(some 19), (.call 28), [.t 18], .none, none, none⟩,
        ⟨(some 12), .mv, [.t 19], .none, none, none⟩] [18, 19]) <|
     .seq (.reg false [] [
        ⟨(some 20), .mv, [.t 12], .none, none, none⟩,
        ⟨(some 21), (.bin .neq), [.t 20, .c (.int .i64 0)], .none, none, none⟩] [20]) <|
     .cond (.t 21) (.seq (.reg false [] [
         ⟨(some 22), .mv, [.t 12], .none, none, none⟩,
         ⟨(some 10), .mv, [.c (.sl .full 3 [])], .none, none, none⟩,
         ⟨(some 11), .mv, [.t 22], .none, none, none⟩] [22, 12]) <|
      .ret)
      (.skip)) <|
    .seq (.seq (.reg false [] [
        ⟨(some 23), .mv, [.t 1], .none, none, none⟩,
        ⟨(some 24), (.bin .lss), [.t 23, .c (.int .i64 1)], .none, none, none⟩,
        ⟨(some 25), .mv, [.t 24], .none, none, none⟩,
        ⟨(some 26), .mv, [.t 3], .none, none, (some (25, false))⟩,
        ⟨(some 27), (.bin .lss), [.t 26, .c (.int .i64 0)], .none, none, (some (25, false))⟩,
        ⟨(some 28), .pick, [.t 25, .c (.bool true), .t 27], .none, none, none⟩,
        ⟨(some 29), .mv, [.t 28], .none, none, none⟩,
        ⟨(some 30), .mv, [.t 3], .none, none, (some (29, false))⟩,
        ⟨(some 31), (.bin .gtr), [.t 30, .c (.int .i64 1073741824)], .none, none, (some (29, false))⟩,
        ⟨(some 32), .pick, [.t 29, .c (.bool true), .t 31], .none, none, none⟩,
        ⟨(some 33), .mv, [.t 32], .none, none, none⟩,
        ⟨(some 34), .mv, [.t 4], .none, none, (some (33, false))⟩,
        ⟨(some 35), (.bin .lss), [.t 34, .c (.int .i64 1)], .none, none, (some (33, false))⟩,
        ⟨(some 36), .pick, [.t 33, .c (.bool true), .t 35], .none, none, none⟩,
        ⟨(some 37), .mv, [.t 36], .none, none, none⟩,
        ⟨(some 38), .mv, [.t 4], .none, none, (some (37, false))⟩,
        ⟨(some 39), .mv, [.t 3], .none, none, (some (37, false))⟩,
        ⟨(some 40), (.bin .sub), [.c (.int .i64 1073741824), .t 39], .none, none, (some (37, false))⟩,
        ⟨(some 41), (.bin .gtr), [.t 38, .t 40], .none, none, (some (37, false))⟩,
        ⟨(some 42), .pick, [.t 37, .c (.bool true), .t 41], .none, none, none⟩] [23, 24, 25, 26, 27, 28, 29, 30, 31, 32, 33, 34, 35, 36, 37, 38, 39, 40, 41]) <|
     .cond (.t 42) (.seq (.reg false [] [
         ⟨(some 10), .mv, [.c (.sl .full 3 [])], .none, none, none⟩,
         ⟨(some 11), .mv, [.c (.int .i64 1)], .none, none, none⟩] []) <|
      .ret)
      (.skip)) <|
    .seq (.seq (.reg false [] [
        ⟨(some 43), .mv, [.t 2], .none, none, none⟩,
        ⟨(some 44), (.call 52), [.t 43], .none, none, none⟩,
        ⟨(some 45), (.un .not), [.t 44], .none, none, none⟩] [43, 44]) <|
     .cond (.t 45) (.seq (.reg false [] [
         ⟨(some 10), .mv, [.c (.sl .full 3 [])], .none, none, none⟩,
         ⟨(some 11), .mv, [.c (.int .i64 4)], .none, none, none⟩] []) <|
      .ret)
      (.skip)) <|
    .seq (.reg false [] [
       ⟨(some 46), .mv, [.t 0], .none, none, none⟩,
       ⟨(some 47), .mv, [.t 1], .none, none, none⟩,
       ⟨(some 48), .mv, [.t 3], .none, none, none⟩,
       ⟨(some 49), (.call 33), [.t 46, .t 47, .t 48], .none, none, none⟩,
       ⟨(some 13), .mv, [.t 49], .none, none, none⟩] [46, 47, 48, 49]) <|
    .seq (.seq (.reg false [] [
        ⟨(some 50), .mv, [.t 13], .none, none, none⟩,
        ⟨(some 51), (.bin .neq), [.t 50, .c (.str [])], .none, none, none⟩,
        ⟨(some 52), .mv, [.t 51], .none, none, none⟩,
        ⟨(some 53), .mv, [.t 13], .none, none, (some (52, true))⟩,
        ⟨(some 54), .mv, [.t 2], .none, none, (some (52, true))⟩,
        ⟨(some 55), (.bin .neq), [.t 53, .t 54], .none, none, (some (52, true))⟩,
        ⟨(some 56), .pick, [.t 52, .t 55, .c (.bool false)], .none, none, none⟩] [50, 51, 52, 53, 54, 55]) <|
     .cond (.t 56) (.seq (.reg false [] [
         ⟨(some 10), .mv, [.c (.sl .full 3 [])], .none, none, none⟩,
         ⟨(some 11), .mv, [.c (.int .i64 9)], .none, none, none⟩] []) <|
      .ret)
      (.skip)) <|
    .seq (.reg false [] [
       ⟨(some 58), .mv, [.t 0], .none, none, none⟩,
       ⟨(some 59), .mv, [.t 1], .none, none, none⟩,
       ⟨(some 60), (.call 53), [.t 58, .t 59], .none, none, none⟩,
       ⟨(some 57), .mv, [.t 60], .none, none, none⟩,
       ⟨(some 61), (.ext 0), [.t 57], .none, none, none⟩,
       ⟨(some 62), (.ext 1), [.t 57], .none, none, none⟩,
       ⟨(some 14), .mv, [.t 61], .none, none, none⟩,
       ⟨(some 15), .mv, [.t 62], .none, none, none⟩] [58, 59, 60, 57, 61, 62]) <|
    .seq (.seq (.reg false [] [
        ⟨(some 63), .mv, [.t 15], .none, none, none⟩,
        ⟨(some 64), (.un .not), [.t 63], .none, none, none⟩,
        ⟨(some 65), .mv, [.t 64], .none, none, none⟩,
        ⟨(some 66), .mv, [.t 0], .none, none, (some (65, true))⟩,
        ⟨(some 67), (.len false), [.t 66], .none, none, (some (65, true))⟩,
        ⟨(some 68), (.bin .eql), [.t 67, .c (.int .i64 512)], .none, none, (some (65, true))⟩,
        ⟨(some 69), .pick, [.t 65, .t 68, .c (.bool false)], .none, none, none⟩] [63, 64, 65, 66, 67, 68]) <|
     .cond (.t 69) (.seq (.reg false [] [
         ⟨(some 10), .mv, [.c (.sl .full 3 [])], .none, none, none⟩,
         ⟨(some 11), .mv, [.c (.int .i64 3)], .none, none, none⟩] []) <|
      .ret)
      (.skip)) <|
    .seq (.reg false [16] [
       ⟨(some 70), .mv, [.t 1], .none, none, none⟩,
       ⟨(some 71), .mv, [.t 2], .none, none, none⟩,
       ⟨(some 72), .mv, [.t 3], .none, none, none⟩,
       ⟨(some 73), .mv, [.t 4], .none, none, none⟩,
       ⟨(some 74), (.bin .add), [.t 72, .t 73], .none, none, none⟩,
       ⟨(some 75), (.build [.int .i64 0, .str [], .int .i64 0] [(0, 1), (1, 1), (2, 1)]), [.t 70, .t 71, .t 74], .none, none, none⟩,
       ⟨(some 16), (.alloc [.int .i64 0, .str [], .int .i64 0]), [], (.lo 16), none, none⟩,
       ⟨none, (.st 3), [.t 16, .t 75], (.lo 16), none, none⟩] [70, 71, 72, 73, 74, 75, 1, 3, 4]) <|
    .seq (.reg false [] [
       ⟨(some 76), .mv, [.t 0], .none, none, none⟩,
       ⟨(some 77), (.call 54), [.t 76], .sh, none, none⟩,
       ⟨(some 17), .mvo, [.t 77], .none, (some 77), none⟩] [76, 77]) <|
    .seq (.seq (.reg false [] [
        ⟨(some 78), .mv, [.t 15], .none, none, none⟩,
        ⟨(some 79), (.un .not), [.t 78], .none, none, none⟩] [78, 15]) <|
     .cond (.t 79) (.seq (.reg false [] [
         ⟨(some 80), .mv, [.t 17], .none, none, none⟩,
         ⟨(some 81), .mv, [.t 14], .none, none, none⟩,
         ⟨(some 82), (.ld true 3), [.t 16], (.lo 16), none, none⟩,
         ⟨(some 83), (.mks 3 [.int .i64 0, .str [], .int .i64 0] 1 [0]), [.t 82], .none, none, none⟩,
         ⟨(some 84), (.call 55), [.t 80, .t 81, .t 83], .sh, none, none⟩,
         ⟨(some 10), .mvo, [.t 84], .none, (some 84), none⟩,
         ⟨(some 11), .mv, [.c (.int .i64 0)], .none, none, none⟩] [80, 81, 82, 83, 84, 17, 14, 16]) <|
      .ret)
      (.skip)) <|
    .seq (.seq (.reg false [] [
        ⟨(some 85), .mv, [.t 13], .none, none, none⟩,
        ⟨(some 86), .mv, [.t 2], .none, none, none⟩,
        ⟨(some 87), (.bin .eql), [.t 85, .t 86], .none, none, none⟩] [85, 86, 13, 2]) <|
     .cond (.t 87) (.reg true [] [
        ⟨(some 88), (.fa 2), [.t 16], .none, none, none⟩,
        ⟨(some 89), (.ld false 1), [.t 88], (.lo 16), none, none⟩,
        ⟨(some 90), .mv, [.t 0], .none, none, none⟩,
        ⟨(some 91), .mv, [.t 14], .none, none, none⟩,
        ⟨(some 92), (.ia 3), [.t 90, .t 91], .none, none, none⟩,
        ⟨(some 93), (.fa 2), [.t 92], .none, none, none⟩,
        ⟨(some 94), (.ld false 1), [.t 93], .none, none, none⟩,
        ⟨(some 95), (.mm true), [.t 89, .t 94], .none, none, none⟩,
        ⟨(some 96), (.fa 2), [.t 16], .none, none, none⟩,
        ⟨none, (.st 1), [.t 96, .t 95], (.lo 16), none, none⟩] [88, 89, 90, 91, 92, 93, 94, 95, 96, 0])
      (.skip)) <|
    .seq (.reg false [] [
       ⟨(some 97), .mv, [.t 17], .none, none, none⟩,
       ⟨(some 98), .mv, [.t 14], .none, none, none⟩,
       ⟨(some 99), (.ld true 3), [.t 16], (.lo 16), none, none⟩,
       ⟨(some 100), (.ia 3), [.t 97, .t 98], .none, none, none⟩,
       ⟨none, (.st 3), [.t 100, .t 99], .sh, none, none⟩] [97, 98, 99, 100, 14, 16]) <|
    .seq (.reg false [] [
       ⟨(some 101), .mv, [.t 17], .none, none, none⟩,
       ⟨(some 10), .mvo, [.t 101], .none, (some 101), none⟩,
       ⟨(some 11), .mv, [.c (.int .i64 0)], .none, none, none⟩] [101, 17]) <|
    .ret }

/- bitext/lock.Validate -/
def L28_0 : ACode :=
  .loop [11, 12, 13, 14, 4, 3, 16, 17, 18, 19, 20, 21, 22, 23, 24, 25, 26, 27, 28, 15, 2, 30, 31, 32, 33, 29, 35, 36, 37, 38, 39, 40, 41, 42, 43, 44, 45, 46, 47, 34, 48] (.seq (.reg false [] [⟨(some 11), (.bin .lss), [.t 10, .t 9], .none, none, none⟩] []) <|
    .seq (.cond (.t 11) (.skip)
      (.exit 0)) <|
    .seq (.block 1 (.seq (.reg false [4] [
         ⟨(some 12), .mv, [.t 10], .none, none, none⟩,
         ⟨(some 13), (.ia 3), [.t 8, .t 10], .none, none, none⟩,
         ⟨(some 14), (.ld true 3), [.t 13], .none, none, none⟩,
         ⟨(some 4), (.alloc [.int .i64 0, .str [], .int .i64 0]), [], (.lo 4), none, none⟩,
         ⟨(some 3), .mv, [.t 12], .none, none, none⟩,
         ⟨none, (.st 3), [.t 4, .t 14], (.lo 4), none, none⟩] [12, 13, 14]) <|
      .block 2 (.seq (.reg false [] [
          ⟨(some 16), (.fa 0), [.t 4], .none, none, none⟩,
          ⟨(some 17), (.ld false 1), [.t 16], (.lo 4), none, none⟩,
          ⟨(some 18), (.bin .lss), [.t 17, .c (.int .i64 1)], .none, none, none⟩,
          ⟨(some 19), .mv, [.t 18], .none, none, none⟩,
          ⟨(some 20), (.fa 2), [.t 4], .none, none, (some (19, false))⟩,
          ⟨(some 21), (.ld false 1), [.t 20], (.lo 4), none, (some (19, false))⟩,
          ⟨(some 22), (.bin .lss), [.t 21, .c (.int .i64 1)], .none, none, (some (19, false))⟩,
          ⟨(some 23), .pick, [.t 19, .c (.bool true), .t 22], .none, none, none⟩,
          ⟨(some 24), .mv, [.t 23], .none, none, none⟩,
          ⟨(some 25), (.fa 2), [.t 4], .none, none, (some (24, false))⟩,
          ⟨(some 26), (.ld false 1), [.t 25], (.lo 4), none, (some (24, false))⟩,
          ⟨(some 27), (.bin .gtr), [.t 26, .c (.int .i64 1073741824)], .none, none, (some (24, false))⟩,
          ⟨(some 28), .pick, [.t 24, .c (.bool true), .t 27], .none, none, none⟩,
          ⟨(some 15), .mv, [.t 28], .none, none, none⟩] [16, 17, 18, 19, 20, 21, 22, 23, 24, 25, 26, 27, 28]) <|
       .cond (.t 15) (.seq (.reg false [] [⟨(some 2), .mv, [.c (.int .i64 1)], .none, none, none⟩] []) <|
        .ret)
        (.seq (.reg false [] [
           ⟨(some 30), (.fa 1), [.t 4], .none, none, none⟩,
           ⟨(some 31), (.ld false 1), [.t 30], (.lo 4), none, none⟩,
           ⟨(some 32), (.call 52), [.t 31], .none, none, none⟩,
           ⟨(some 33), (.un .not), [.t 32], .none, none, none⟩,
           ⟨(some 29), .mv, [.t 33], .none, none, none⟩] [30, 31, 32, 33]) <|
        .cond (.t 29) (.seq (.reg false [] [⟨(some 2), .mv, [.c (.int .i64 4)], .none, none, none⟩] []) <|
         .ret)
         (.seq (.reg true [] [
            ⟨(some 35), .mv, [.t 3], .none, none, none⟩,
            ⟨(some 36), (.bin .gtr), [.t 35, .c (.int .i64 0)], .none, none, none⟩,
            ⟨(some 37), .mv, [.t 36], .none, none, none⟩,
            ⟨(some 38), (.fa 0), [.t 4], .none, none, (some (37, true))⟩,
            ⟨(some 39), (.ld false 1), [.t 38], (.lo 4), none, (some (37, true))⟩,
            ⟨(some 40), .mv, [.t 0], .none, none, (some (37, true))⟩,
            ⟨(some 41), .mv, [.t 3], .none, none, (some (37, true))⟩,
            ⟨(some 42), (.bin .sub), [.t 41, .c (.int .i64 1)], .none, none, (some (37, true))⟩,
            ⟨(some 43), (.ia 3), [.t 40, .t 42], .none, none, (some (37, true))⟩,
            ⟨(some 44), (.fa 0), [.t 43], .none, none, (some (37, true))⟩,
            ⟨(some 45), (.ld false 1), [.t 44], .none, none, (some (37, true))⟩,
            ⟨(some 46), (.bin .leq), [.t 39, .t 45], .none, none, (some (37, true))⟩,
            ⟨(some 47), .pick, [.t 37, .t 46, .c (.bool false)], .none, none, none⟩,
            ⟨(some 34), .mv, [.t 47], .none, none, none⟩] [35, 36, 37, 38, 39, 40, 41, 42, 43, 44, 45, 46, 47, 3, 4]) <|
         .cond (.t 34) (.seq (.reg false [] [⟨(some 2), .mv, [.c (.int .i64 11)], .none, none, none⟩] []) <|
          .ret)
          (.skip)))))) <|
    .reg false [] [
      ⟨(some 48), (.bin .add), [.t 10, .c (.int .i64 1)], .none, none, none⟩,
      ⟨(some 10), .mv, [.t 48], .none, none, none⟩] [48])
def F28 : AFun :=
  { nargs := 1, keep := false, res := [.tmp 2], body :=
    .seq (.reg false [] [⟨(some 2), .mv, [.c (.int .i64 0)], .none, none, none⟩] [2]) <|
    .seq (.seq (.reg false [] [
        ⟨(some 5), .mv, [.t 0], .none, none, none⟩,
        ⟨(some 6), (.len false), [.t 5], .none, none, none⟩,
        ⟨(some 7), (.bin .gtr), [.t 6, .c (.int .i64 512)], .none, none, none⟩] [5, 6]) <|
     .cond (.t 7) (.seq (.reg false [] [⟨(some 2), .mv, [.c (.int .i64 3)], .none, none, none⟩] []) <|
      .ret)
      (.skip)) <|
    .seq (.seq (.reg false [] [
        ⟨(some 8), .mv, [.t 0], .none, none, none⟩,
        ⟨(some 9), (.len false), [.t 8], .none, none, none⟩,
        ⟨(some 10), .mv, [.c (.int .i64 0)], .none, none, none⟩] []) <|
     .block 0 (L28_0)) <|
    .seq (.reg false [] [⟨(some 2), .mv, [.c (.int .i64 0)], .none, none, none⟩] []) <|
    .ret }

/- bitext/bitextref28.ValidateLeases -/
def L29_0 : ACode :=
  .loop [11, 12, 13, 14, 4, 3, 15, 16, 17, 18, 19, 20, 21, 22, 23, 24, 25, 26, 27, 2, 28, 29, 30, 31, 32, 33, 34, 35, 36, 37, 38, 39, 40, 41, 42, 43, 44, 45] (.seq (.reg false [] [⟨(some 11), (.bin .lss), [.t 10, .t 9], .none, none, none⟩] []) <|
    .seq (.cond (.t 11) (.skip)
      (.exit 0)) <|
    .seq (.block 1 (.seq (.reg false [4] [
         ⟨(some 12), .mv, [.t 10], .none, none, none⟩,
         ⟨(some 13), (.ia 3), [.t 8, .t 10], .none, none, none⟩,
         ⟨(some 14), (.ld true 3), [.t 13], .none, none, none⟩,
         ⟨(some 4), (.alloc [.int .i64 0, .str [], .int .i64 0]), [], (.lo 4), none, none⟩,
         ⟨(some 3), .mv, [.t 12], .none, none, none⟩,
         ⟨none, (.st 3), [.t 4, .t 14], (.lo 4), none, none⟩] [12, 13, 14]) <|
      .seq (.seq (.reg false [] [
          ⟨(some 15), (.fa 0), [.t 4], .none, none, none⟩,
          ⟨(some 16), (.ld false 1), [.t 15], (.lo 4), none, none⟩,
          ⟨(some 17), (.bin .lss), [.t 16, .c (.int .i64 1)], .none, none, none⟩,
          ⟨(some 18), .mv, [.t 17], .none, none, none⟩,
          ⟨(some 19), (.fa 2), [.t 4], .none, none, (some (18, false))⟩,
          ⟨(some 20), (.ld false 1), [.t 19], (.lo 4), none, (some (18, false))⟩,
          ⟨(some 21), (.bin .lss), [.t 20, .c (.int .i64 1)], .none, none, (some (18, false))⟩,
          ⟨(some 22), .pick, [.t 18, .c (.bool true), .t 21], .none, none, none⟩,
          ⟨(some 23), .mv, [.t 22], .none, none, none⟩,
          ⟨(some 24), (.fa 2), [.t 4], .none, none, (some (23, false))⟩,
          ⟨(some 25), (.ld false 1), [.t 24], (.lo 4), none, (some (23, false))⟩,
          ⟨(some 26), (.bin .gtr), [.t 25, .c (.int .i64 1073741824)], .none, none, (some (23, false))⟩,
          ⟨(some 27), .pick, [.t 23, .c (.bool true), .t 26], .none, none, none⟩] [15, 16, 17, 18, 19, 20, 21, 22, 23, 24, 25, 26]) <|
       .cond (.t 27) (.seq (.reg false [] [⟨(some 2), .mv, [.c (.int .i64 1)], .none, none, none⟩] []) <|
        .ret)
        (.skip)) <|
      .seq (.seq (.reg false [] [
          ⟨(some 28), (.fa 1), [.t 4], .none, none, none⟩,
          ⟨(some 29), (.ld false 1), [.t 28], (.lo 4), none, none⟩,
          ⟨(some 30), (.call 56), [.t 29], .none, none, none⟩,
          ⟨(some 31), (.un .not), [.t 30], .none, none, none⟩] [28, 29, 30]) <|
       .cond (.t 31) (.seq (.reg false [] [⟨(some 2), .mv, [.c (.int .i64 4)], .none, none, none⟩] []) <|
        .ret)
        (.skip)) <|
      .seq (.reg true [] [
         ⟨(some 32), .mv, [.t 3], .none, none, none⟩,
         ⟨(some 33), (.bin .gtr), [.t 32, .c (.int .i64 0)], .none, none, none⟩,
         ⟨(some 34), .mv, [.t 33], .none, none, none⟩,
         ⟨(some 35), (.fa 0), [.t 4], .none, none, (some (34, true))⟩,
         ⟨(some 36), (.ld false 1), [.t 35], (.lo 4), none, (some (34, true))⟩,
         ⟨(some 37), .mv, [.t 0], .none, none, (some (34, true))⟩,
         ⟨(some 38), .mv, [.t 3], .none, none, (some (34, true))⟩,
         ⟨(some 39), (.bin .sub), [.t 38, .c (.int .i64 1)], .none, none, (some (34, true))⟩,
         ⟨(some 40), (.ia 3), [.t 37, .t 39], .none, none, (some (34, true))⟩,
         ⟨(some 41), (.fa 0), [.t 40], .none, none, (some (34, true))⟩,
         ⟨(some 42), (.ld false 1), [.t 41], .none, none, (some (34, true))⟩,
         ⟨(some 43), (.bin .leq), [.t 36, .t 42], .none, none, (some (34, true))⟩,
         ⟨(some 44), .pick, [.t 34, .t 43, .c (.bool false)], .none, none, none⟩] [32, 33, 34, 35, 36, 37, 38, 39, 40, 41, 42, 43, 3, 4]) <|
      .cond (.t 44) (.seq (.reg false [] [⟨(some 2), .mv, [.c (.int .i64 11)], .none, none, none⟩] []) <|
       .ret)
       (.skip))) <|
    .reg false [] [
      ⟨(some 45), (.bin .add), [.t 10, .c (.int .i64 1)], .none, none, none⟩,
      ⟨(some 10), .mv, [.t 45], .none, none, none⟩] [45])
def F29 : AFun :=
  { nargs := 1, keep := false, res := [.tmp 2], body :=
    .seq (.reg false [] [⟨(some 2), .mv, [.c (.int .i64 0)], .none, none, none⟩] [2]) <|
    .seq (.seq (.reg false [] [
        ⟨(some 5), .mv, [.t 0], .none, none, none⟩,
        ⟨(some 6), (.len false), [.t 5], .none, none, none⟩,
        ⟨(some 7), (.bin .gtr), [.t 6, .c (.int .i64 512)], .none, none, none⟩] [5, 6]) <|
     .cond (.t 7) (.seq (.reg false [] [⟨(some 2), .mv, [.c (.int .i64 3)], .none, none, none⟩] []) <|
      .ret)
      (.skip)) <|
    .seq (.seq (.reg false [] [
        ⟨(some 8), .mv, [.t 0], .none, none, none⟩,
        ⟨(some 9), (.len false), [.t 8], .none, none, none⟩,
        ⟨(some 10), .mv, [.c (.int .i64 0)], .none, none, none⟩] []) <|
     .block 0 (L29_0)) <|
    .seq (.reg false [] [⟨(some 2), .mv, [.c (.int .i64 0)], .none, none, none⟩] []) <|
    .ret }

/- bitext/bitextlaw29.known -/
def F30 : AFun :=
  { nargs := 0, keep := false, res := [.tmp 0], body :=
    .seq (.reg false [] [⟨(some 0), .mv, [.c (.bool false)], .none, none, none⟩] [0]) <|
    .seq (.reg false [] [
       ⟨(some 8), (.call 25), [.c (.sl .full 3 []), .c (.int .i64 5), .c (.str [97, 110, 110]), .c (.int .i64 0), .c (.int .i64 10)], .none, none, none⟩,
       ⟨(some 7), .mv, [.t 8], .none, none, none⟩,
       ⟨(some 9), (.ext 0), [.t 7], .none, none, none⟩,
       ⟨(some 10), (.ext 1), [.t 7], .none, none, none⟩,
       ⟨(some 1), .mvo, [.t 9], .none, (some 9), none⟩,
       ⟨(some 2), .mv, [.t 10], .none, none, none⟩] [8, 7, 9, 10]) <|
    .seq (.reg false [] [
       ⟨(some 12), .mv, [.t 1], .none, none, none⟩,
       ⟨(some 13), (.call 25), [.t 12, .c (.int .i64 5), .c (.str [98, 111, 98]), .c (.int .i64 9), .c (.int .i64 1)], .none, none, none⟩,
       ⟨(some 11), .mv, [.t 13], .none, none, none⟩,
       ⟨(some 14), (.ext 0), [.t 11], .none, none, none⟩,
       ⟨(some 15), (.ext 1), [.t 11], .none, none, none⟩,
       ⟨(some 3), .mvo, [.t 14], .none, (some 14), none⟩,
       ⟨(some 4), .mv, [.t 15], .none, none, none⟩] [12, 13, 11, 14, 15, 3]) <|
    .seq (.reg false [] [
       ⟨(some 17), .mv, [.t 1], .none, none, none⟩,
       ⟨(some 18), (.call 25), [.t 17, .c (.int .i64 5), .c (.str [97, 110, 110]), .c (.int .i64 4), .c (.int .i64 2)], .none, none, none⟩,
       ⟨(some 16), .mv, [.t 18], .none, none, none⟩,
       ⟨(some 19), (.ext 0), [.t 16], .none, none, none⟩,
       ⟨(some 20), (.ext 1), [.t 16], .none, none, none⟩,
       ⟨(some 5), .mvo, [.t 19], .none, (some 19), none⟩,
       ⟨(some 6), .mv, [.t 20], .none, none, none⟩] [17, 18, 16, 19, 20, 1]) <|
    .seq (.reg false [] [
       ⟨(some 21), .mv, [.t 2], .none, none, none⟩,
       ⟨(some 22), (.bin .eql), [.t 21, .c (.int .i64 0)], .none, none, none⟩,
       ⟨(some 23), .mv, [.t 22], .none, none, none⟩,
       ⟨(some 24), .mv, [.t 4], .none, none, (some (23, true))⟩,
       ⟨(some 25), (.bin .eql), [.t 24, .c (.int .i64 9)], .none, none, (some (23, true))⟩,
       ⟨(some 26), .pick, [.t 23, .t 25, .c (.bool false)], .none, none, none⟩,
       ⟨(some 27), .mv, [.t 26], .none, none, none⟩,
       ⟨(some 28), .mv, [.t 6], .none, none, (some (27, true))⟩,
       ⟨(some 29), (.bin .eql), [.t 28, .c (.int .i64 0)], .none, none, (some (27, true))⟩,
       ⟨(some 30), .pick, [.t 27, .t 29, .c (.bool false)], .none, none, none⟩,
       ⟨(some 31), .mv, [.t 30], .none, none, none⟩,
       ⟨(some 32), .mv, [.t 5], .none, none, (some (31, true))⟩,
       ⟨(some 33), (.call 33), [.t 32, .c (.int .i64 5), .c (.int .i64 9)], .none, none, (some (31, true))⟩,
       ⟨(some 34), (.bin .eql), [.t 33, .c (.str [97, 110, 110])], .none, none, (some (31, true))⟩,
       ⟨(some 35), .pick, [.t 31, .t 34, .c (.bool false)], .none, none, none⟩,
       ⟨(some 36), .mv, [.t 35], .none, none, none⟩,
       ⟨(some 37), .mv, [.t 5], .none, none, (some (36, true))⟩,
       ⟨(some 38), (.call 33), [.t 37, .c (.int .i64 5), .c (.int .i64 10)], .none, none, (some (36, true))⟩,
       ⟨(some 39), (.bin .eql), [.t 38, .c (.str [])], .none, none, (some (36, true))⟩,
       ⟨(some 40), .pick, [.t 36, .t 39, .c (.bool false)], .none, none, none⟩,
       ⟨(some 0), .mv, [.t 40], .none, none, none⟩] [21, 22, 23, 24, 25, 26, 27, 28, 29, 30, 31, 32, 33, 34, 35, 36, 37, 38, 39, 40, 2, 4, 6, 5]) <|
    .ret }

/- bitext/bitextlaw29.long -/
def L31_0 : ACode :=
  .loop [9, 10, 11, 5, 12, 13, 14, 15, 16] (.seq (.reg false [] [⟨(some 9), (.bin .lss), [.t 8, .t 7], .none, none, none⟩] []) <|
    .seq (.cond (.t 9) (.skip)
      (.exit 0)) <|
    .seq (.block 1 (.seq (.reg false [] [
         ⟨(some 10), (.ia 1), [.t 6, .t 8], .none, none, none⟩,
         ⟨(some 11), (.ld false 1), [.t 10], .none, none, none⟩,
         ⟨(some 5), .mvo, [.t 11], .none, (some 11), none⟩] [10, 11]) <|
      .reg false [] [
        ⟨(some 12), .mv, [.t 3], .none, none, none⟩,
        ⟨(some 13), .mv, [.t 5], .none, none, none⟩,
        ⟨(some 14), (.len false), [.t 13], .none, none, none⟩,
        ⟨(some 15), (.bin .add), [.t 12, .t 14], .none, none, none⟩,
        ⟨(some 3), .mv, [.t 15], .none, none, none⟩] [12, 13, 14, 15, 5])) <|
    .reg false [] [
      ⟨(some 16), (.bin .add), [.t 8, .c (.int .i64 1)], .none, none, none⟩,
      ⟨(some 8), .mv, [.t 16], .none, none, none⟩] [16])
def F31 : AFun :=
  { nargs := 1, keep := false, res := [.tmp 2], body :=
    .seq (.reg false [] [⟨(some 2), .mv, [.c (.bool false)], .none, none, none⟩] [2]) <|
    .seq (.reg false [] [⟨(some 3), .mv, [.c (.int .i64 0)], .none, none, none⟩] []) <|
    .seq (.seq (.reg false [] [
        ⟨(some 6), .mv, [.t 0], .none, none, none⟩,
        ⟨(some 7), (.len false), [.t 6], .none, none, none⟩,
        ⟨(some 8), .mv, [.c (.int .i64 0)], .none, none, none⟩] [0]) <|
     .block 0 (L31_0)) <|
    .seq (.reg false [] [
       ⟨(some 17), .mv, [.t 3], .none, none, none⟩,
       ⟨(some 18), (.bin .gtr), [.t 17, .c (.int .i64 160)], .none, none, none⟩,
       ⟨(some 2), .mv, [.t 18], .none, none, none⟩] [17, 18, 3]) <|
    .ret }

/- bitext/bitextlaw29.leases -/
def L32_0 : ACode :=
  .loop [11, 12, 15, 16, 17, 18, 19, 20, 21, 22, 23, 24, 25, 26, 27, 28, 29, 13, 14] (.seq (.seq (.reg false [] [
        ⟨(some 11), .mv, [.t 6], .none, none, none⟩,
        ⟨(some 12), (.bin .gtr), [.t 11, .c (.int .i64 0)], .none, none, none⟩] [11]) <|
     .cond (.t 12) (.skip)
      (.exit 0)) <|
    .seq (.block 1 (.seq (.reg false [] [
         ⟨(some 15), .mv, [.t 5], .none, none, none⟩,
         ⟨(some 16), .mv, [.t 3], .none, none, none⟩,
         ⟨(some 17), (.call 36), [.t 16, .c (.int .i64 3)], .sh, none, none⟩,
         ⟨(some 18), (.bin .add), [.c (.int .i64 1), .t 17], .none, none, none⟩,
         ⟨(some 19), (.bin .add), [.t 15, .t 18], .none, none, none⟩,
         ⟨(some 5), .mv, [.t 19], .none, none, none⟩] [15, 16, 17, 18, 19]) <|
      .reg false [] [
        ⟨(some 20), .mvo, [.t 4], .none, (some 4), none⟩,
        ⟨(some 21), .mv, [.t 5], .none, none, none⟩,
        ⟨(some 22), .mv, [.t 3], .none, none, none⟩,
        ⟨(some 23), (.call 37), [.t 22], .sh, none, none⟩,
        ⟨(some 24), .mv, [.t 3], .none, none, none⟩,
        ⟨(some 25), (.call 36), [.t 24, .c (.int .i64 20)], .sh, none, none⟩,
        ⟨(some 26), (.bin .add), [.c (.int .i64 1), .t 25], .none, none, none⟩,
        ⟨(some 27), (.build [.int .i64 0, .str [], .int .i64 0] [(0, 1), (1, 1), (2, 1)]), [.t 21, .t 23, .t 26], .none, none, none⟩,
        ⟨(some 28), (.mks 3 [.int .i64 0, .str [], .int .i64 0] 1 [0]), [.t 27], .none, none, none⟩,
        ⟨(some 29), (.app false 3 32), [.t 20, .t 28], .none, (some 20), none⟩,
        ⟨(some 4), .mvo, [.t 29], .none, (some 29), none⟩] [20, 21, 22, 23, 24, 25, 26, 27, 28, 29])) <|
    .reg false [] [
      ⟨(some 13), .mv, [.t 6], .none, none, none⟩,
      ⟨(some 14), (.bin .sub), [.t 13, .c (.int .i64 1)], .none, none, none⟩,
      ⟨(some 6), .mv, [.t 14], .none, none, none⟩] [13, 14])
def F32 : AFun :=
  { nargs := 1, keep := false, res := [.tmp 2], body :=
    .seq (.reg false [] [⟨(some 2), .mv, [.c (.sl .full 3 [])], .none, none, none⟩] [2]) <|
    .seq (.reg false [] [
       ⟨(some 7), .mv, [.t 0], .none, none, none⟩,
       ⟨(some 8), (.call 35), [.t 7], .sh, none, none⟩,
       ⟨(some 3), .mv, [.t 8], .none, none, none⟩] [7, 8, 0]) <|
    .seq (.reg false [] [⟨(some 4), .mv, [.c (.sl .full 3 [])], .none, none, none⟩] []) <|
    .seq (.reg false [] [⟨(some 5), .mv, [.c (.int .i64 0)], .none, none, none⟩] []) <|
    .seq (.seq (.reg false [] [
        ⟨(some 9), .mv, [.t 3], .none, none, none⟩,
        ⟨(some 10), (.call 36), [.t 9, .c (.int .i64 6)], .sh, none, none⟩,
        ⟨(some 6), .mv, [.t 10], .none, none, none⟩] [9, 10]) <|
     .block 0 (L32_0)) <|
    .seq (.reg false [] [
       ⟨(some 30), .mv, [.t 4], .none, none, none⟩,
       ⟨(some 2), .mvo, [.t 30], .none, (some 30), none⟩] [30, 4]) <|
    .ret }

/- bitext/lock.Holder -/
def L33_0 : ACode :=
  .loop [12, 13, 14, 8, 15, 16, 17, 18, 19, 20, 21, 22, 23, 24, 25, 26, 6, 27] (.seq (.reg false [] [⟨(some 12), (.bin .lss), [.t 11, .t 10], .none, none, none⟩] []) <|
    .seq (.cond (.t 12) (.skip)
      (.exit 0)) <|
    .seq (.block 1 (.seq (.reg false [8] [
         ⟨(some 13), (.ia 3), [.t 9, .t 11], .none, none, none⟩,
         ⟨(some 14), (.ld true 3), [.t 13], .none, none, none⟩,
         ⟨(some 8), (.alloc [.int .i64 0, .str [], .int .i64 0]), [], (.lo 8), none, none⟩,
         ⟨none, (.st 3), [.t 8, .t 14], (.lo 8), none, none⟩] [13, 14]) <|
      .seq (.reg false [] [
         ⟨(some 15), (.fa 0), [.t 8], .none, none, none⟩,
         ⟨(some 16), (.ld false 1), [.t 15], (.lo 8), none, none⟩,
         ⟨(some 17), .mv, [.t 1], .none, none, none⟩,
         ⟨(some 18), (.bin .eql), [.t 16, .t 17], .none, none, none⟩,
         ⟨(some 19), .mv, [.t 18], .none, none, none⟩,
         ⟨(some 20), (.fa 2), [.t 8], .none, none, (some (19, true))⟩,
         ⟨(some 21), (.ld false 1), [.t 20], (.lo 8), none, (some (19, true))⟩,
         ⟨(some 22), .mv, [.t 2], .none, none, (some (19, true))⟩,
         ⟨(some 23), (.bin .gtr), [.t 21, .t 22], .none, none, (some (19, true))⟩,
         ⟨(some 24), .pick, [.t 19, .t 23, .c (.bool false)], .none, none, none⟩] [15, 16, 17, 18, 19, 20, 21, 22, 23]) <|
      .cond (.t 24) (.seq (.reg false [] [
          ⟨(some 25), (.fa 1), [.t 8], .none, none, none⟩,
          ⟨(some 26), (.ld false 1), [.t 25], (.lo 8), none, none⟩,
          ⟨(some 6), .mv, [.t 26], .none, none, none⟩] [25, 26, 8]) <|
       .ret)
       (.skip))) <|
    .reg false [] [
      ⟨(some 27), (.bin .add), [.t 11, .c (.int .i64 1)], .none, none, none⟩,
      ⟨(some 11), .mv, [.t 27], .none, none, none⟩] [27])
def F33 : AFun :=
  { nargs := 3, keep := false, res := [.tmp 6], body :=
    .seq (.reg false [] [⟨(some 6), .mv, [.c (.str [])], .none, none, none⟩] [6]) <|
    .seq (.seq (.reg false [] [
        ⟨(some 9), .mv, [.t 0], .none, none, none⟩,
        ⟨(some 10), (.len false), [.t 9], .none, none, none⟩,
        ⟨(some 11), .mv, [.c (.int .i64 0)], .none, none, none⟩] [0]) <|
     .block 0 (L33_0)) <|
    .seq (.reg false [] [⟨(some 6), .mv, [.c (.str [])], .none, none, none⟩] []) <|
    .ret }

/- bitext/bitextref28.Holder -/
def L34_0 : ACode :=
  .loop [12, 13, 14, 8, 15, 16, 17, 18, 19, 20, 21, 22, 23, 24, 25, 26, 6, 27] (.seq (.reg false [] [⟨(some 12), (.bin .lss), [.t 11, .t 10], .none, none, none⟩] []) <|
    .seq (.cond (.t 12) (.skip)
      (.exit 0)) <|
    .seq (.block 1 (.seq (.reg false [8] [
         ⟨(some 13), (.ia 3), [.t 9, .t 11], .none, none, none⟩,
         ⟨(some 14), (.ld true 3), [.t 13], .none, none, none⟩,
         ⟨(some 8), (.alloc [.int .i64 0, .str [], .int .i64 0]), [], (.lo 8), none, none⟩,
         ⟨none, (.st 3), [.t 8, .t 14], (.lo 8), none, none⟩] [13, 14]) <|
      .seq (.reg false [] [
         ⟨(some 15), (.fa 0), [.t 8], .none, none, none⟩,
         ⟨(some 16), (.ld false 1), [.t 15], (.lo 8), none, none⟩,
         ⟨(some 17), .mv, [.t 1], .none, none, none⟩,
         ⟨(some 18), (.bin .eql), [.t 16, .t 17], .none, none, none⟩,
         ⟨(some 19), .mv, [.t 18], .none, none, none⟩,
         ⟨(some 20), (.fa 2), [.t 8], .none, none, (some (19, true))⟩,
         ⟨(some 21), (.ld false 1), [.t 20], (.lo 8), none, (some (19, true))⟩,
         ⟨(some 22), .mv, [.t 2], .none, none, (some (19, true))⟩,
         ⟨(some 23), (.bin .gtr), [.t 21, .t 22], .none, none, (some (19, true))⟩,
         ⟨(some 24), .pick, [.t 19, .t 23, .c (.bool false)], .none, none, none⟩] [15, 16, 17, 18, 19, 20, 21, 22, 23]) <|
      .cond (.t 24) (.seq (.reg false [] [
          ⟨(some 25), (.fa 1), [.t 8], .none, none, none⟩,
          ⟨(some 26), (.ld false 1), [.t 25], (.lo 8), none, none⟩,
          ⟨(some 6), .mv, [.t 26], .none, none, none⟩] [25, 26, 8]) <|
       .ret)
       (.skip))) <|
    .reg false [] [
      ⟨(some 27), (.bin .add), [.t 11, .c (.int .i64 1)], .none, none, none⟩,
      ⟨(some 11), .mv, [.t 27], .none, none, none⟩] [27])
def F34 : AFun :=
  { nargs := 3, keep := false, res := [.tmp 6], body :=
    .seq (.reg false [] [⟨(some 6), .mv, [.c (.str [])], .none, none, none⟩] [6]) <|
    .seq (.seq (.reg false [] [
        ⟨(some 9), .mv, [.t 0], .none, none, none⟩,
        ⟨(some 10), (.len false), [.t 9], .none, none, none⟩,
        ⟨(some 11), .mv, [.c (.int .i64 0)], .none, none, none⟩] [0]) <|
     .block 0 (L34_0)) <|
    .seq (.reg false [] [⟨(some 6), .mv, [.c (.str [])], .none, none, none⟩] []) <|
    .ret }

/- bitext/bitextlaw29.from -/
def F35 : AFun :=
  { nargs := 1, keep := true, res := [.tmp 2], body :=
    .seq (.reg false [] [⟨(some 2), .mv, [.c (.nilp)], .none, none, none⟩] [2]) <|
    .seq (.reg false [] [
       ⟨(some 3), .mv, [.t 0], .none, none, none⟩,
       ⟨(some 4), (.build [.sl .full 1 [], .int .i64 0] [(0, 1)]), [.t 3], .none, none, none⟩,
       ⟨(some 5), (.boxS 2), [.t 4], .sh, none, none⟩,
       ⟨(some 2), .mv, [.t 5], .none, none, none⟩] [3, 4, 5, 0]) <|
    .ret }

/- (*bitext/bitextmake.Numbers).Next -/
def F36 : AFun :=
  { nargs := 2, keep := false, res := [.tmp 4], body :=
    .seq (.reg false [] [⟨(some 4), .mv, [.c (.int .i64 0)], .none, none, none⟩] [4]) <|
    .seq (.reg false [] [⟨(some 5), .mv, [.c (.int .i64 0)], .none, none, none⟩] []) <|
    .seq (.seq (.reg true [] [
        ⟨(some 6), .mv, [.t 0], .none, none, none⟩,
        ⟨(some 7), .nilc, [.t 6], .none, none, none⟩,
        ⟨(some 8), (.fa 1), [.t 7], .none, none, none⟩,
        ⟨(some 9), (.ld false 1), [.t 8], .sh, none, none⟩,
        ⟨(some 10), .mv, [.t 0], .none, none, none⟩,
        ⟨(some 11), .nilc, [.t 10], .none, none, none⟩,
        ⟨(some 12), (.fa 0), [.t 11], .none, none, none⟩,
        ⟨(some 13), (.ld false 1), [.t 12], .sh, none, none⟩,
        ⟨(some 14), (.len false), [.t 13], .none, none, none⟩,
        ⟨(some 15), (.bin .lss), [.t 9, .t 14], .none, none, none⟩] [6, 7, 8, 9, 10, 11, 12, 13, 14]) <|
     .cond (.t 15) (.reg true [] [
        ⟨(some 16), .mv, [.t 0], .none, none, none⟩,
        ⟨(some 17), .nilc, [.t 16], .none, none, none⟩,
        ⟨(some 18), (.fa 0), [.t 17], .none, none, none⟩,
        ⟨(some 19), (.ld false 1), [.t 18], .sh, none, none⟩,
        ⟨(some 20), .mv, [.t 0], .none, none, none⟩,
        ⟨(some 21), .nilc, [.t 20], .none, none, none⟩,
        ⟨(some 22), (.fa 1), [.t 21], .none, none, none⟩,
        ⟨(some 23), (.ld false 1), [.t 22], .sh, none, none⟩,
        ⟨(some 24), (.ia 1), [.t 19, .t 23], .none, none, none⟩,
        ⟨(some 25), (.ld false 1), [.t 24], .none, none, none⟩,
        ⟨(some 5), .mv, [.t 25], .none, none, none⟩] [16, 17, 18, 19, 20, 21, 22, 23, 24, 25])
      (.skip)) <|
    .seq (.reg false [] [
       ⟨(some 26), .mv, [.t 0], .none, none, none⟩,
       ⟨(some 27), .nilc, [.t 26], .none, none, none⟩,
       ⟨(some 28), (.fa 1), [.t 27], .none, none, none⟩,
       ⟨(some 29), (.ld false 1), [.t 28], .sh, none, none⟩,
       ⟨(some 30), (.bin .add), [.t 29, .c (.int .i64 1)], .none, none, none⟩,
       ⟨(some 31), .nilc, [.t 26], .none, none, none⟩,
       ⟨(some 32), (.fa 1), [.t 31], .none, none, none⟩,
       ⟨none, (.st 1), [.t 32, .t 30], .sh, none, none⟩] [26, 27, 28, 29, 30, 31, 32, 0]) <|
    .seq (.reg false [] [
       ⟨(some 33), .mv, [.t 5], .none, none, none⟩,
       ⟨(some 34), .mv, [.t 1], .none, none, none⟩,
       ⟨(some 35), (.call 24), [.t 33, .t 34], .none, none, none⟩,
       ⟨(some 4), .mv, [.t 35], .none, none, none⟩] [33, 34, 35, 5, 1]) <|
    .ret }

/- bitext/bitextmake.Name -/
def F37 : AFun :=
  { nargs := 1, keep := false, res := [.tmp 2], body :=
    .seq (.reg false [] [⟨(some 2), .mv, [.c (.str [])], .none, none, none⟩] [2]) <|
    .seq (.reg false [] [
       ⟨(some 3), (.mks 1 [.str []] 4 [0, 1, 2, 3]), [.c (.str [97, 110, 110]), .c (.str [98, 111, 98]), .c (.str [101, 118, 101]), .c (.str [114, 111, 98])], .none, none, none⟩,
       ⟨(some 4), .mv, [.t 0], .none, none, none⟩,
       ⟨(some 5), (.call 36), [.t 4, .c (.int .i64 4)], .sh, none, none⟩,
       ⟨(some 6), (.ia 1), [.t 3, .t 5], .none, none, none⟩,
       ⟨(some 7), (.ld false 1), [.t 6], .none, none, none⟩,
       ⟨(some 2), .mv, [.t 7], .none, none, none⟩] [3, 4, 5, 6, 7, 0]) <|
    .ret }

/- bitext/lock.Release -/
def F38 : AFun :=
  { nargs := 4, keep := false, res := [.tmp 8, .tmp 9], body :=
    .seq (.reg false [] [
       ⟨(some 8), .mv, [.c (.sl .full 3 [])], .none, none, none⟩,
       ⟨(some 9), .mv, [.c (.int .i64 0)], .none, none, none⟩] [8, 9]) <|
    .seq (.seq (.reg false [] [
        ⟨(some 13), .mv, [.t 0], .none, none, none⟩,
        ⟨(some 14), (.call 28), [.t 13], .none, none, none⟩,
        ⟨(some 10), .mv, [.t 14], .none, none, none⟩] [13, 14]) <|
     .seq (.reg false [] [
        ⟨(some 15), .mv, [.t 10], .none, none, none⟩,
        ⟨(some 16), (.bin .neq), [.t 15, .c (.int .i64 0)], .none, none, none⟩] [15]) <|
     .cond (.t 16) (.seq (.reg false [] [
         ⟨(some 17), .mv, [.t 10], .none, none, none⟩,
         ⟨(some 8), .mv, [.c (.sl .full 3 [])], .none, none, none⟩,
         ⟨(some 9), .mv, [.t 17], .none, none, none⟩] [17, 10]) <|
      .ret)
      (.skip)) <|
    .seq (.seq (.reg false [] [
        ⟨(some 18), .mv, [.t 0], .none, none, none⟩,
        ⟨(some 19), .mv, [.t 1], .none, none, none⟩,
        ⟨(some 20), .mv, [.t 3], .none, none, none⟩,
        ⟨(some 21), (.call 33), [.t 18, .t 19, .t 20], .none, none, none⟩] [18, 19, 20, 3]) <|
     .block 0 (.seq (.reg false [] [
         ⟨(some 23), (.bin .eql), [.t 21, .c (.str [])], .none, none, none⟩,
         ⟨(some 22), .mv, [.t 23], .none, none, none⟩] [23]) <|
      .cond (.t 22) (.seq (.reg false [] [
          ⟨(some 8), .mv, [.c (.sl .full 3 [])], .none, none, none⟩,
          ⟨(some 9), .mv, [.c (.int .i64 6)], .none, none, none⟩] []) <|
       .ret)
       (.seq (.reg false [] [
          ⟨(some 25), .mv, [.t 2], .none, none, none⟩,
          ⟨(some 26), (.bin .eql), [.t 21, .t 25], .none, none, none⟩,
          ⟨(some 24), .mv, [.t 26], .none, none, none⟩] [25, 26, 2, 21]) <|
       .cond (.t 24) (.seq (.reg false [] [
           ⟨(some 28), .mv, [.t 0], .none, none, none⟩,
           ⟨(some 29), .mv, [.t 1], .none, none, none⟩,
           ⟨(some 30), (.call 53), [.t 28, .t 29], .none, none, none⟩,
           ⟨(some 27), .mv, [.t 30], .none, none, none⟩,
           ⟨(some 31), (.ext 0), [.t 27], .none, none, none⟩,
           ⟨(some 32), (.ext 1), [.t 27], .none, none, none⟩,
           ⟨(some 11), .mv, [.t 31], .none, none, none⟩,
           ⟨(some 12), .mv, [.t 32], .none, none, none⟩] [28, 29, 30, 27, 31, 32, 12, 1]) <|
        .seq (.reg false [] [
           ⟨(some 33), .mv, [.t 0], .none, none, none⟩,
           ⟨(some 34), (.call 54), [.t 33], .sh, none, none⟩,
           ⟨(some 35), .mv, [.t 11], .none, none, none⟩,
           ⟨(some 36), .mv, [.t 11], .none, none, none⟩,
           ⟨(some 37), (.bin .add), [.t 36, .c (.int .i64 1)], .none, none, none⟩,
           ⟨(some 38), (.call 58), [.t 34, .t 35, .t 37], .sh, none, none⟩,
           ⟨(some 8), .mvo, [.t 38], .none, (some 38), none⟩,
           ⟨(some 9), .mv, [.c (.int .i64 0)], .none, none, none⟩] [33, 34, 35, 36, 37, 38, 0, 11]) <|
        .ret)
        (.skip)))) <|
    .seq (.reg false [] [
       ⟨(some 8), .mv, [.c (.sl .full 3 [])], .none, none, none⟩,
       ⟨(some 9), .mv, [.c (.int .i64 9)], .none, none, none⟩] []) <|
    .ret }

/- bitext/lock.Expire -/
def F39 : AFun :=
  { nargs := 2, keep := false, res := [.tmp 4], body :=
    .seq (.reg false [] [
       ⟨(some 3), (.boxS 1), [.t 1], .sh, none, none⟩,
       ⟨(some 4), .mv, [.c (.sl .full 3 [])], .none, none, none⟩] [4, 1]) <|
    .seq (.reg false [] [
       ⟨(some 5), .mv, [.t 0], .none, none, none⟩,
       ⟨(some 6), (.call 54), [.t 5], .sh, none, none⟩,
       ⟨(some 7), (.mkf 60), [.t 3], .none, none, none⟩,
       ⟨(some 8), (.call 59), [.t 6, .t 7], .sh, none, none⟩,
       ⟨(some 4), .mvo, [.t 8], .none, (some 8), none⟩] [5, 6, 7, 8, 0, 3]) <|
    .ret }

/- bitext/class.IsName -/
def L52_0 : ACode :=
  .loop [23, 24, 25, 26, 29, 30, 31, 4, 32, 33, 34, 35, 36, 37, 38, 39, 40, 41, 42, 43, 44, 45, 46, 47, 48, 49, 50, 2, 27, 28] (.seq (.seq (.reg false [] [
        ⟨(some 23), .mv, [.t 3], .none, none, none⟩,
        ⟨(some 24), .mv, [.t 0], .none, none, none⟩,
        ⟨(some 25), (.len true), [.t 24], .none, none, none⟩,
        ⟨(some 26), (.bin .lss), [.t 23, .t 25], .none, none, none⟩] [23, 24, 25]) <|
     .cond (.t 26) (.skip)
      (.exit 0)) <|
    .seq (.block 1 (.seq (.reg false [] [
         ⟨(some 29), .mv, [.t 0], .none, none, none⟩,
         ⟨(some 30), .mv, [.t 3], .none, none, none⟩,
         ⟨(some 31), .ixs, [.t 29, .t 30], .none, none, none⟩,
         ⟨(some 4), .mv, [.t 31], .none, none, none⟩] [29, 30, 31]) <|
      .seq (.reg false [] [
         ⟨(some 32), .mv, [.t 4], .none, none, none⟩,
         ⟨(some 33), (.bin .geq), [.t 32, .c (.int .u8 97)], .none, none, none⟩,
         ⟨(some 34), .mv, [.t 33], .none, none, none⟩,
         ⟨(some 35), .mv, [.t 4], .none, none, (some (34, true))⟩,
         ⟨(some 36), (.bin .leq), [.t 35, .c (.int .u8 122)], .none, none, (some (34, true))⟩,
         ⟨(some 37), .pick, [.t 34, .t 36, .c (.bool false)], .none, none, none⟩,
         ⟨(some 38), .mv, [.t 37], .none, none, none⟩,
         ⟨(some 39), .mv, [.t 4], .none, none, (some (38, false))⟩,
         ⟨(some 40), (.bin .geq), [.t 39, .c (.int .u8 48)], .none, none, (some (38, false))⟩,
         ⟨(some 41), .mv, [.t 40], .none, none, (some (38, false))⟩,
         ⟨(some 42), .mv, [.t 4], .none, none, (some (41, true))⟩,
         ⟨(some 43), (.bin .leq), [.t 42, .c (.int .u8 57)], .none, none, (some (41, true))⟩,
         ⟨(some 44), .pick, [.t 41, .t 43, .c (.bool false)], .none, none, (some (38, false))⟩,
         ⟨(some 45), .pick, [.t 38, .c (.bool true), .t 44], .none, none, none⟩,
         ⟨(some 46), .mv, [.t 45], .none, none, none⟩,
         ⟨(some 47), .mv, [.t 4], .none, none, (some (46, false))⟩,
         ⟨(some 48), (.bin .eql), [.t 47, .c (.int .u8 45)], .none, none, (some (46, false))⟩,
         ⟨(some 49), .pick, [.t 46, .c (.bool true), .t 48], .none, none, none⟩,
         ⟨(some 50), (.un .not), [.t 49], .none, none, none⟩] [32, 33, 34, 35, 36, 37, 38, 39, 40, 41, 42, 43, 44, 45, 46, 47, 48, 49, 4]) <|
      .cond (.t 50) (.seq (.reg false [] [⟨(some 2), .mv, [.c (.bool false)], .none, none, none⟩] []) <|
       .ret)
       (.skip))) <|
    .reg false [] [
      ⟨(some 27), .mv, [.t 3], .none, none, none⟩,
      ⟨(some 28), (.bin .add), [.t 27, .c (.int .i64 1)], .none, none, none⟩,
      ⟨(some 3), .mv, [.t 28], .none, none, none⟩] [27, 28])
def F52 : AFun :=
  { nargs := 1, keep := false, res := [.tmp 2], body :=
    .seq (.reg false [] [⟨(some 2), .mv, [.c (.bool false)], .none, none, none⟩] [2]) <|
    .seq (.seq (.reg false [] [
        ⟨(some 5), .mv, [.t 0], .none, none, none⟩,
        ⟨(some 6), (.len true), [.t 5], .none, none, none⟩,
        ⟨(some 7), (.bin .lss), [.t 6, .c (.int .i64 1)], .none, none, none⟩,
        ⟨(some 8), .mv, [.t 7], .none, none, none⟩,
        ⟨(some 9), .mv, [.t 0], .none, none, (some (8, false))⟩,
        ⟨(some 10), (.len true), [.t 9], .none, none, (some (8, false))⟩,
        ⟨(some 11), (.bin .gtr), [.t 10, .c (.int .i64 24)], .none, none, (some (8, false))⟩,
        ⟨(some 12), .pick, [.t 8, .c (.bool true), .t 11], .none, none, none⟩,
        ⟨(some 13), .mv, [.t 12], .none, none, none⟩,
        ⟨(some 14), .mv, [.t 0], .none, none, (some (13, false))⟩,
        ⟨(some 15), .ixs, [.t 14, .c (.int .i64 0)], .none, none, (some (13, false))⟩,
        ⟨(some 16), (.bin .lss), [.t 15, .c (.int .u8 97)], .none, none, (some (13, false))⟩,
        ⟨(some 17), .pick, [.t 13, .c (.bool true), .t 16], .none, none, none⟩,
        ⟨(some 18), .mv, [.t 17], .none, none, none⟩,
        ⟨(some 19), .mv, [.t 0], .none, none, (some (18, false))⟩,
        ⟨(some 20), .ixs, [.t 19, .c (.int .i64 0)], .none, none, (some (18, false))⟩,
        ⟨(some 21), (.bin .gtr), [.t 20, .c (.int .u8 122)], .none, none, (some (18, false))⟩,
        ⟨(some 22), .pick, [.t 18, .c (.bool true), .t 21], .none, none, none⟩] [5, 6, 7, 8, 9, 10, 11, 12, 13, 14, 15, 16, 17, 18, 19, 20, 21]) <|
     .cond (.t 22) (.seq (.reg false [] [⟨(some 2), .mv, [.c (.bool false)], .none, none, none⟩] []) <|
      .ret)
      (.skip)) <|
    .seq (.seq (.reg false [] [⟨(some 3), .mv, [.c (.int .i64 1)], .none, none, none⟩] []) <|
     .block 0 (L52_0)) <|
    .seq (.reg false [] [⟨(some 2), .mv, [.c (.bool true)], .none, none, none⟩] []) <|
    .ret }

/- bitext/lock.place -/
def F53 : AFun :=
  { nargs := 2, keep := false, res := [.tmp 4, .tmp 5], body :=
    .seq (.reg false [] [
       ⟨(some 4), .mv, [.c (.int .i64 0)], .none, none, none⟩,
       ⟨(some 5), .mv, [.c (.bool false)], .none, none, none⟩] [4, 5]) <|
    .seq (.reg false [] [
       ⟨(some 6), .mv, [.t 0], .none, none, none⟩,
       ⟨(some 7), .mv, [.t 1], .none, none, none⟩,
       ⟨(some 8), (.call 69), [.t 6, .t 7, .c (.fn 70 [])], .none, none, none⟩,
       ⟨(some 9), (.ext 0), [.t 8], .none, none, none⟩,
       ⟨(some 10), (.ext 1), [.t 8], .none, none, none⟩,
       ⟨(some 4), .mv, [.t 9], .none, none, none⟩,
       ⟨(some 5), .mv, [.t 10], .none, none, none⟩] [6, 7, 8, 9, 10, 0, 1]) <|
    .ret }

/- slices.Insert[[]bitext/api.Lease,bitext/api.Lease] -/
def F55 : AFun :=
  { nargs := 3, keep := true, res := [.tmpD 6], body :=
    .seq (.reg false [] [⟨(some 6), .mv, [.c (.sl .full 3 [])], .none, none, none⟩] [6]) <|
    .seq (.reg false [] [
       ⟨(some 10), .mv, [.t 0], .none, none, none⟩,
       ⟨(some 11), .mv, [.t 1], .none, none, none⟩,
       ⟨(some 12), (.slc false 3 true false), [.t 10, .t 11], .none, none, none⟩] [10, 11, 12]) <|
    .seq (.reg false [] [
       ⟨(some 13), .mv, [.t 2], .none, none, none⟩,
       ⟨(some 14), (.len false), [.t 13], .none, none, none⟩,
       ⟨(some 7), .mv, [.t 14], .none, none, none⟩] [13, 14]) <|
    .seq (.seq (.reg false [] [
        ⟨(some 15), .mv, [.t 7], .none, none, none⟩,
        ⟨(some 16), (.bin .eql), [.t 15, .c (.int .i64 0)], .none, none, none⟩] [15]) <|
     .cond (.t 16) (.seq (.reg false [] [
         ⟨(some 17), .mv, [.t 0], .none, none, none⟩,
         ⟨(some 6), .mvo, [.t 17], .none, (some 17), none⟩] [17, 0]) <|
      .ret)
      (.skip)) <|
    .seq (.reg false [] [
       ⟨(some 18), .mv, [.t 0], .none, none, none⟩,
       ⟨(some 19), (.len false), [.t 18], .none, none, none⟩,
       ⟨(some 8), .mv, [.t 19], .none, none, none⟩] [18, 19]) <|
    .seq (.seq (.reg false [] [
        ⟨(some 20), .mv, [.t 1], .none, none, none⟩,
        ⟨(some 21), .mv, [.t 8], .none, none, none⟩,
        ⟨(some 22), (.bin .eql), [.t 20, .t 21], .none, none, none⟩] [20, 21]) <|
     .cond (.t 22) (.seq (.reg false [] [
         ⟨(some 23), .mvo, [.t 0], .none, (some 0), none⟩,
         ⟨(some 24), .mv, [.t 2], .none, none, none⟩,
         ⟨(some 25), (.appS false 3 32), [.t 23, .t 24], .sh, none, none⟩,
         ⟨(some 6), .mvo, [.t 25], .none, (some 25), none⟩] [23, 24, 25, 0, 2]) <|
      .ret)
      (.skip)) <|
    .seq (.seq (.reg false [] [⟨none, .mv, [], .none, none, none⟩] []) <|
     .cond (.t 31) (.seq (.reg false [] [⟨none, .mv, [], .none, none, none⟩] []) <|
      .seq (.reg false [] [
         ⟨(some 41), .mv, [.t 9], .none, none, none⟩,
         ⟨(some 42), .mv, [.t 1], .none, none, none⟩,
         ⟨(some 43), (.slc false 3 true false), [.t 41, .t 42], .none, none, none⟩,
         ⟨(some 44), .mv, [.t 2], .none, none, none⟩,
         ⟨(some 45), (.cpy 3), [.t 43, .t 44], .sh, none, none⟩] [41, 42, 43, 44, 45, 2]) <|
      .seq (.reg true [] [
         ⟨(some 46), .mv, [.t 9], .none, none, none⟩,
         ⟨(some 47), .mv, [.t 1], .none, none, none⟩,
         ⟨(some 48), .mv, [.t 7], .none, none, none⟩,
         ⟨(some 49), (.bin .add), [.t 47, .t 48], .none, none, none⟩,
         ⟨(some 50), (.slc false 3 true false), [.t 46, .t 49], .none, none, none⟩,
         ⟨(some 51), .mv, [.t 0], .none, none, none⟩,
         ⟨(some 52), .mv, [.t 1], .none, none, none⟩,
         ⟨(some 53), (.slc false 3 true false), [.t 51, .t 52], .none, none, none⟩,
         ⟨(some 54), (.cpy 3), [.t 50, .t 53], .sh, none, none⟩] [46, 47, 48, 49, 50, 51, 52, 53, 54, 1, 7, 0]) <|
      .seq (.reg false [] [
         ⟨(some 55), .mv, [.t 9], .none, none, none⟩,
         ⟨(some 6), .mvo, [.t 55], .none, (some 55), none⟩] [55, 9]) <|
      .ret)
      (.skip)) <|
    .seq (.reg false [] [
       ⟨(some 56), .mv, [.t 0], .none, none, none⟩,
       ⟨(some 57), .mv, [.t 8], .none, none, none⟩,
       ⟨(some 58), .mv, [.t 7], .none, none, none⟩,
       ⟨(some 59), (.bin .add), [.t 57, .t 58], .none, none, none⟩,
       ⟨(some 60), (.slc false 3 false true), [.t 56, .t 59], .none, none, none⟩,
       ⟨(some 0), .mvo, [.t 60], .none, (some 60), none⟩] [56, 57, 58, 59, 60]) <|
    .seq (.seq (.reg false [] [
        ⟨(some 61), .mv, [.t 2], .none, none, none⟩,
        ⟨(some 62), .mv, [.t 0], .none, none, none⟩,
        ⟨(some 63), .mv, [.t 1], .none, none, none⟩,
        ⟨(some 64), .mv, [.t 7], .none, none, none⟩,
        ⟨(some 65), (.bin .add), [.t 63, .t 64], .none, none, none⟩,
        ⟨(some 66), (.slc false 3 true false), [.t 62, .t 65], .none, none, none⟩,
        ⟨(some 67), (.callR 72), [.t 61, .t 66], .sh, none, none⟩,
        ⟨(some 68), (.un .not), [.t 67], .none, none, none⟩] [61, 62, 63, 64, 65, 66, 67]) <|
     .cond (.t 68) (.seq (.reg true [] [
         ⟨(some 69), .mv, [.t 0], .none, none, none⟩,
         ⟨(some 70), .mv, [.t 1], .none, none, none⟩,
         ⟨(some 71), .mv, [.t 7], .none, none, none⟩,
         ⟨(some 72), (.bin .add), [.t 70, .t 71], .none, none, none⟩,
         ⟨(some 73), (.slc false 3 true false), [.t 69, .t 72], .none, none, none⟩,
         ⟨(some 74), .mv, [.t 0], .none, none, none⟩,
         ⟨(some 75), .mv, [.t 1], .none, none, none⟩,
         ⟨(some 76), (.slc false 3 true false), [.t 74, .t 75], .none, none, none⟩,
         ⟨(some 77), (.cpy 3), [.t 73, .t 76], .sh, none, none⟩] [69, 70, 71, 72, 73, 74, 75, 76, 77, 7]) <|
      .seq (.reg false [] [
         ⟨(some 78), .mv, [.t 0], .none, none, none⟩,
         ⟨(some 79), .mv, [.t 1], .none, none, none⟩,
         ⟨(some 80), (.slc false 3 true false), [.t 78, .t 79], .none, none, none⟩,
         ⟨(some 81), .mv, [.t 2], .none, none, none⟩,
         ⟨(some 82), (.cpy 3), [.t 80, .t 81], .sh, none, none⟩] [78, 79, 80, 81, 82, 1, 2]) <|
      .seq (.reg false [] [
         ⟨(some 83), .mv, [.t 0], .none, none, none⟩,
         ⟨(some 6), .mvo, [.t 83], .none, (some 83), none⟩] [83, 0]) <|
      .ret)
      (.skip)) <|
    .seq (.reg false [] [
       ⟨(some 84), .mv, [.t 0], .none, none, none⟩,
       ⟨(some 85), .mv, [.t 8], .none, none, none⟩,
       ⟨(some 86), (.slc false 3 true false), [.t 84, .t 85], .none, none, none⟩,
       ⟨(some 87), .mv, [.t 2], .none, none, none⟩,
       ⟨(some 88), (.cpy 3), [.t 86, .t 87], .sh, none, none⟩] [84, 85, 86, 87, 88, 8, 2]) <|
    .seq (.reg false [] [
       ⟨(some 89), .mv, [.t 0], .none, none, none⟩,
       ⟨(some 90), .mv, [.t 1], .none, none, none⟩,
       ⟨(some 91), (.slc false 3 true false), [.t 89, .t 90], .none, none, none⟩,
       ⟨(some 92), .mv, [.t 7], .none, none, none⟩,
       ⟨(some 93), (.callR 73), [.t 91, .t 92], .sh, none, none⟩] [89, 90, 91, 92, 93, 1, 7]) <|
    .seq (.reg false [] [
       ⟨(some 94), .mv, [.t 0], .none, none, none⟩,
       ⟨(some 6), .mvo, [.t 94], .none, (some 94), none⟩] [94, 0]) <|
    .ret }

/- bitext/bitextref1.IsName -/
def L56_0 : ACode :=
  .loop [13, 14, 15, 16, 19, 20, 21, 4, 22, 23, 24, 25, 26, 27, 28, 29, 30, 31, 32, 33, 34, 35, 36, 37, 38, 39, 40, 41, 42, 43, 2, 17, 18] (.seq (.seq (.reg false [] [
        ⟨(some 13), .mv, [.t 3], .none, none, none⟩,
        ⟨(some 14), .mv, [.t 0], .none, none, none⟩,
        ⟨(some 15), (.len true), [.t 14], .none, none, none⟩,
        ⟨(some 16), (.bin .lss), [.t 13, .t 15], .none, none, none⟩] [13, 14, 15]) <|
     .cond (.t 16) (.skip)
      (.exit 0)) <|
    .seq (.block 1 (.seq (.reg false [] [
         ⟨(some 19), .mv, [.t 0], .none, none, none⟩,
         ⟨(some 20), .mv, [.t 3], .none, none, none⟩,
         ⟨(some 21), .ixs, [.t 19, .t 20], .none, none, none⟩,
         ⟨(some 4), .mv, [.t 21], .none, none, none⟩] [19, 20, 21]) <|
      .seq (.seq (.reg false [] [
          ⟨(some 22), .mv, [.t 4], .none, none, none⟩,
          ⟨(some 23), (.bin .geq), [.t 22, .c (.int .u8 97)], .none, none, none⟩,
          ⟨(some 24), .mv, [.t 23], .none, none, none⟩,
          ⟨(some 25), .mv, [.t 4], .none, none, (some (24, true))⟩,
          ⟨(some 26), (.bin .leq), [.t 25, .c (.int .u8 122)], .none, none, (some (24, true))⟩,
          ⟨(some 27), .pick, [.t 24, .t 26, .c (.bool false)], .none, none, none⟩,
          ⟨(some 28), .mv, [.t 27], .none, none, none⟩,
          ⟨(some 29), .mv, [.t 3], .none, none, (some (28, false))⟩,
          ⟨(some 30), (.bin .gtr), [.t 29, .c (.int .i64 0)], .none, none, (some (28, false))⟩,
          ⟨(some 31), .mv, [.t 30], .none, none, (some (28, false))⟩,
          ⟨(some 32), .mv, [.t 4], .none, none, (some (31, true))⟩,
          ⟨(some 33), (.bin .geq), [.t 32, .c (.int .u8 48)], .none, none, (some (31, true))⟩,
          ⟨(some 34), .mv, [.t 33], .none, none, (some (31, true))⟩,
          ⟨(some 35), .mv, [.t 4], .none, none, (some (34, true))⟩,
          ⟨(some 36), (.bin .leq), [.t 35, .c (.int .u8 57)], .none, none, (some (34, true))⟩,
          ⟨(some 37), .pick, [.t 34, .t 36, .c (.bool false)], .none, none, (some (31, true))⟩,
          ⟨(some 38), .mv, [.t 37], .none, none, (some (31, true))⟩,
          ⟨(some 39), .mv, [.t 4], .none, none, (some (38, false))⟩,
          ⟨(some 40), (.bin .eql), [.t 39, .c (.int .u8 45)], .none, none, (some (38, false))⟩,
          ⟨(some 41), .pick, [.t 38, .c (.bool true), .t 40], .none, none, (some (31, true))⟩,
          ⟨(some 42), .pick, [.t 31, .t 41, .c (.bool false)], .none, none, (some (28, false))⟩,
          ⟨(some 43), .pick, [.t 28, .c (.bool true), .t 42], .none, none, none⟩] [22, 23, 24, 25, 26, 27, 28, 29, 30, 31, 32, 33, 34, 35, 36, 37, 38, 39, 40, 41, 42, 4]) <|
       .cond (.t 43) (.exit 1)
        (.skip)) <|
      .seq (.reg false [] [⟨(some 2), .mv, [.c (.bool false)], .none, none, none⟩] []) <|
      .ret)) <|
    .reg false [] [
      ⟨(some 17), .mv, [.t 3], .none, none, none⟩,
      ⟨(some 18), (.bin .add), [.t 17, .c (.int .i64 1)], .none, none, none⟩,
      ⟨(some 3), .mv, [.t 18], .none, none, none⟩] [17, 18])
def F56 : AFun :=
  { nargs := 1, keep := false, res := [.tmp 2], body :=
    .seq (.reg false [] [⟨(some 2), .mv, [.c (.bool false)], .none, none, none⟩] [2]) <|
    .seq (.seq (.reg false [] [
        ⟨(some 5), .mv, [.t 0], .none, none, none⟩,
        ⟨(some 6), (.len true), [.t 5], .none, none, none⟩,
        ⟨(some 7), (.bin .lss), [.t 6, .c (.int .i64 1)], .none, none, none⟩,
        ⟨(some 8), .mv, [.t 7], .none, none, none⟩,
        ⟨(some 9), .mv, [.t 0], .none, none, (some (8, false))⟩,
        ⟨(some 10), (.len true), [.t 9], .none, none, (some (8, false))⟩,
        ⟨(some 11), (.bin .gtr), [.t 10, .c (.int .i64 24)], .none, none, (some (8, false))⟩,
        ⟨(some 12), .pick, [.t 8, .c (.bool true), .t 11], .none, none, none⟩] [5, 6, 7, 8, 9, 10, 11]) <|
     .cond (.t 12) (.seq (.reg false [] [⟨(some 2), .mv, [.c (.bool false)], .none, none, none⟩] []) <|
      .ret)
      (.skip)) <|
    .seq (.seq (.reg false [] [⟨(some 3), .mv, [.c (.int .i64 0)], .none, none, none⟩] []) <|
     .block 0 (L56_0)) <|
    .seq (.reg false [] [⟨(some 2), .mv, [.c (.bool true)], .none, none, none⟩] []) <|
    .ret }

/- slices.Delete[[]bitext/api.Lease,bitext/api.Lease] -/
def F58 : AFun :=
  { nargs := 3, keep := true, res := [.tmpD 6], body :=
    .seq (.reg false [] [⟨(some 6), .mv, [.c (.sl .full 3 [])], .none, none, none⟩] [6]) <|
    .seq (.reg false [] [
       ⟨(some 8), .mv, [.t 0], .none, none, none⟩,
       ⟨(some 9), .mv, [.t 1], .none, none, none⟩,
       ⟨(some 10), .mv, [.t 2], .none, none, none⟩,
       ⟨(some 11), .mv, [.t 0], .none, none, none⟩,
       ⟨(some 12), (.len false), [.t 11], .none, none, none⟩,
       ⟨(some 13), .slm, [.t 8, .t 9, .t 10, .t 12], .none, none, none⟩] [8, 9, 10, 11, 12, 13]) <|
    .seq (.seq (.reg false [] [
        ⟨(some 14), .mv, [.t 1], .none, none, none⟩,
        ⟨(some 15), .mv, [.t 2], .none, none, none⟩,
        ⟨(some 16), (.bin .eql), [.t 14, .t 15], .none, none, none⟩] [14, 15]) <|
     .cond (.t 16) (.seq (.reg false [] [
         ⟨(some 17), .mv, [.t 0], .none, none, none⟩,
         ⟨(some 6), .mvo, [.t 17], .none, (some 17), none⟩] [17, 0]) <|
      .ret)
      (.skip)) <|
    .seq (.reg false [] [
       ⟨(some 18), .mv, [.t 0], .none, none, none⟩,
       ⟨(some 19), (.len false), [.t 18], .none, none, none⟩,
       ⟨(some 7), .mv, [.t 19], .none, none, none⟩] [18, 19]) <|
    .seq (.reg true [] [
       ⟨(some 20), .mv, [.t 0], .none, none, none⟩,
       ⟨(some 21), .mv, [.t 1], .none, none, none⟩,
       ⟨(some 22), (.slc false 3 false true), [.t 20, .t 21], .none, none, none⟩,
       ⟨(some 23), .mv, [.t 0], .none, none, none⟩,
       ⟨(some 24), .mv, [.t 2], .none, none, none⟩,
       ⟨(some 25), (.slc false 3 true false), [.t 23, .t 24], .none, none, none⟩,
       ⟨(some 26), (.appC 3), [.t 22, .t 25], .sh, none, none⟩,
       ⟨(some 0), .mvo, [.t 26], .none, (some 26), none⟩] [20, 21, 22, 23, 24, 25, 26, 1, 2]) <|
    .seq (.reg false [] [
       ⟨(some 27), .mv, [.t 0], .none, none, none⟩,
       ⟨(some 28), .mv, [.t 0], .none, none, none⟩,
       ⟨(some 29), (.len false), [.t 28], .none, none, none⟩,
       ⟨(some 30), .mv, [.t 7], .none, none, none⟩,
       ⟨(some 31), (.slx 3 true), [.t 27, .t 29, .t 30], .sh, none, none⟩,
       ⟨none, (.clr 3 [.int .i64 0, .str [], .int .i64 0]), [.t 31], .sh, none, none⟩] [27, 28, 29, 30, 31, 7]) <|
    .seq (.reg false [] [
       ⟨(some 32), .mv, [.t 0], .none, none, none⟩,
       ⟨(some 6), .mvo, [.t 32], .none, (some 32), none⟩] [32, 0]) <|
    .ret }

/- slices.DeleteFunc[[]bitext/api.Lease,bitext/api.Lease] -/
def L59_0 : ACode :=
  .loop [16, 17, 18, 19, 22, 23, 24, 25, 7, 26, 27, 28, 29, 30, 31, 32, 33, 34, 35, 20, 21] (.seq (.seq (.reg false [] [
        ⟨(some 16), .mv, [.t 6], .none, none, none⟩,
        ⟨(some 17), .mv, [.t 0], .none, none, none⟩,
        ⟨(some 18), (.len false), [.t 17], .none, none, none⟩,
        ⟨(some 19), (.bin .lss), [.t 16, .t 18], .none, none, none⟩] [16, 17, 18]) <|
     .cond (.t 19) (.skip)
      (.exit 0)) <|
    .seq (.block 1 (.seq (.reg false [7] [
         ⟨(some 22), .mv, [.t 0], .none, none, none⟩,
         ⟨(some 23), .mv, [.t 6], .none, none, none⟩,
         ⟨(some 24), (.ia 3), [.t 22, .t 23], .none, none, none⟩,
         ⟨(some 25), (.ld true 3), [.t 24], .sh, none, none⟩,
         ⟨(some 7), (.alloc [.int .i64 0, .str [], .int .i64 0]), [], (.lo 7), none, none⟩,
         ⟨none, (.st 3), [.t 7, .t 25], (.lo 7), none, none⟩] [22, 23, 24, 25]) <|
      .seq (.reg false [] [
         ⟨(some 26), .mv, [.t 1], .none, none, none⟩,
         ⟨(some 27), (.ld true 3), [.t 7], (.lo 7), none, none⟩,
         ⟨(some 28), .callv, [.t 26, .t 27], .sh, none, none⟩,
         ⟨(some 29), (.un .not), [.t 28], .none, none, none⟩] [26, 27, 28]) <|
      .cond (.t 29) (.seq (.reg false [] [
          ⟨(some 30), .mv, [.t 0], .none, none, none⟩,
          ⟨(some 31), .mv, [.t 5], .none, none, none⟩,
          ⟨(some 32), (.ld true 3), [.t 7], (.lo 7), none, none⟩,
          ⟨(some 33), (.ia 3), [.t 30, .t 31], .none, none, none⟩,
          ⟨none, (.st 3), [.t 33, .t 32], .sh, none, none⟩] [30, 31, 32, 33, 7]) <|
       .reg false [] [
         ⟨(some 34), .mv, [.t 5], .none, none, none⟩,
         ⟨(some 35), (.bin .add), [.t 34, .c (.int .i64 1)], .none, none, none⟩,
         ⟨(some 5), .mv, [.t 35], .none, none, none⟩] [34, 35])
       (.skip))) <|
    .reg false [] [
      ⟨(some 20), .mv, [.t 6], .none, none, none⟩,
      ⟨(some 21), (.bin .add), [.t 20, .c (.int .i64 1)], .none, none, none⟩,
      ⟨(some 6), .mv, [.t 21], .none, none, none⟩] [20, 21])
def F59 : AFun :=
  { nargs := 2, keep := true, res := [.tmpD 4], body :=
    .seq (.reg false [] [⟨(some 4), .mv, [.c (.sl .full 3 [])], .none, none, none⟩] [4]) <|
    .seq (.reg false [] [
       ⟨(some 8), .mv, [.t 0], .none, none, none⟩,
       ⟨(some 9), .mv, [.t 1], .none, none, none⟩,
       ⟨(some 10), (.call 74), [.t 8, .t 9], .sh, none, none⟩,
       ⟨(some 5), .mv, [.t 10], .none, none, none⟩] [8, 9, 10]) <|
    .seq (.seq (.reg false [] [
        ⟨(some 11), .mv, [.t 5], .none, none, none⟩,
        ⟨(some 12), (.bin .eql), [.t 11, .c (.int .i64 (-1))], .none, none, none⟩] [11]) <|
     .cond (.t 12) (.seq (.reg false [] [
         ⟨(some 13), .mv, [.t 0], .none, none, none⟩,
         ⟨(some 4), .mvo, [.t 13], .none, (some 13), none⟩] [13, 0]) <|
      .ret)
      (.skip)) <|
    .seq (.seq (.reg false [] [
        ⟨(some 14), .mv, [.t 5], .none, none, none⟩,
        ⟨(some 15), (.bin .add), [.t 14, .c (.int .i64 1)], .none, none, none⟩,
        ⟨(some 6), .mv, [.t 15], .none, none, none⟩] [14, 15]) <|
     .block 0 (L59_0)) <|
    .seq (.reg false [] [
       ⟨(some 36), .mv, [.t 0], .none, none, none⟩,
       ⟨(some 37), .mv, [.t 5], .none, none, none⟩,
       ⟨(some 38), (.slc false 3 true false), [.t 36, .t 37], .none, none, none⟩,
       ⟨none, (.clr 3 [.int .i64 0, .str [], .int .i64 0]), [.t 38], .sh, none, none⟩] [36, 37, 38]) <|
    .seq (.reg false [] [
       ⟨(some 39), .mv, [.t 0], .none, none, none⟩,
       ⟨(some 40), .mv, [.t 5], .none, none, none⟩,
       ⟨(some 41), (.slc false 3 false true), [.t 39, .t 40], .none, none, none⟩,
       ⟨(some 4), .mvo, [.t 41], .none, (some 41), none⟩] [39, 40, 41, 0, 5]) <|
    .ret }

/- bitext/lock.Expire$1 -/
def F60 : AFun :=
  { nargs := 2, keep := false, res := [.tmp 3], body :=
    .seq (.reg false [2] [
       ⟨(some 2), (.box 3), [.t 0], (.lo 2), none, none⟩,
       ⟨(some 3), .mv, [.c (.bool false)], .none, none, none⟩] [3, 0]) <|
    .seq (.reg false [] [
       ⟨(some 4), (.fa 2), [.t 2], .none, none, none⟩,
       ⟨(some 5), (.ld false 1), [.t 4], (.lo 2), none, none⟩,
       ⟨(some 6), (.ld false 1), [.t 1], .sh, none, none⟩,
       ⟨(some 7), (.bin .leq), [.t 5, .t 6], .none, none, none⟩,
       ⟨(some 3), .mv, [.t 7], .none, none, none⟩] [4, 5, 6, 7, 2, 1]) <|
    .ret }

/- slices.BinarySearchFunc[[]bitext/api.Lease,bitext/api.Lease,int] -/
def L69_0 : ACode :=
  .loop [15, 16, 17, 18, 19, 20, 21, 22, 23, 11, 24, 25, 26, 27, 28, 29, 30, 31, 32, 33, 34] (.seq (.seq (.reg false [] [
        ⟨(some 15), .mv, [.t 9], .none, none, none⟩,
        ⟨(some 16), .mv, [.t 10], .none, none, none⟩,
        ⟨(some 17), (.bin .lss), [.t 15, .t 16], .none, none, none⟩] [15, 16]) <|
     .cond (.t 17) (.skip)
      (.exit 0)) <|
    .block 1 (.seq (.reg false [] [
        ⟨(some 18), .mv, [.t 9], .none, none, none⟩,
        ⟨(some 19), .mv, [.t 10], .none, none, none⟩,
        ⟨(some 20), (.bin .add), [.t 18, .t 19], .none, none, none⟩,
        ⟨(some 21), (.cvi .u64), [.t 20], .none, none, none⟩,
        ⟨(some 22), (.shf false), [.t 21, .c (.int .u64 1)], .none, none, none⟩,
        ⟨(some 23), (.cvi .i64), [.t 22], .none, none, none⟩,
        ⟨(some 11), .mv, [.t 23], .none, none, none⟩] [18, 19, 20, 21, 22, 23]) <|
     .seq (.reg false [] [
        ⟨(some 24), .mv, [.t 2], .none, none, none⟩,
        ⟨(some 25), .mv, [.t 0], .none, none, none⟩,
        ⟨(some 26), .mv, [.t 11], .none, none, none⟩,
        ⟨(some 27), (.ia 3), [.t 25, .t 26], .none, none, none⟩,
        ⟨(some 28), (.ld true 3), [.t 27], .none, none, none⟩,
        ⟨(some 29), .mv, [.t 1], .none, none, none⟩,
        ⟨(some 30), .callv, [.t 24, .t 28, .t 29], .none, none, none⟩,
        ⟨(some 31), (.bin .lss), [.t 30, .c (.int .i64 0)], .none, none, none⟩] [24, 25, 26, 27, 28, 29, 30]) <|
     .cond (.t 31) (.reg false [] [
        ⟨(some 32), .mv, [.t 11], .none, none, none⟩,
        ⟨(some 33), (.bin .add), [.t 32, .c (.int .i64 1)], .none, none, none⟩,
        ⟨(some 9), .mv, [.t 33], .none, none, none⟩] [32, 33, 11])
      (.reg false [] [
        ⟨(some 34), .mv, [.t 11], .none, none, none⟩,
        ⟨(some 10), .mv, [.t 34], .none, none, none⟩] [34, 11])))
def F69 : AFun :=
  { nargs := 3, keep := false, res := [.tmp 6, .tmp 7], body :=
    .seq (.reg false [] [
       ⟨(some 6), .mv, [.c (.int .i64 0)], .none, none, none⟩,
       ⟨(some 7), .mv, [.c (.bool false)], .none, none, none⟩] [6, 7]) <|
    .seq (.reg false [] [
       ⟨(some 12), .mv, [.t 0], .none, none, none⟩,
       ⟨(some 13), (.len false), [.t 12], .none, none, none⟩,
       ⟨(some 8), .mv, [.t 13], .none, none, none⟩] [12, 13]) <|
    .seq (.reg false [] [
       ⟨(some 14), .mv, [.t 8], .none, none, none⟩,
       ⟨(some 9), .mv, [.c (.int .i64 0)], .none, none, none⟩,
       ⟨(some 10), .mv, [.t 14], .none, none, none⟩] [14]) <|
    .seq (.block 0 (L69_0)) <|
    .seq (.reg false [] [
       ⟨(some 35), .mv, [.t 9], .none, none, none⟩,
       ⟨(some 36), .mv, [.t 9], .none, none, none⟩,
       ⟨(some 37), .mv, [.t 8], .none, none, none⟩,
       ⟨(some 38), (.bin .lss), [.t 36, .t 37], .none, none, none⟩,
       ⟨(some 39), .mv, [.t 38], .none, none, none⟩,
       ⟨(some 40), .mv, [.t 2], .none, none, (some (39, true))⟩,
       ⟨(some 41), .mv, [.t 0], .none, none, (some (39, true))⟩,
       ⟨(some 42), .mv, [.t 9], .none, none, (some (39, true))⟩,
       ⟨(some 43), (.ia 3), [.t 41, .t 42], .none, none, (some (39, true))⟩,
       ⟨(some 44), (.ld true 3), [.t 43], .none, none, (some (39, true))⟩,
       ⟨(some 45), .mv, [.t 1], .none, none, (some (39, true))⟩,
       ⟨(some 46), .callv, [.t 40, .t 44, .t 45], .none, none, (some (39, true))⟩,
       ⟨(some 47), (.bin .eql), [.t 46, .c (.int .i64 0)], .none, none, (some (39, true))⟩,
       ⟨(some 48), .pick, [.t 39, .t 47, .c (.bool false)], .none, none, none⟩,
       ⟨(some 6), .mv, [.t 35], .none, none, none⟩,
       ⟨(some 7), .mv, [.t 48], .none, none, none⟩] [35, 36, 37, 38, 39, 40, 41, 42, 43, 44, 45, 46, 47, 48, 9, 8, 2, 0, 1]) <|
    .ret }

/- bitext/lock.place$1 -/
def F70 : AFun :=
  { nargs := 2, keep := false, res := [.tmp 4], body :=
    .seq (.reg false [2] [
       ⟨(some 2), (.box 3), [.t 0], (.lo 2), none, none⟩,
       ⟨(some 4), .mv, [.c (.int .i64 0)], .none, none, none⟩] [4, 0]) <|
    .seq (.reg false [] [
       ⟨(some 5), (.fa 0), [.t 2], .none, none, none⟩,
       ⟨(some 6), (.ld false 1), [.t 5], (.lo 2), none, none⟩,
       ⟨(some 7), .mv, [.t 1], .none, none, none⟩,
       ⟨(some 8), (.call 71), [.t 6, .t 7], .none, none, none⟩,
       ⟨(some 4), .mv, [.t 8], .none, none, none⟩] [5, 6, 7, 8, 2, 1]) <|
    .ret }

/- cmp.Compare[int] -/
def F71 : AFun :=
  { nargs := 2, keep := false, res := [.tmp 4], body :=
    .seq (.reg false [] [⟨(some 4), .mv, [.c (.int .i64 0)], .none, none, none⟩] [4]) <|
    .seq (.reg false [] [
       ⟨(some 7), .mv, [.t 0], .none, none, none⟩,
       ⟨(some 8), (.call 81), [.t 7], .none, none, none⟩,
       ⟨(some 5), .mv, [.t 8], .none, none, none⟩] [7, 8]) <|
    .seq (.reg false [] [
       ⟨(some 9), .mv, [.t 1], .none, none, none⟩,
       ⟨(some 10), (.call 81), [.t 9], .none, none, none⟩,
       ⟨(some 6), .mv, [.t 10], .none, none, none⟩] [9, 10]) <|
    .seq (.seq (.reg false [] [⟨(some 11), .mv, [.t 5], .none, none, none⟩] [5]) <|
     .cond (.t 11) (.seq (.seq (.reg false [] [⟨(some 12), .mv, [.t 6], .none, none, none⟩] [6]) <|
       .cond (.t 12) (.seq (.reg false [] [⟨(some 4), .mv, [.c (.int .i64 0)], .none, none, none⟩] []) <|
        .ret)
        (.skip)) <|
      .seq (.reg false [] [⟨(some 4), .mv, [.c (.int .i64 (-1))], .none, none, none⟩] []) <|
      .ret)
      (.skip)) <|
    .seq (.seq (.reg false [] [⟨(some 13), .mv, [.t 6], .none, none, none⟩] [6]) <|
     .cond (.t 13) (.seq (.reg false [] [⟨(some 4), .mv, [.c (.int .i64 1)], .none, none, none⟩] []) <|
      .ret)
      (.skip)) <|
    .seq (.seq (.reg false [] [
        ⟨(some 14), .mv, [.t 0], .none, none, none⟩,
        ⟨(some 15), .mv, [.t 1], .none, none, none⟩,
        ⟨(some 16), (.bin .lss), [.t 14, .t 15], .none, none, none⟩] [14, 15]) <|
     .cond (.t 16) (.seq (.reg false [] [⟨(some 4), .mv, [.c (.int .i64 (-1))], .none, none, none⟩] []) <|
      .ret)
      (.skip)) <|
    .seq (.seq (.reg false [] [
        ⟨(some 17), .mv, [.t 0], .none, none, none⟩,
        ⟨(some 18), .mv, [.t 1], .none, none, none⟩,
        ⟨(some 19), (.bin .gtr), [.t 17, .t 18], .none, none, none⟩] [17, 18, 0, 1]) <|
     .cond (.t 19) (.seq (.reg false [] [⟨(some 4), .mv, [.c (.int .i64 1)], .none, none, none⟩] []) <|
      .ret)
      (.skip)) <|
    .seq (.reg false [] [⟨(some 4), .mv, [.c (.int .i64 0)], .none, none, none⟩] []) <|
    .ret }

/- slices.IndexFunc[[]bitext/api.Lease,bitext/api.Lease] -/
def L74_0 : ACode :=
  .loop [9, 10, 5, 11, 12, 13, 14, 15, 16, 17, 4, 18] (.seq (.reg false [] [⟨(some 9), (.bin .lss), [.t 8, .t 7], .none, none, none⟩] []) <|
    .seq (.cond (.t 9) (.skip)
      (.exit 0)) <|
    .seq (.block 1 (.seq (.reg false [] [
         ⟨(some 10), .mv, [.t 8], .none, none, none⟩,
         ⟨(some 5), .mv, [.t 10], .none, none, none⟩] [10]) <|
      .seq (.reg false [] [
         ⟨(some 11), .mv, [.t 1], .none, none, none⟩,
         ⟨(some 12), .mv, [.t 0], .none, none, none⟩,
         ⟨(some 13), .mv, [.t 5], .none, none, none⟩,
         ⟨(some 14), (.ia 3), [.t 12, .t 13], .none, none, none⟩,
         ⟨(some 15), (.ld true 3), [.t 14], .sh, none, none⟩,
         ⟨(some 16), .callv, [.t 11, .t 15], .sh, none, none⟩] [11, 12, 13, 14, 15]) <|
      .cond (.t 16) (.seq (.reg false [] [
          ⟨(some 17), .mv, [.t 5], .none, none, none⟩,
          ⟨(some 4), .mv, [.t 17], .none, none, none⟩] [17, 5]) <|
       .ret)
       (.skip))) <|
    .reg false [] [
      ⟨(some 18), (.bin .add), [.t 8, .c (.int .i64 1)], .none, none, none⟩,
      ⟨(some 8), .mv, [.t 18], .none, none, none⟩] [18])
def F74 : AFun :=
  { nargs := 2, keep := false, res := [.tmp 4], body :=
    .seq (.reg false [] [⟨(some 4), .mv, [.c (.int .i64 0)], .none, none, none⟩] [4]) <|
    .seq (.seq (.reg false [] [
        ⟨(some 6), .mv, [.t 0], .none, none, none⟩,
        ⟨(some 7), (.len false), [.t 6], .none, none, none⟩,
        ⟨(some 8), .mv, [.c (.int .i64 0)], .none, none, none⟩] [6]) <|
     .block 0 (L74_0)) <|
    .seq (.reg false [] [⟨(some 4), .mv, [.c (.int .i64 (-1))], .none, none, none⟩] []) <|
    .ret }

/- cmp.isNaN[int] -/
def F81 : AFun :=
  { nargs := 1, keep := false, res := [.tmp 2], body :=
    .seq (.reg false [] [⟨(some 2), .mv, [.c (.bool false)], .none, none, none⟩] [2]) <|
    .seq (.reg false [] [
       ⟨(some 3), .mv, [.t 0], .none, none, none⟩,
       ⟨(some 4), .mv, [.t 0], .none, none, none⟩,
       ⟨(some 5), (.bin .neq), [.t 3, .t 4], .none, none, none⟩,
       ⟨(some 2), .mv, [.t 5], .none, none, none⟩] [3, 4, 5, 0]) <|
    .ret }

/- bitext/bitextlaw29.LockLimits -/
def L7_0 : ACode :=
  .loop [27, 28, 31, 32, 33, 34, 35, 36, 37, 29, 30] (.seq (.seq (.reg false [] [
        ⟨(some 27), .mv, [.t 10], .none, none, none⟩,
        ⟨(some 28), (.bin .gtr), [.t 27, .c (.int .i64 0)], .none, none, none⟩] [27]) <|
     .cond (.t 28) (.skip)
      (.exit 0)) <|
    .seq (.block 1 (.reg false [] [
        ⟨(some 31), .mvo, [.t 9], .none, (some 9), none⟩,
        ⟨(some 32), .mv, [.t 9], .none, none, none⟩,
        ⟨(some 33), (.len false), [.t 32], .none, none, none⟩,
        ⟨(some 34), (.bin .add), [.t 33, .c (.int .i64 1)], .none, none, none⟩,
        ⟨(some 35), (.build [.int .i64 0, .str [], .int .i64 0] [(0, 1), (1, 1), (2, 1)]), [.t 34, .c (.str [97, 110, 110]), .c (.int .i64 5)], .none, none, none⟩,
        ⟨(some 36), (.mks 3 [.int .i64 0, .str [], .int .i64 0] 1 [0]), [.t 35], .none, none, none⟩,
        ⟨(some 37), (.app false 3 32), [.t 31, .t 36], .none, (some 31), none⟩,
        ⟨(some 9), .mvo, [.t 37], .none, (some 37), none⟩] [31, 32, 33, 34, 35, 36, 37])) <|
    .reg false [] [
      ⟨(some 29), .mv, [.t 10], .none, none, none⟩,
      ⟨(some 30), (.bin .sub), [.t 29, .c (.int .i64 1)], .none, none, none⟩,
      ⟨(some 10), .mv, [.t 30], .none, none, none⟩] [29, 30])
def F7 : AFun :=
  { nargs := 4, keep := false, res := [.tmp 8], body :=
    .seq (.reg false [] [⟨(some 8), .mv, [.c (.bool false)], .none, none, none⟩] [8]) <|
    .seq (.reg false [] [⟨(some 9), .mv, [.c (.sl .full 3 [])], .none, none, none⟩] []) <|
    .seq (.seq (.reg false [] [
        ⟨(some 23), .mv, [.t 0], .none, none, none⟩,
        ⟨(some 24), (.call 24), [.t 23, .c (.int .i64 3)], .none, none, none⟩,
        ⟨(some 25), (.bin .add), [.t 24, .c (.int .i64 512)], .none, none, none⟩,
        ⟨(some 26), (.bin .sub), [.t 25, .c (.int .i64 1)], .none, none, none⟩,
        ⟨(some 10), .mv, [.t 26], .none, none, none⟩] [23, 24, 25, 26, 0]) <|
     .block 0 (L7_0)) <|
    .seq (.reg false [] [
       ⟨(some 38), .mv, [.t 9], .none, none, none⟩,
       ⟨(some 39), (.len false), [.t 38], .none, none, none⟩,
       ⟨(some 40), .mv, [.t 1], .none, none, none⟩,
       ⟨(some 41), (.call 24), [.t 40, .c (.int .i64 3)], .none, none, none⟩,
       ⟨(some 42), (.bin .add), [.t 39, .t 41], .none, none, none⟩,
       ⟨(some 43), (.bin .sub), [.t 42, .c (.int .i64 1)], .none, none, none⟩,
       ⟨(some 11), .mv, [.t 43], .none, none, none⟩] [38, 39, 40, 41, 42, 43, 1]) <|
    .seq (.reg false [] [
       ⟨(some 44), (.mks 1 [.int .i64 0] 5 [0, 1, 2, 3, 4]), [.c (.int .i64 (-1)), .c (.int .i64 0), .c (.int .i64 1073741823), .c (.int .i64 1073741824), .c (.int .i64 1073741825)], .none, none, none⟩,
       ⟨(some 45), .mv, [.t 2], .none, none, none⟩,
       ⟨(some 46), (.call 24), [.t 45, .c (.int .i64 5)], .none, none, none⟩,
       ⟨(some 47), (.ia 1), [.t 44, .t 46], .none, none, none⟩,
       ⟨(some 48), (.ld false 1), [.t 47], .none, none, none⟩,
       ⟨(some 12), .mv, [.t 48], .none, none, none⟩] [44, 45, 46, 47, 48]) <|
    .seq (.reg false [] [
       ⟨(some 49), (.mks 1 [.int .i64 0] 5 [0, 1, 2, 3, 4]), [.c (.int .i64 0), .c (.int .i64 1), .c (.int .i64 2), .c (.int .i64 1073741824), .c (.int .i64 1073741825)], .none, none, none⟩,
       ⟨(some 50), .mv, [.t 3], .none, none, none⟩,
       ⟨(some 51), (.call 24), [.t 50, .c (.int .i64 5)], .none, none, none⟩,
       ⟨(some 52), (.ia 1), [.t 49, .t 51], .none, none, none⟩,
       ⟨(some 53), (.ld false 1), [.t 52], .none, none, none⟩,
       ⟨(some 13), .mv, [.t 53], .none, none, none⟩] [49, 50, 51, 52, 53, 3]) <|
    .seq (.reg false [] [
       ⟨(some 55), .mv, [.t 9], .none, none, none⟩,
       ⟨(some 56), .mv, [.t 11], .none, none, none⟩,
       ⟨(some 57), .mv, [.t 12], .none, none, none⟩,
       ⟨(some 58), .mv, [.t 13], .none, none, none⟩,
       ⟨(some 59), (.call 25), [.t 55, .t 56, .c (.str [97, 110, 110]), .t 57, .t 58], .none, none, none⟩,
       ⟨(some 54), .mv, [.t 59], .none, none, none⟩,
       ⟨(some 60), (.ext 0), [.t 54], .none, none, none⟩,
       ⟨(some 61), (.ext 1), [.t 54], .none, none, none⟩,
       ⟨(some 14), .mvo, [.t 60], .none, (some 60), none⟩,
       ⟨(some 15), .mv, [.t 61], .none, none, none⟩] [55, 56, 57, 58, 59, 54, 60, 61]) <|
    .seq (.reg false [] [
       ⟨(some 63), .mv, [.t 9], .none, none, none⟩,
       ⟨(some 64), .mv, [.t 11], .none, none, none⟩,
       ⟨(some 65), .mv, [.t 12], .none, none, none⟩,
       ⟨(some 66), .mv, [.t 13], .none, none, none⟩,
       ⟨(some 67), (.call 26), [.t 63, .t 64, .c (.str [97, 110, 110]), .t 65, .t 66], .none, none, none⟩,
       ⟨(some 62), .mv, [.t 67], .none, none, none⟩,
       ⟨(some 68), (.ext 0), [.t 62], .none, none, none⟩,
       ⟨(some 69), (.ext 1), [.t 62], .none, none, none⟩,
       ⟨(some 16), .mvo, [.t 68], .none, (some 68), none⟩,
       ⟨(some 17), .mv, [.t 69], .none, none, none⟩] [63, 64, 65, 66, 67, 62, 68, 69]) <|
    .seq (.reg false [] [
       ⟨(some 71), .mv, [.t 9], .none, none, none⟩,
       ⟨(some 72), (.slc false 3 false true), [.t 71, .c (.int .i64 2)], .none, none, none⟩,
       ⟨(some 73), .mv, [.t 11], .none, none, none⟩,
       ⟨(some 74), .mv, [.t 12], .none, none, none⟩,
       ⟨(some 75), .mv, [.t 13], .none, none, none⟩,
       ⟨(some 76), (.call 25), [.t 72, .t 73, .c (.str [97, 110, 110]), .t 74, .t 75], .none, none, none⟩,
       ⟨(some 70), .mv, [.t 76], .none, none, none⟩,
       ⟨(some 77), (.ext 0), [.t 70], .none, none, none⟩,
       ⟨(some 78), (.ext 1), [.t 70], .none, none, none⟩,
       ⟨(some 18), .mvo, [.t 77], .none, (some 77), none⟩,
       ⟨(some 19), .mv, [.t 78], .none, none, none⟩] [71, 72, 73, 74, 75, 76, 70, 77, 78]) <|
    .seq (.reg false [] [
       ⟨(some 80), .mv, [.t 9], .none, none, none⟩,
       ⟨(some 81), (.slc false 3 false true), [.t 80, .c (.int .i64 2)], .none, none, none⟩,
       ⟨(some 82), .mv, [.t 11], .none, none, none⟩,
       ⟨(some 83), .mv, [.t 12], .none, none, none⟩,
       ⟨(some 84), .mv, [.t 13], .none, none, none⟩,
       ⟨(some 85), (.call 26), [.t 81, .t 82, .c (.str [97, 110, 110]), .t 83, .t 84], .none, none, none⟩,
       ⟨(some 79), .mv, [.t 85], .none, none, none⟩,
       ⟨(some 86), (.ext 0), [.t 79], .none, none, none⟩,
       ⟨(some 87), (.ext 1), [.t 79], .none, none, none⟩,
       ⟨(some 20), .mvo, [.t 86], .none, (some 86), none⟩,
       ⟨(some 21), .mv, [.t 87], .none, none, none⟩] [80, 81, 82, 83, 84, 85, 79, 86, 87, 11, 12, 13]) <|
    .seq (.reg false [] [
       ⟨(some 88), (.mks 1 [.int .i64 0] 4 [0, 1, 2, 3]), [.c (.int .i64 0), .c (.int .i64 1), .c (.int .i64 1073741824), .c (.int .i64 1073741825)], .none, none, none⟩,
       ⟨(some 89), .mv, [.t 2], .none, none, none⟩,
       ⟨(some 90), (.call 24), [.t 89, .c (.int .i64 4)], .none, none, none⟩,
       ⟨(some 91), (.ia 1), [.t 88, .t 90], .none, none, none⟩,
       ⟨(some 92), (.ld false 1), [.t 91], .none, none, none⟩,
       ⟨(some 93), (.build [.int .i64 0, .str [], .int .i64 0] [(0, 1), (1, 1), (2, 1)]), [.c (.int .i64 1), .c (.str [97, 110, 110]), .t 92], .none, none, none⟩,
       ⟨(some 94), (.mks 3 [.int .i64 0, .str [], .int .i64 0] 1 [0]), [.t 93], .none, none, none⟩,
       ⟨(some 22), .mvo, [.t 94], .none, (some 94), none⟩] [88, 89, 90, 91, 92, 93, 94, 2]) <|
    .seq (.reg false [] [
       ⟨(some 95), .mv, [.t 15], .none, none, none⟩,
       ⟨(some 96), .mv, [.t 17], .none, none, none⟩,
       ⟨(some 97), (.bin .eql), [.t 95, .t 96], .none, none, none⟩,
       ⟨(some 98), .mv, [.t 97], .none, none, none⟩,
       ⟨(some 99), .mv, [.t 19], .none, none, (some (98, true))⟩,
       ⟨(some 100), .mv, [.t 21], .none, none, (some (98, true))⟩,
       ⟨(some 101), (.bin .eql), [.t 99, .t 100], .none, none, (some (98, true))⟩,
       ⟨(some 102), .pick, [.t 98, .t 101, .c (.bool false)], .none, none, none⟩,
       ⟨(some 103), .mv, [.t 102], .none, none, none⟩,
       ⟨(some 104), .mv, [.t 14], .none, none, (some (103, true))⟩,
       ⟨(some 105), .mv, [.t 16], .none, none, (some (103, true))⟩,
       ⟨(some 106), (.call 27), [.t 104, .t 105], .none, none, (some (103, true))⟩,
       ⟨(some 107), .pick, [.t 103, .t 106, .c (.bool false)], .none, none, none⟩,
       ⟨(some 108), .mv, [.t 107], .none, none, none⟩,
       ⟨(some 109), .mv, [.t 18], .none, none, (some (108, true))⟩,
       ⟨(some 110), .mv, [.t 20], .none, none, (some (108, true))⟩,
       ⟨(some 111), (.call 27), [.t 109, .t 110], .none, none, (some (108, true))⟩,
       ⟨(some 112), .pick, [.t 108, .t 111, .c (.bool false)], .none, none, none⟩,
       ⟨(some 113), .mv, [.t 112], .none, none, none⟩,
       ⟨(some 114), .mv, [.t 9], .none, none, (some (113, true))⟩,
       ⟨(some 115), (.call 28), [.t 114], .none, none, (some (113, true))⟩,
       ⟨(some 116), .mv, [.t 9], .none, none, (some (113, true))⟩,
       ⟨(some 117), (.call 29), [.t 116], .none, none, (some (113, true))⟩,
       ⟨(some 118), (.bin .eql), [.t 115, .t 117], .none, none, (some (113, true))⟩,
       ⟨(some 119), .pick, [.t 113, .t 118, .c (.bool false)], .none, none, none⟩,
       ⟨(some 120), .mv, [.t 119], .none, none, none⟩,
       ⟨(some 121), .mv, [.t 22], .none, none, (some (120, true))⟩,
       ⟨(some 122), (.call 28), [.t 121], .none, none, (some (120, true))⟩,
       ⟨(some 123), .mv, [.t 22], .none, none, (some (120, true))⟩,
       ⟨(some 124), (.call 29), [.t 123], .none, none, (some (120, true))⟩,
       ⟨(some 125), (.bin .eql), [.t 122, .t 124], .none, none, (some (120, true))⟩,
       ⟨(some 126), .pick, [.t 120, .t 125, .c (.bool false)], .none, none, none⟩,
       ⟨(some 127), .mv, [.t 126], .none, none, none⟩,
       ⟨(some 128), (.call 30), [], .none, none, (some (127, true))⟩,
       ⟨(some 129), .pick, [.t 127, .t 128, .c (.bool false)], .none, none, none⟩,
       ⟨(some 8), .mv, [.t 129], .none, none, none⟩] [95, 96, 97, 98, 99, 100, 101, 102, 103, 104, 105, 106, 107, 108, 109, 110, 111, 112, 113, 114, 115, 116, 117, 118, 119, 120, 121, 122, 123, 124, 125, 126, 127, 128, 129, 15, 17, 19, 21, 14, 16, 18, 20, 9, 22]) <|
    .ret }

/- bitext/bitextlaw29.LockAcquires -/
def L10_0 : ACode :=
  .loop [71, 72, 73, 18, 75, 76, 77, 78, 79, 80, 81, 82, 83, 74, 84, 85, 19, 20, 87, 88, 89, 90, 91, 92, 93, 94, 95, 86, 96, 97, 21, 22, 98, 99, 100, 101, 102, 103, 104, 105, 106, 12, 107] (.seq (.reg false [] [⟨(some 71), (.bin .lss), [.t 70, .t 69], .none, none, none⟩] []) <|
    .seq (.cond (.t 71) (.skip)
      (.exit 4)) <|
    .seq (.block 5 (.seq (.reg false [18] [
         ⟨(some 72), (.ia 3), [.t 68, .t 70], .none, none, none⟩,
         ⟨(some 73), (.ld true 3), [.t 72], .none, none, none⟩,
         ⟨(some 18), (.alloc [.int .i64 0, .int .i64 0, .int .i64 0]), [], (.lo 18), none, none⟩,
         ⟨none, (.st 3), [.t 18, .t 73], (.lo 18), none, none⟩] [72, 73]) <|
      .seq (.reg false [] [
         ⟨(some 75), .mv, [.t 14], .none, none, none⟩,
         ⟨(some 76), (.iaA 1 3), [.t 18, .c (.int .i64 0)], .none, none, none⟩,
         ⟨(some 77), (.ld false 1), [.t 76], (.lo 18), none, none⟩,
         ⟨(some 78), .mv, [.t 16], .none, none, none⟩,
         ⟨(some 79), (.iaA 1 3), [.t 18, .c (.int .i64 1)], .none, none, none⟩,
         ⟨(some 80), (.ld false 1), [.t 79], (.lo 18), none, none⟩,
         ⟨(some 81), (.iaA 1 3), [.t 18, .c (.int .i64 2)], .none, none, none⟩,
         ⟨(some 82), (.ld false 1), [.t 81], (.lo 18), none, none⟩,
         ⟨(some 83), (.call 25), [.t 75, .t 77, .t 78, .t 80, .t 82], .none, none, none⟩,
         ⟨(some 74), .mv, [.t 83], .none, none, none⟩,
         ⟨(some 84), (.ext 0), [.t 74], .none, none, none⟩,
         ⟨(some 85), (.ext 1), [.t 74], .none, none, none⟩,
         ⟨(some 19), .mvo, [.t 84], .none, (some 84), none⟩,
         ⟨(some 20), .mv, [.t 85], .none, none, none⟩] [75, 76, 77, 78, 79, 80, 81, 82, 83, 74, 84, 85]) <|
      .seq (.reg false [] [
         ⟨(some 87), .mv, [.t 14], .none, none, none⟩,
         ⟨(some 88), (.iaA 1 3), [.t 18, .c (.int .i64 0)], .none, none, none⟩,
         ⟨(some 89), (.ld false 1), [.t 88], (.lo 18), none, none⟩,
         ⟨(some 90), .mv, [.t 16], .none, none, none⟩,
         ⟨(some 91), (.iaA 1 3), [.t 18, .c (.int .i64 1)], .none, none, none⟩,
         ⟨(some 92), (.ld false 1), [.t 91], (.lo 18), none, none⟩,
         ⟨(some 93), (.iaA 1 3), [.t 18, .c (.int .i64 2)], .none, none, none⟩,
         ⟨(some 94), (.ld false 1), [.t 93], (.lo 18), none, none⟩,
         ⟨(some 95), (.call 26), [.t 87, .t 89, .t 90, .t 92, .t 94], .none, none, none⟩,
         ⟨(some 86), .mv, [.t 95], .none, none, none⟩,
         ⟨(some 96), (.ext 0), [.t 86], .none, none, none⟩,
         ⟨(some 97), (.ext 1), [.t 86], .none, none, none⟩,
         ⟨(some 21), .mvo, [.t 96], .none, (some 96), none⟩,
         ⟨(some 22), .mv, [.t 97], .none, none, none⟩] [87, 88, 89, 90, 91, 92, 93, 94, 95, 86, 96, 97, 18]) <|
      .seq (.reg false [] [
         ⟨(some 98), .mv, [.t 20], .none, none, none⟩,
         ⟨(some 99), .mv, [.t 22], .none, none, none⟩,
         ⟨(some 100), (.bin .neq), [.t 98, .t 99], .none, none, none⟩,
         ⟨(some 101), .mv, [.t 100], .none, none, none⟩,
         ⟨(some 102), .mv, [.t 19], .none, none, (some (101, false))⟩,
         ⟨(some 103), .mv, [.t 21], .none, none, (some (101, false))⟩,
         ⟨(some 104), (.call 27), [.t 102, .t 103], .none, none, (some (101, false))⟩,
         ⟨(some 105), (.un .not), [.t 104], .none, none, (some (101, false))⟩,
         ⟨(some 106), .pick, [.t 101, .c (.bool true), .t 105], .none, none, none⟩] [98, 99, 100, 101, 102, 103, 104, 105, 20, 22, 19, 21]) <|
      .cond (.t 106) (.seq (.reg false [] [⟨(some 12), .mv, [.c (.bool false)], .none, none, none⟩] []) <|
       .ret)
       (.skip))) <|
    .reg false [] [
      ⟨(some 107), (.bin .add), [.t 70, .c (.int .i64 1)], .none, none, none⟩,
      ⟨(some 70), .mv, [.t 107], .none, none, none⟩] [107])
def L10_1 : ACode :=
  .loop [50, 51, 52, 16, 53, 54, 55, 56, 57, 58, 59, 60, 61, 62, 63, 64, 65, 66, 67, 68, 69, 70, 71, 72, 73, 18, 75, 76, 77, 78, 79, 80, 81, 82, 83, 74, 84, 85, 19, 20, 87, 88, 89, 90, 91, 92, 93, 94, 95, 86, 96, 97, 21, 22, 98, 99, 100, 101, 102, 103, 104, 105, 106, 12, 107, 108] (.seq (.reg false [] [⟨(some 50), (.bin .lss), [.t 49, .t 48], .none, none, none⟩] []) <|
    .seq (.cond (.t 50) (.skip)
      (.exit 2)) <|
    .seq (.block 3 (.seq (.reg false [] [
         ⟨(some 51), (.ia 1), [.t 47, .t 49], .none, none, none⟩,
         ⟨(some 52), (.ld false 1), [.t 51], .none, none, none⟩,
         ⟨(some 16), .mv, [.t 52], .none, none, none⟩] [51, 52]) <|
      .seq (.reg false [] [
         ⟨(some 53), .mv, [.t 2], .none, none, none⟩,
         ⟨(some 54), .mv, [.t 4], .none, none, none⟩,
         ⟨(some 55), .mv, [.t 5], .none, none, none⟩,
         ⟨(some 56), (.build [.int .i64 0, .int .i64 0, .int .i64 0] [(0, 1), (1, 1), (2, 1)]), [.t 53, .t 54, .t 55], .none, none, none⟩,
         ⟨(some 57), .mv, [.t 2], .none, none, none⟩,
         ⟨(some 58), (.call 24), [.t 57, .c (.int .i64 14)], .none, none, none⟩,
         ⟨(some 59), .mv, [.t 4], .none, none, none⟩,
         ⟨(some 60), (.call 24), [.t 59, .c (.int .i64 24)], .none, none, none⟩,
         ⟨(some 61), .mv, [.t 5], .none, none, none⟩,
         ⟨(some 62), (.call 24), [.t 61, .c (.int .i64 12)], .none, none, none⟩,
         ⟨(some 63), (.bin .add), [.c (.int .i64 1), .t 62], .none, none, none⟩,
         ⟨(some 64), (.build [.int .i64 0, .int .i64 0, .int .i64 0] [(0, 1), (1, 1), (2, 1)]), [.t 58, .t 60, .t 63], .none, none, none⟩,
         ⟨(some 65), .mv, [.t 5], .none, none, none⟩,
         ⟨(some 66), (.call 24), [.t 65, .c (.int .i64 4)], .none, none, none⟩,
         ⟨(some 67), (.build [.int .i64 0, .int .i64 0, .int .i64 0] [(0, 1), (1, 1), (2, 1)]), [.c (.int .i64 1), .c (.int .i64 1073741822), .t 66], .none, none, none⟩,
         ⟨(some 68), (.mks 3 [.int .i64 0, .int .i64 0, .int .i64 0] 3 [0, 1, 2]), [.t 56, .t 64, .t 67], .none, none, none⟩,
         ⟨(some 69), (.len false), [.t 68], .none, none, none⟩,
         ⟨(some 70), .mv, [.c (.int .i64 0)], .none, none, none⟩] [53, 54, 55, 56, 57, 58, 59, 60, 61, 62, 63, 64, 65, 66, 67]) <|
      .block 4 (L10_0))) <|
    .reg false [] [
      ⟨(some 108), (.bin .add), [.t 49, .c (.int .i64 1)], .none, none, none⟩,
      ⟨(some 49), .mv, [.t 108], .none, none, none⟩] [108])
def L10_2 : ACode :=
  .loop [43, 44, 45, 14, 46, 47, 48, 49, 50, 51, 52, 16, 53, 54, 55, 56, 57, 58, 59, 60, 61, 62, 63, 64, 65, 66, 67, 68, 69, 70, 71, 72, 73, 18, 75, 76, 77, 78, 79, 80, 81, 82, 83, 74, 84, 85, 19, 20, 87, 88, 89, 90, 91, 92, 93, 94, 95, 86, 96, 97, 21, 22, 98, 99, 100, 101, 102, 103, 104, 105, 106, 12, 107, 108, 109] (.seq (.reg false [] [⟨(some 43), (.bin .lss), [.t 42, .t 41], .none, none, none⟩] []) <|
    .seq (.cond (.t 43) (.skip)
      (.exit 0)) <|
    .seq (.block 1 (.seq (.reg false [] [
         ⟨(some 44), (.ia 1), [.t 40, .t 42], .none, none, none⟩,
         ⟨(some 45), (.ld false 1), [.t 44], .none, none, none⟩,
         ⟨(some 14), .mvo, [.t 45], .none, (some 45), none⟩] [44, 45]) <|
      .seq (.reg false [] [
         ⟨(some 46), .mv, [.t 3], .none, none, none⟩,
         ⟨(some 47), (.mks 1 [.str []] 2 [0, 1]), [.t 46, .c (.str [97, 110, 110])], .none, none, none⟩,
         ⟨(some 48), (.len false), [.t 47], .none, none, none⟩,
         ⟨(some 49), .mv, [.c (.int .i64 0)], .none, none, none⟩] [46]) <|
      .block 2 (L10_1))) <|
    .reg false [] [
      ⟨(some 109), (.bin .add), [.t 42, .c (.int .i64 1)], .none, none, none⟩,
      ⟨(some 42), .mv, [.t 109], .none, none, none⟩] [109])
def F10 : AFun :=
  { nargs := 6, keep := false, res := [.tmp 12], body :=
    .seq (.reg false [] [⟨(some 12), .mv, [.c (.bool false)], .none, none, none⟩] [12]) <|
    .seq (.seq (.reg false [] [
        ⟨(some 23), .mv, [.t 1], .none, none, none⟩,
        ⟨(some 24), (.mks 1 [.sl .full 1 []] 1 [0]), [.t 23], .none, none, none⟩,
        ⟨(some 25), (.call 31), [.t 24], .none, none, none⟩,
        ⟨(some 26), .mv, [.t 25], .none, none, none⟩,
        ⟨(some 27), .mv, [.t 0], .none, none, (some (26, false))⟩,
        ⟨(some 28), (.len false), [.t 27], .none, none, (some (26, false))⟩,
        ⟨(some 29), (.bin .gtr), [.t 28, .c (.int .i64 60)], .none, none, (some (26, false))⟩,
        ⟨(some 30), .pick, [.t 26, .c (.bool true), .t 29], .none, none, none⟩,
        ⟨(some 31), .mv, [.t 30], .none, none, none⟩,
        ⟨(some 32), .mv, [.t 3], .none, none, (some (31, false))⟩,
        ⟨(some 33), (.len true), [.t 32], .none, none, (some (31, false))⟩,
        ⟨(some 34), (.bin .gtr), [.t 33, .c (.int .i64 60)], .none, none, (some (31, false))⟩,
        ⟨(some 35), .pick, [.t 31, .c (.bool true), .t 34], .none, none, none⟩] [23, 24, 25, 26, 27, 28, 29, 30, 31, 32, 33, 34]) <|
     .cond (.t 35) (.seq (.reg false [] [
         ⟨(some 36), (.call 30), [], .none, none, none⟩,
         ⟨(some 12), .mv, [.t 36], .none, none, none⟩] [36]) <|
      .ret)
      (.skip)) <|
    .seq (.seq (.reg false [] [
        ⟨(some 37), .mv, [.t 0], .none, none, none⟩,
        ⟨(some 38), .mv, [.t 1], .none, none, none⟩,
        ⟨(some 39), (.call 32), [.t 38], .none, none, none⟩,
        ⟨(some 40), (.mks 1 [.sl .full 3 []] 2 [0, 1]), [.t 37, .t 39], .none, none, none⟩,
        ⟨(some 41), (.len false), [.t 40], .none, none, none⟩,
        ⟨(some 42), .mv, [.c (.int .i64 0)], .none, none, none⟩] [37, 38, 39, 0, 1]) <|
     .block 0 (L10_2)) <|
    .seq (.reg false [] [
       ⟨(some 110), (.call 30), [], .none, none, none⟩,
       ⟨(some 12), .mv, [.t 110], .none, none, none⟩] [110]) <|
    .ret }

/- bitext/bitextlaw29.LockExcludes -/
def L11_0 : ACode :=
  .loop [33, 34, 35, 36, 39, 40, 41, 9, 42, 43, 44, 45, 46, 10, 48, 49, 50, 51, 52, 53, 54, 55, 56, 47, 57, 58, 11, 12, 59, 60, 61, 62, 63, 64, 65, 66, 67, 68, 69, 4, 70, 72, 73, 74, 75, 76, 77, 71, 78, 79, 13, 14, 80, 81, 82, 83, 84, 85, 86, 87, 88, 89, 90, 91, 92, 93, 94, 95, 96, 97, 98, 99, 100, 101, 102, 103, 104, 105, 106, 107, 108, 37, 38] (.seq (.seq (.reg false [] [
        ⟨(some 33), .mv, [.t 8], .none, none, none⟩,
        ⟨(some 34), .mv, [.t 1], .none, none, none⟩,
        ⟨(some 35), (.bin .add), [.c (.int .i64 30), .t 34], .none, none, none⟩,
        ⟨(some 36), (.bin .lss), [.t 33, .t 35], .none, none, none⟩] [33, 34, 35]) <|
     .cond (.t 36) (.skip)
      (.exit 0)) <|
    .seq (.block 1 (.seq (.reg false [] [
         ⟨(some 39), .mv, [.t 5], .none, none, none⟩,
         ⟨(some 40), (.call 36), [.t 39, .c (.int .i64 3)], .sh, none, none⟩,
         ⟨(some 41), (.bin .add), [.c (.int .i64 6), .t 40], .none, none, none⟩,
         ⟨(some 9), .mv, [.t 41], .none, none, none⟩] [39, 40, 41]) <|
      .seq (.reg false [] [
         ⟨(some 42), .mv, [.t 6], .none, none, none⟩,
         ⟨(some 43), .mv, [.t 9], .none, none, none⟩,
         ⟨(some 44), (.bin .sub), [.c (.int .i64 15), .t 43], .none, none, none⟩,
         ⟨(some 45), .mv, [.t 8], .none, none, none⟩,
         ⟨(some 46), (.call 33), [.t 42, .t 44, .t 45], .none, none, none⟩,
         ⟨(some 10), .mv, [.t 46], .none, none, none⟩] [42, 43, 44, 45, 46]) <|
      .seq (.seq (.reg false [] [
          ⟨(some 48), .mv, [.t 6], .none, none, none⟩,
          ⟨(some 49), .mv, [.t 9], .none, none, none⟩,
          ⟨(some 50), .mv, [.t 5], .none, none, none⟩,
          ⟨(some 51), (.call 37), [.t 50], .sh, none, none⟩,
          ⟨(some 52), .mv, [.t 8], .none, none, none⟩,
          ⟨(some 53), .mv, [.t 5], .none, none, none⟩,
          ⟨(some 54), (.call 36), [.t 53, .c (.int .i64 9)], .sh, none, none⟩,
          ⟨(some 55), (.bin .add), [.c (.int .i64 1), .t 54], .none, none, none⟩,
          ⟨(some 56), (.call 25), [.t 48, .t 49, .t 51, .t 52, .t 55], .none, none, none⟩,
          ⟨(some 47), .mv, [.t 56], .none, none, none⟩,
          ⟨(some 57), (.ext 0), [.t 47], .none, none, none⟩,
          ⟨(some 58), (.ext 1), [.t 47], .none, none, none⟩,
          ⟨(some 11), .mvo, [.t 57], .none, (some 57), none⟩,
          ⟨(some 12), .mv, [.t 58], .none, none, none⟩] [48, 49, 50, 51, 52, 53, 54, 55, 56, 47, 57, 58]) <|
       .seq (.reg false [] [
          ⟨(some 59), .mv, [.t 12], .none, none, none⟩,
          ⟨(some 60), (.bin .eql), [.t 59, .c (.int .i64 0)], .none, none, none⟩] [59, 12]) <|
       .cond (.t 60) (.seq (.seq (.reg false [] [
            ⟨(some 61), .mv, [.t 9], .none, none, none⟩,
            ⟨(some 62), (.bin .eql), [.t 61, .c (.int .i64 7)], .none, none, none⟩,
            ⟨(some 63), .mv, [.t 62], .none, none, none⟩,
            ⟨(some 64), .mv, [.t 11], .none, none, (some (63, false))⟩,
            ⟨(some 65), .mv, [.t 9], .none, none, (some (63, false))⟩,
            ⟨(some 66), .mv, [.t 8], .none, none, (some (63, false))⟩,
            ⟨(some 67), (.call 33), [.t 64, .t 65, .t 66], .none, none, (some (63, false))⟩,
            ⟨(some 68), (.bin .eql), [.t 67, .c (.str [])], .none, none, (some (63, false))⟩,
            ⟨(some 69), .pick, [.t 63, .c (.bool true), .t 68], .none, none, none⟩] [61, 62, 63, 64, 65, 66, 67, 68]) <|
         .cond (.t 69) (.seq (.reg false [] [⟨(some 4), .mv, [.c (.bool false)], .none, none, none⟩] []) <|
          .ret)
          (.skip)) <|
        .reg false [] [
          ⟨(some 70), .mv, [.t 11], .none, none, none⟩,
          ⟨(some 6), .mvo, [.t 70], .none, (some 70), none⟩] [70, 11])
        (.skip)) <|
      .seq (.seq (.reg false [] [
          ⟨(some 72), .mv, [.t 6], .none, none, none⟩,
          ⟨(some 73), .mv, [.t 9], .none, none, none⟩,
          ⟨(some 74), .mv, [.t 5], .none, none, none⟩,
          ⟨(some 75), (.call 37), [.t 74], .sh, none, none⟩,
          ⟨(some 76), .mv, [.t 8], .none, none, none⟩,
          ⟨(some 77), (.call 38), [.t 72, .t 73, .t 75, .t 76], .none, none, none⟩,
          ⟨(some 71), .mv, [.t 77], .none, none, none⟩,
          ⟨(some 78), (.ext 0), [.t 71], .none, none, none⟩,
          ⟨(some 79), (.ext 1), [.t 71], .none, none, none⟩,
          ⟨(some 13), .mvo, [.t 78], .none, (some 78), none⟩,
          ⟨(some 14), .mv, [.t 79], .none, none, none⟩] [72, 73, 74, 75, 76, 77, 71, 78, 79]) <|
       .seq (.reg false [] [
          ⟨(some 80), .mv, [.t 14], .none, none, none⟩,
          ⟨(some 81), (.bin .eql), [.t 80, .c (.int .i64 0)], .none, none, none⟩] [80, 14]) <|
       .cond (.t 81) (.reg false [] [
          ⟨(some 82), .mv, [.t 13], .none, none, none⟩,
          ⟨(some 6), .mvo, [.t 82], .none, (some 82), none⟩] [82, 13])
        (.skip)) <|
      .seq (.reg false [] [
         ⟨(some 83), .mv, [.t 6], .none, none, none⟩,
         ⟨(some 84), .mv, [.t 8], .none, none, none⟩,
         ⟨(some 85), (.call 33), [.t 83, .c (.int .i64 7), .t 84], .none, none, none⟩,
         ⟨(some 86), (.bin .neq), [.t 85, .c (.str [122, 111, 101])], .none, none, none⟩,
         ⟨(some 87), .mv, [.t 86], .none, none, none⟩,
         ⟨(some 88), .mv, [.t 9], .none, none, (some (87, false))⟩,
         ⟨(some 89), (.bin .neq), [.t 88, .c (.int .i64 8)], .none, none, (some (87, false))⟩,
         ⟨(some 90), .mv, [.t 89], .none, none, (some (87, false))⟩,
         ⟨(some 91), .mv, [.t 9], .none, none, (some (90, true))⟩,
         ⟨(some 92), (.bin .neq), [.t 91, .c (.int .i64 7)], .none, none, (some (90, true))⟩,
         ⟨(some 93), .pick, [.t 90, .t 92, .c (.bool false)], .none, none, (some (87, false))⟩,
         ⟨(some 94), .mv, [.t 93], .none, none, (some (87, false))⟩,
         ⟨(some 95), .mv, [.t 6], .none, none, (some (94, true))⟩,
         ⟨(some 96), .mv, [.t 9], .none, none, (some (94, true))⟩,
         ⟨(some 97), (.bin .sub), [.c (.int .i64 15), .t 96], .none, none, (some (94, true))⟩,
         ⟨(some 98), .mv, [.t 8], .none, none, (some (94, true))⟩,
         ⟨(some 99), (.call 33), [.t 95, .t 97, .t 98], .none, none, (some (94, true))⟩,
         ⟨(some 100), .mv, [.t 10], .none, none, (some (94, true))⟩,
         ⟨(some 101), (.bin .neq), [.t 99, .t 100], .none, none, (some (94, true))⟩,
         ⟨(some 102), .pick, [.t 94, .t 101, .c (.bool false)], .none, none, (some (87, false))⟩,
         ⟨(some 103), .pick, [.t 87, .c (.bool true), .t 102], .none, none, none⟩,
         ⟨(some 104), .mv, [.t 103], .none, none, none⟩,
         ⟨(some 105), .mv, [.t 6], .none, none, (some (104, false))⟩,
         ⟨(some 106), (.call 28), [.t 105], .none, none, (some (104, false))⟩,
         ⟨(some 107), (.bin .neq), [.t 106, .c (.int .i64 0)], .none, none, (some (104, false))⟩,
         ⟨(some 108), .pick, [.t 104, .c (.bool true), .t 107], .none, none, none⟩] [83, 84, 85, 86, 87, 88, 89, 90, 91, 92, 93, 94, 95, 96, 97, 98, 99, 100, 101, 102, 103, 104, 105, 106, 107, 9, 10]) <|
      .cond (.t 108) (.seq (.reg false [] [⟨(some 4), .mv, [.c (.bool false)], .none, none, none⟩] []) <|
       .ret)
       (.skip))) <|
    .reg false [] [
      ⟨(some 37), .mv, [.t 8], .none, none, none⟩,
      ⟨(some 38), (.bin .add), [.t 37, .c (.int .i64 1)], .none, none, none⟩,
      ⟨(some 8), .mv, [.t 38], .none, none, none⟩] [37, 38])
def F11 : AFun :=
  { nargs := 2, keep := false, res := [.tmp 4], body :=
    .seq (.reg false [] [⟨(some 4), .mv, [.c (.bool false)], .none, none, none⟩] [4]) <|
    .seq (.seq (.reg false [] [
        ⟨(some 15), .mv, [.t 0], .none, none, none⟩,
        ⟨(some 16), (.mks 1 [.sl .full 1 []] 1 [0]), [.t 15], .none, none, none⟩,
        ⟨(some 17), (.call 31), [.t 16], .none, none, none⟩] [15, 16]) <|
     .cond (.t 17) (.seq (.reg false [] [
         ⟨(some 18), (.call 30), [], .none, none, none⟩,
         ⟨(some 4), .mv, [.t 18], .none, none, none⟩] [18]) <|
      .ret)
      (.skip)) <|
    .seq (.reg false [] [
       ⟨(some 19), .mv, [.t 0], .none, none, none⟩,
       ⟨(some 20), (.call 35), [.t 19], .sh, none, none⟩,
       ⟨(some 5), .mv, [.t 20], .none, none, none⟩] [19, 20]) <|
    .seq (.reg false [] [
       ⟨(some 21), .mv, [.t 1], .none, none, none⟩,
       ⟨(some 22), (.call 24), [.t 21, .c (.int .i64 20)], .none, none, none⟩,
       ⟨(some 23), (.bin .add), [.c (.int .i64 3), .t 22], .none, none, none⟩,
       ⟨(some 1), .mv, [.t 23], .none, none, none⟩] [21, 22, 23]) <|
    .seq (.reg false [] [
       ⟨(some 25), .mv, [.t 0], .none, none, none⟩,
       ⟨(some 26), (.call 32), [.t 25], .none, none, none⟩,
       ⟨(some 27), .mv, [.t 1], .none, none, none⟩,
       ⟨(some 28), (.call 25), [.t 26, .c (.int .i64 7), .c (.str [122, 111, 101]), .c (.int .i64 30), .t 27], .none, none, none⟩,
       ⟨(some 24), .mv, [.t 28], .none, none, none⟩,
       ⟨(some 29), (.ext 0), [.t 24], .none, none, none⟩,
       ⟨(some 30), (.ext 1), [.t 24], .none, none, none⟩,
       ⟨(some 6), .mvo, [.t 29], .none, (some 29), none⟩,
       ⟨(some 7), .mv, [.t 30], .none, none, none⟩] [25, 26, 27, 28, 24, 29, 30, 0]) <|
    .seq (.seq (.reg false [] [
        ⟨(some 31), .mv, [.t 7], .none, none, none⟩,
        ⟨(some 32), (.bin .neq), [.t 31, .c (.int .i64 0)], .none, none, none⟩] [31, 7]) <|
     .cond (.t 32) (.seq (.reg false [] [⟨(some 4), .mv, [.c (.bool false)], .none, none, none⟩] []) <|
      .ret)
      (.skip)) <|
    .seq (.seq (.reg false [] [⟨(some 8), .mv, [.c (.int .i64 30)], .none, none, none⟩] []) <|
     .block 0 (L11_0)) <|
    .seq (.reg false [] [
       ⟨(some 109), .mv, [.t 6], .none, none, none⟩,
       ⟨(some 110), .mv, [.t 1], .none, none, none⟩,
       ⟨(some 111), (.bin .add), [.c (.int .i64 30), .t 110], .none, none, none⟩,
       ⟨(some 112), (.call 33), [.t 109, .c (.int .i64 7), .t 111], .none, none, none⟩,
       ⟨(some 113), (.bin .eql), [.t 112, .c (.str [])], .none, none, none⟩,
       ⟨(some 114), .mv, [.t 113], .none, none, none⟩,
       ⟨(some 115), (.call 30), [], .none, none, (some (114, true))⟩,
       ⟨(some 116), .pick, [.t 114, .t 115, .c (.bool false)], .none, none, none⟩,
       ⟨(some 4), .mv, [.t 116], .none, none, none⟩] [109, 110, 111, 112, 113, 114, 115, 116, 6, 1]) <|
    .ret }

/- bitext/bitextlaw29.LockReleases -/
def L13_0 : ACode :=
  .loop [62, 63, 64, 16, 66, 67, 68, 69, 70, 71, 72, 65, 73, 74, 17, 18, 76, 77, 78, 79, 80, 81, 82, 75, 83, 84, 19, 20, 85, 86, 87, 88, 89, 90, 91, 92, 93, 94, 95, 96, 97, 98, 99, 100, 101, 102, 103, 104, 105, 10, 106] (.seq (.reg false [] [⟨(some 62), (.bin .lss), [.t 61, .t 60], .none, none, none⟩] []) <|
    .seq (.cond (.t 62) (.skip)
      (.exit 4)) <|
    .seq (.block 5 (.seq (.reg false [16] [
         ⟨(some 63), (.ia 2), [.t 59, .t 61], .none, none, none⟩,
         ⟨(some 64), (.ld true 2), [.t 63], .none, none, none⟩,
         ⟨(some 16), (.alloc [.int .i64 0, .int .i64 0]), [], (.lo 16), none, none⟩,
         ⟨none, (.st 2), [.t 16, .t 64], (.lo 16), none, none⟩] [63, 64]) <|
      .seq (.reg false [] [
         ⟨(some 66), .mv, [.t 12], .none, none, none⟩,
         ⟨(some 67), (.iaA 1 2), [.t 16, .c (.int .i64 0)], .none, none, none⟩,
         ⟨(some 68), (.ld false 1), [.t 67], (.lo 16), none, none⟩,
         ⟨(some 69), .mv, [.t 14], .none, none, none⟩,
         ⟨(some 70), (.iaA 1 2), [.t 16, .c (.int .i64 1)], .none, none, none⟩,
         ⟨(some 71), (.ld false 1), [.t 70], (.lo 16), none, none⟩,
         ⟨(some 72), (.call 38), [.t 66, .t 68, .t 69, .t 71], .none, none, none⟩,
         ⟨(some 65), .mv, [.t 72], .none, none, none⟩,
         ⟨(some 73), (.ext 0), [.t 65], .none, none, none⟩,
         ⟨(some 74), (.ext 1), [.t 65], .none, none, none⟩,
         ⟨(some 17), .mvo, [.t 73], .none, (some 73), none⟩,
         ⟨(some 18), .mv, [.t 74], .none, none, none⟩] [66, 67, 68, 69, 70, 71, 72, 65, 73, 74]) <|
      .seq (.reg false [] [
         ⟨(some 76), .mv, [.t 12], .none, none, none⟩,
         ⟨(some 77), (.iaA 1 2), [.t 16, .c (.int .i64 0)], .none, none, none⟩,
         ⟨(some 78), (.ld false 1), [.t 77], (.lo 16), none, none⟩,
         ⟨(some 79), .mv, [.t 14], .none, none, none⟩,
         ⟨(some 80), (.iaA 1 2), [.t 16, .c (.int .i64 1)], .none, none, none⟩,
         ⟨(some 81), (.ld false 1), [.t 80], (.lo 16), none, none⟩,
         ⟨(some 82), (.call 40), [.t 76, .t 78, .t 79, .t 81], .none, none, none⟩,
         ⟨(some 75), .mv, [.t 82], .none, none, none⟩,
         ⟨(some 83), (.ext 0), [.t 75], .none, none, none⟩,
         ⟨(some 84), (.ext 1), [.t 75], .none, none, none⟩,
         ⟨(some 19), .mvo, [.t 83], .none, (some 83), none⟩,
         ⟨(some 20), .mv, [.t 84], .none, none, none⟩] [76, 77, 78, 79, 80, 81, 82, 75, 83, 84]) <|
      .seq (.reg true [] [
         ⟨(some 85), .mv, [.t 18], .none, none, none⟩,
         ⟨(some 86), .mv, [.t 20], .none, none, none⟩,
         ⟨(some 87), (.bin .neq), [.t 85, .t 86], .none, none, none⟩,
         ⟨(some 88), .mv, [.t 87], .none, none, none⟩,
         ⟨(some 89), .mv, [.t 17], .none, none, (some (88, false))⟩,
         ⟨(some 90), .mv, [.t 19], .none, none, (some (88, false))⟩,
         ⟨(some 91), (.call 27), [.t 89, .t 90], .none, none, (some (88, false))⟩,
         ⟨(some 92), (.un .not), [.t 91], .none, none, (some (88, false))⟩,
         ⟨(some 93), .pick, [.t 88, .c (.bool true), .t 92], .none, none, none⟩,
         ⟨(some 94), .mv, [.t 93], .none, none, none⟩,
         ⟨(some 95), .mv, [.t 12], .none, none, (some (94, false))⟩,
         ⟨(some 96), (.iaA 1 2), [.t 16, .c (.int .i64 1)], .none, none, (some (94, false))⟩,
         ⟨(some 97), (.ld false 1), [.t 96], (.lo 16), none, (some (94, false))⟩,
         ⟨(some 98), (.call 39), [.t 95, .t 97], .none, none, (some (94, false))⟩,
         ⟨(some 99), .mv, [.t 12], .none, none, (some (94, false))⟩,
         ⟨(some 100), (.iaA 1 2), [.t 16, .c (.int .i64 1)], .none, none, (some (94, false))⟩,
         ⟨(some 101), (.ld false 1), [.t 100], (.lo 16), none, (some (94, false))⟩,
         ⟨(some 102), (.call 41), [.t 99, .t 101], .none, none, (some (94, false))⟩,
         ⟨(some 103), (.call 27), [.t 98, .t 102], .none, none, (some (94, false))⟩,
         ⟨(some 104), (.un .not), [.t 103], .none, none, (some (94, false))⟩,
         ⟨(some 105), .pick, [.t 94, .c (.bool true), .t 104], .none, none, none⟩] [85, 86, 87, 88, 89, 90, 91, 92, 93, 94, 95, 96, 97, 98, 99, 100, 101, 102, 103, 104, 18, 20, 17, 19, 16]) <|
      .cond (.t 105) (.seq (.reg false [] [⟨(some 10), .mv, [.c (.bool false)], .none, none, none⟩] []) <|
       .ret)
       (.skip))) <|
    .reg false [] [
      ⟨(some 106), (.bin .add), [.t 61, .c (.int .i64 1)], .none, none, none⟩,
      ⟨(some 61), .mv, [.t 106], .none, none, none⟩] [106])
def L13_1 : ACode :=
  .loop [48, 49, 50, 14, 51, 52, 53, 54, 55, 56, 57, 58, 59, 60, 61, 62, 63, 64, 16, 66, 67, 68, 69, 70, 71, 72, 65, 73, 74, 17, 18, 76, 77, 78, 79, 80, 81, 82, 75, 83, 84, 19, 20, 85, 86, 87, 88, 89, 90, 91, 92, 93, 94, 95, 96, 97, 98, 99, 100, 101, 102, 103, 104, 105, 10, 106, 107] (.seq (.reg false [] [⟨(some 48), (.bin .lss), [.t 47, .t 46], .none, none, none⟩] []) <|
    .seq (.cond (.t 48) (.skip)
      (.exit 2)) <|
    .seq (.block 3 (.seq (.reg false [] [
         ⟨(some 49), (.ia 1), [.t 45, .t 47], .none, none, none⟩,
         ⟨(some 50), (.ld false 1), [.t 49], .none, none, none⟩,
         ⟨(some 14), .mv, [.t 50], .none, none, none⟩] [49, 50]) <|
      .seq (.reg false [] [
         ⟨(some 51), .mv, [.t 2], .none, none, none⟩,
         ⟨(some 52), .mv, [.t 4], .none, none, none⟩,
         ⟨(some 53), (.build [.int .i64 0, .int .i64 0] [(0, 1), (1, 1)]), [.t 51, .t 52], .none, none, none⟩,
         ⟨(some 54), .mv, [.t 2], .none, none, none⟩,
         ⟨(some 55), (.call 24), [.t 54, .c (.int .i64 14)], .none, none, none⟩,
         ⟨(some 56), .mv, [.t 4], .none, none, none⟩,
         ⟨(some 57), (.call 24), [.t 56, .c (.int .i64 24)], .none, none, none⟩,
         ⟨(some 58), (.build [.int .i64 0, .int .i64 0] [(0, 1), (1, 1)]), [.t 55, .t 57], .none, none, none⟩,
         ⟨(some 59), (.mks 2 [.int .i64 0, .int .i64 0] 2 [0, 1]), [.t 53, .t 58], .none, none, none⟩,
         ⟨(some 60), (.len false), [.t 59], .none, none, none⟩,
         ⟨(some 61), .mv, [.c (.int .i64 0)], .none, none, none⟩] [51, 52, 53, 54, 55, 56, 57, 58]) <|
      .block 4 (L13_0))) <|
    .reg false [] [
      ⟨(some 107), (.bin .add), [.t 47, .c (.int .i64 1)], .none, none, none⟩,
      ⟨(some 47), .mv, [.t 107], .none, none, none⟩] [107])
def L13_2 : ACode :=
  .loop [41, 42, 43, 12, 44, 45, 46, 47, 48, 49, 50, 14, 51, 52, 53, 54, 55, 56, 57, 58, 59, 60, 61, 62, 63, 64, 16, 66, 67, 68, 69, 70, 71, 72, 65, 73, 74, 17, 18, 76, 77, 78, 79, 80, 81, 82, 75, 83, 84, 19, 20, 85, 86, 87, 88, 89, 90, 91, 92, 93, 94, 95, 96, 97, 98, 99, 100, 101, 102, 103, 104, 105, 10, 106, 107, 108] (.seq (.reg false [] [⟨(some 41), (.bin .lss), [.t 40, .t 39], .none, none, none⟩] []) <|
    .seq (.cond (.t 41) (.skip)
      (.exit 0)) <|
    .seq (.block 1 (.seq (.reg false [] [
         ⟨(some 42), (.ia 1), [.t 38, .t 40], .none, none, none⟩,
         ⟨(some 43), (.ld false 1), [.t 42], .none, none, none⟩,
         ⟨(some 12), .mvo, [.t 43], .none, (some 43), none⟩] [42, 43]) <|
      .seq (.reg false [] [
         ⟨(some 44), .mv, [.t 3], .none, none, none⟩,
         ⟨(some 45), (.mks 1 [.str []] 3 [0, 1, 2]), [.t 44, .c (.str [97, 110, 110]), .c (.str [98, 111, 98])], .none, none, none⟩,
         ⟨(some 46), (.len false), [.t 45], .none, none, none⟩,
         ⟨(some 47), .mv, [.c (.int .i64 0)], .none, none, none⟩] [44]) <|
      .block 2 (L13_1))) <|
    .reg false [] [
      ⟨(some 108), (.bin .add), [.t 40, .c (.int .i64 1)], .none, none, none⟩,
      ⟨(some 40), .mv, [.t 108], .none, none, none⟩] [108])
def F13 : AFun :=
  { nargs := 5, keep := false, res := [.tmp 10], body :=
    .seq (.reg false [] [⟨(some 10), .mv, [.c (.bool false)], .none, none, none⟩] [10]) <|
    .seq (.seq (.reg false [] [
        ⟨(some 21), .mv, [.t 1], .none, none, none⟩,
        ⟨(some 22), (.mks 1 [.sl .full 1 []] 1 [0]), [.t 21], .none, none, none⟩,
        ⟨(some 23), (.call 31), [.t 22], .none, none, none⟩,
        ⟨(some 24), .mv, [.t 23], .none, none, none⟩,
        ⟨(some 25), .mv, [.t 0], .none, none, (some (24, false))⟩,
        ⟨(some 26), (.len false), [.t 25], .none, none, (some (24, false))⟩,
        ⟨(some 27), (.bin .gtr), [.t 26, .c (.int .i64 60)], .none, none, (some (24, false))⟩,
        ⟨(some 28), .pick, [.t 24, .c (.bool true), .t 27], .none, none, none⟩,
        ⟨(some 29), .mv, [.t 28], .none, none, none⟩,
        ⟨(some 30), .mv, [.t 3], .none, none, (some (29, false))⟩,
        ⟨(some 31), (.len true), [.t 30], .none, none, (some (29, false))⟩,
        ⟨(some 32), (.bin .gtr), [.t 31, .c (.int .i64 60)], .none, none, (some (29, false))⟩,
        ⟨(some 33), .pick, [.t 29, .c (.bool true), .t 32], .none, none, none⟩] [21, 22, 23, 24, 25, 26, 27, 28, 29, 30, 31, 32]) <|
     .cond (.t 33) (.seq (.reg false [] [
         ⟨(some 34), (.call 30), [], .none, none, none⟩,
         ⟨(some 10), .mv, [.t 34], .none, none, none⟩] [34]) <|
      .ret)
      (.skip)) <|
    .seq (.seq (.reg false [] [
        ⟨(some 35), .mv, [.t 0], .none, none, none⟩,
        ⟨(some 36), .mv, [.t 1], .none, none, none⟩,
        ⟨(some 37), (.call 32), [.t 36], .none, none, none⟩,
        ⟨(some 38), (.mks 1 [.sl .full 3 []] 2 [0, 1]), [.t 35, .t 37], .none, none, none⟩,
        ⟨(some 39), (.len false), [.t 38], .none, none, none⟩,
        ⟨(some 40), .mv, [.c (.int .i64 0)], .none, none, none⟩] [35, 36, 37, 0, 1]) <|
     .block 0 (L13_2)) <|
    .seq (.reg false [] [
       ⟨(some 109), (.call 30), [], .none, none, none⟩,
       ⟨(some 10), .mv, [.t 109], .none, none, none⟩] [109]) <|
    .ret }

/- bitext/bitextref28.Acquire -/
def L26_0 : ACode :=
  .loop [84, 85, 86, 17, 87, 88, 89, 90, 91, 92, 93, 94, 95, 96, 97, 98, 99, 100, 101, 102] (.seq (.reg false [] [⟨(some 84), (.bin .lss), [.t 83, .t 82], .none, none, none⟩] []) <|
    .seq (.cond (.t 84) (.skip)
      (.exit 0)) <|
    .seq (.block 1 (.seq (.reg false [17] [
         ⟨(some 85), (.ia 3), [.t 81, .t 83], .none, none, none⟩,
         ⟨(some 86), (.ld true 3), [.t 85], .none, none, none⟩,
         ⟨(some 17), (.alloc [.int .i64 0, .str [], .int .i64 0]), [], (.lo 17), none, none⟩,
         ⟨none, (.st 3), [.t 17, .t 86], (.lo 17), none, none⟩] [85, 86]) <|
      .seq (.reg false [] [
         ⟨(some 87), .mv, [.t 13], .none, none, none⟩,
         ⟨(some 88), .mv, [.t 2], .none, none, none⟩,
         ⟨(some 89), (.bin .eql), [.t 87, .t 88], .none, none, none⟩,
         ⟨(some 90), .mv, [.t 89], .none, none, none⟩,
         ⟨(some 91), (.fa 0), [.t 17], .none, none, (some (90, true))⟩,
         ⟨(some 92), (.ld false 1), [.t 91], (.lo 17), none, (some (90, true))⟩,
         ⟨(some 93), .mv, [.t 1], .none, none, (some (90, true))⟩,
         ⟨(some 94), (.bin .eql), [.t 92, .t 93], .none, none, (some (90, true))⟩,
         ⟨(some 95), .pick, [.t 90, .t 94, .c (.bool false)], .none, none, none⟩] [87, 88, 89, 90, 91, 92, 93, 94]) <|
      .cond (.t 95) (.reg false [] [
         ⟨(some 96), (.fa 2), [.t 15], .none, none, none⟩,
         ⟨(some 97), (.ld false 1), [.t 96], (.lo 15), none, none⟩,
         ⟨(some 98), (.fa 2), [.t 17], .none, none, none⟩,
         ⟨(some 99), (.ld false 1), [.t 98], (.lo 17), none, none⟩,
         ⟨(some 100), (.mm true), [.t 97, .t 99], .none, none, none⟩,
         ⟨(some 101), (.fa 2), [.t 15], .none, none, none⟩,
         ⟨none, (.st 1), [.t 101, .t 100], (.lo 15), none, none⟩] [96, 97, 98, 99, 100, 101, 17])
       (.skip))) <|
    .reg false [] [
      ⟨(some 102), (.bin .add), [.t 83, .c (.int .i64 1)], .none, none, none⟩,
      ⟨(some 83), .mv, [.t 102], .none, none, none⟩] [102])
def L26_1 : ACode :=
  .loop [106, 107, 108, 20, 109, 110, 111, 112, 113, 114, 115, 116, 117] (.seq (.reg false [] [⟨(some 106), (.bin .lss), [.t 105, .t 104], .none, none, none⟩] []) <|
    .seq (.cond (.t 106) (.skip)
      (.exit 2)) <|
    .seq (.block 3 (.seq (.reg false [20] [
         ⟨(some 107), (.ia 3), [.t 103, .t 105], .none, none, none⟩,
         ⟨(some 108), (.ld true 3), [.t 107], .none, none, none⟩,
         ⟨(some 20), (.alloc [.int .i64 0, .str [], .int .i64 0]), [], (.lo 20), none, none⟩,
         ⟨none, (.st 3), [.t 20, .t 108], (.lo 20), none, none⟩] [107, 108]) <|
      .seq (.reg false [] [
         ⟨(some 109), (.fa 0), [.t 20], .none, none, none⟩,
         ⟨(some 110), (.ld false 1), [.t 109], (.lo 20), none, none⟩,
         ⟨(some 111), .mv, [.t 1], .none, none, none⟩,
         ⟨(some 112), (.bin .lss), [.t 110, .t 111], .none, none, none⟩] [109, 110, 111]) <|
      .cond (.t 112) (.reg false [] [
         ⟨(some 113), .mvo, [.t 18], .none, (some 18), none⟩,
         ⟨(some 114), (.ld true 3), [.t 20], (.lo 20), none, none⟩,
         ⟨(some 115), (.mks 3 [.int .i64 0, .str [], .int .i64 0] 1 [0]), [.t 114], .none, none, none⟩,
         ⟨(some 116), (.app false 3 32), [.t 113, .t 115], .none, (some 113), none⟩,
         ⟨(some 18), .mvo, [.t 116], .none, (some 116), none⟩] [113, 114, 115, 116, 20])
       (.skip))) <|
    .reg false [] [
      ⟨(some 117), (.bin .add), [.t 105, .c (.int .i64 1)], .none, none, none⟩,
      ⟨(some 105), .mv, [.t 117], .none, none, none⟩] [117])
def L26_2 : ACode :=
  .loop [125, 126, 127, 22, 128, 129, 130, 131, 132, 133, 134, 135, 136] (.seq (.reg false [] [⟨(some 125), (.bin .lss), [.t 124, .t 123], .none, none, none⟩] []) <|
    .seq (.cond (.t 125) (.skip)
      (.exit 4)) <|
    .seq (.block 5 (.seq (.reg false [22] [
         ⟨(some 126), (.ia 3), [.t 122, .t 124], .none, none, none⟩,
         ⟨(some 127), (.ld true 3), [.t 126], .none, none, none⟩,
         ⟨(some 22), (.alloc [.int .i64 0, .str [], .int .i64 0]), [], (.lo 22), none, none⟩,
         ⟨none, (.st 3), [.t 22, .t 127], (.lo 22), none, none⟩] [126, 127]) <|
      .seq (.reg false [] [
         ⟨(some 128), (.fa 0), [.t 22], .none, none, none⟩,
         ⟨(some 129), (.ld false 1), [.t 128], (.lo 22), none, none⟩,
         ⟨(some 130), .mv, [.t 1], .none, none, none⟩,
         ⟨(some 131), (.bin .gtr), [.t 129, .t 130], .none, none, none⟩] [128, 129, 130]) <|
      .cond (.t 131) (.reg false [] [
         ⟨(some 132), .mvo, [.t 18], .none, (some 18), none⟩,
         ⟨(some 133), (.ld true 3), [.t 22], (.lo 22), none, none⟩,
         ⟨(some 134), (.mks 3 [.int .i64 0, .str [], .int .i64 0] 1 [0]), [.t 133], .none, none, none⟩,
         ⟨(some 135), (.app false 3 32), [.t 132, .t 134], .none, (some 132), none⟩,
         ⟨(some 18), .mvo, [.t 135], .none, (some 135), none⟩] [132, 133, 134, 135, 22])
       (.skip))) <|
    .reg false [] [
      ⟨(some 136), (.bin .add), [.t 124, .c (.int .i64 1)], .none, none, none⟩,
      ⟨(some 124), .mv, [.t 136], .none, none, none⟩] [136])
def F26 : AFun :=
  { nargs := 5, keep := false, res := [.tmp 10, .tmp 11], body :=
    .seq (.reg false [] [
       ⟨(some 10), .mv, [.c (.sl .full 3 [])], .none, none, none⟩,
       ⟨(some 11), .mv, [.c (.int .i64 0)], .none, none, none⟩] [10, 11]) <|
    .seq (.seq (.reg false [] [
        ⟨(some 23), .mv, [.t 0], .none, none, none⟩,
        ⟨(some 24), (.call 29), [.t 23], .none, none, none⟩,
        ⟨(some 12), .mv, [.t 24], .none, none, none⟩] [23, 24]) <|
     .seq (.reg false [] [
        ⟨(some 25), .mv, [.t 12], .none, none, none⟩,
        ⟨(some 26), (.bin .neq), [.t 25, .c (.int .i64 0)], .none, none, none⟩] [25]) <|
     .cond (.t 26) (.seq (.reg false [] [
         ⟨(some 27), .mv, [.t 12], .none, none, none⟩,
         ⟨(some 10), .mv, [.c (.sl .full 3 [])], .none, none, none⟩,
         ⟨(some 11), .mv, [.t 27], .none, none, none⟩] [27, 12]) <|
      .ret)
      (.skip)) <|
    .seq (.seq (.reg false [] [
        ⟨(some 28), .mv, [.t 1], .none, none, none⟩,
        ⟨(some 29), (.bin .lss), [.t 28, .c (.int .i64 1)], .none, none, none⟩,
        ⟨(some 30), .mv, [.t 29], .none, none, none⟩,
        ⟨(some 31), .mv, [.t 3], .none, none, (some (30, false))⟩,
        ⟨(some 32), (.bin .lss), [.t 31, .c (.int .i64 0)], .none, none, (some (30, false))⟩,
        ⟨(some 33), .pick, [.t 30, .c (.bool true), .t 32], .none, none, none⟩,
        ⟨(some 34), .mv, [.t 33], .none, none, none⟩,
        ⟨(some 35), .mv, [.t 3], .none, none, (some (34, false))⟩,
        ⟨(some 36), (.bin .gtr), [.t 35, .c (.int .i64 1073741824)], .none, none, (some (34, false))⟩,
        ⟨(some 37), .pick, [.t 34, .c (.bool true), .t 36], .none, none, none⟩,
        ⟨(some 38), .mv, [.t 37], .none, none, none⟩,
        ⟨(some 39), .mv, [.t 4], .none, none, (some (38, false))⟩,
        ⟨(some 40), (.bin .lss), [.t 39, .c (.int .i64 1)], .none, none, (some (38, false))⟩,
        ⟨(some 41), .pick, [.t 38, .c (.bool true), .t 40], .none, none, none⟩,
        ⟨(some 42), .mv, [.t 41], .none, none, none⟩,
        ⟨(some 43), .mv, [.t 4], .none, none, (some (42, false))⟩,
        ⟨(some 44), .mv, [.t 3], .none, none, (some (42, false))⟩,
        ⟨(some 45), (.bin .sub), [.c (.int .i64 1073741824), .t 44], .none, none, (some (42, false))⟩,
        ⟨(some 46), (.bin .gtr), [.t 43, .t 45], .none, none, (some (42, false))⟩,
        ⟨(some 47), .pick, [.t 42, .c (.bool true), .t 46], .none, none, none⟩] [28, 29, 30, 31, 32, 33, 34, 35, 36, 37, 38, 39, 40, 41, 42, 43, 44, 45, 46]) <|
     .cond (.t 47) (.seq (.reg false [] [
         ⟨(some 10), .mv, [.c (.sl .full 3 [])], .none, none, none⟩,
         ⟨(some 11), .mv, [.c (.int .i64 1)], .none, none, none⟩] []) <|
      .ret)
      (.skip)) <|
    .seq (.seq (.reg false [] [
        ⟨(some 48), .mv, [.t 2], .none, none, none⟩,
        ⟨(some 49), (.call 56), [.t 48], .none, none, none⟩,
        ⟨(some 50), (.un .not), [.t 49], .none, none, none⟩] [48, 49]) <|
     .cond (.t 50) (.seq (.reg false [] [
         ⟨(some 10), .mv, [.c (.sl .full 3 [])], .none, none, none⟩,
         ⟨(some 11), .mv, [.c (.int .i64 4)], .none, none, none⟩] []) <|
      .ret)
      (.skip)) <|
    .seq (.reg false [] [
       ⟨(some 51), .mv, [.t 0], .none, none, none⟩,
       ⟨(some 52), .mv, [.t 1], .none, none, none⟩,
       ⟨(some 53), .mv, [.t 3], .none, none, none⟩,
       ⟨(some 54), (.call 34), [.t 51, .t 52, .t 53], .none, none, none⟩,
       ⟨(some 13), .mv, [.t 54], .none, none, none⟩] [51, 52, 53, 54]) <|
    .seq (.seq (.reg false [] [
        ⟨(some 55), .mv, [.t 13], .none, none, none⟩,
        ⟨(some 56), (.bin .neq), [.t 55, .c (.str [])], .none, none, none⟩,
        ⟨(some 57), .mv, [.t 56], .none, none, none⟩,
        ⟨(some 58), .mv, [.t 13], .none, none, (some (57, true))⟩,
        ⟨(some 59), .mv, [.t 2], .none, none, (some (57, true))⟩,
        ⟨(some 60), (.bin .neq), [.t 58, .t 59], .none, none, (some (57, true))⟩,
        ⟨(some 61), .pick, [.t 57, .t 60, .c (.bool false)], .none, none, none⟩] [55, 56, 57, 58, 59, 60]) <|
     .cond (.t 61) (.seq (.reg false [] [
         ⟨(some 10), .mv, [.c (.sl .full 3 [])], .none, none, none⟩,
         ⟨(some 11), .mv, [.c (.int .i64 9)], .none, none, none⟩] []) <|
      .ret)
      (.skip)) <|
    .seq (.reg false [] [
       ⟨(some 62), .mv, [.t 0], .none, none, none⟩,
       ⟨(some 63), .mv, [.t 1], .none, none, none⟩,
       ⟨(some 64), (.call 57), [.t 62, .t 63], .none, none, none⟩,
       ⟨(some 14), .mvo, [.t 64], .none, (some 64), none⟩] [62, 63, 64]) <|
    .seq (.seq (.reg false [] [
        ⟨(some 65), .mv, [.t 14], .none, none, none⟩,
        ⟨(some 66), (.len false), [.t 65], .none, none, none⟩,
        ⟨(some 67), .mv, [.t 0], .none, none, none⟩,
        ⟨(some 68), (.len false), [.t 67], .none, none, none⟩,
        ⟨(some 69), (.bin .eql), [.t 66, .t 68], .none, none, none⟩,
        ⟨(some 70), .mv, [.t 69], .none, none, none⟩,
        ⟨(some 71), .mv, [.t 0], .none, none, (some (70, true))⟩,
        ⟨(some 72), (.len false), [.t 71], .none, none, (some (70, true))⟩,
        ⟨(some 73), (.bin .geq), [.t 72, .c (.int .i64 512)], .none, none, (some (70, true))⟩,
        ⟨(some 74), .pick, [.t 70, .t 73, .c (.bool false)], .none, none, none⟩] [65, 66, 67, 68, 69, 70, 71, 72, 73]) <|
     .cond (.t 74) (.seq (.reg false [] [
         ⟨(some 10), .mv, [.c (.sl .full 3 [])], .none, none, none⟩,
         ⟨(some 11), .mv, [.c (.int .i64 3)], .none, none, none⟩] []) <|
      .ret)
      (.skip)) <|
    .seq (.reg false [15] [
       ⟨(some 75), .mv, [.t 1], .none, none, none⟩,
       ⟨(some 76), .mv, [.t 2], .none, none, none⟩,
       ⟨(some 77), .mv, [.t 3], .none, none, none⟩,
       ⟨(some 78), .mv, [.t 4], .none, none, none⟩,
       ⟨(some 79), (.bin .add), [.t 77, .t 78], .none, none, none⟩,
       ⟨(some 80), (.build [.int .i64 0, .str [], .int .i64 0] [(0, 1), (1, 1), (2, 1)]), [.t 75, .t 76, .t 79], .none, none, none⟩,
       ⟨(some 15), (.alloc [.int .i64 0, .str [], .int .i64 0]), [], (.lo 15), none, none⟩,
       ⟨none, (.st 3), [.t 15, .t 80], (.lo 15), none, none⟩] [75, 76, 77, 78, 79, 80, 3, 4]) <|
    .seq (.seq (.reg false [] [
        ⟨(some 81), .mv, [.t 0], .none, none, none⟩,
        ⟨(some 82), (.len false), [.t 81], .none, none, none⟩,
        ⟨(some 83), .mv, [.c (.int .i64 0)], .none, none, none⟩] [0]) <|
     .block 0 (L26_0)) <|
    .seq (.reg false [] [⟨(some 18), .mv, [.c (.sl .full 3 [])], .none, none, none⟩] []) <|
    .seq (.seq (.reg false [] [
        ⟨(some 103), .mv, [.t 14], .none, none, none⟩,
        ⟨(some 104), (.len false), [.t 103], .none, none, none⟩,
        ⟨(some 105), .mv, [.c (.int .i64 0)], .none, none, none⟩] []) <|
     .block 2 (L26_1)) <|
    .seq (.reg false [] [
       ⟨(some 118), .mvo, [.t 18], .none, (some 18), none⟩,
       ⟨(some 119), (.ld true 3), [.t 15], (.lo 15), none, none⟩,
       ⟨(some 120), (.mks 3 [.int .i64 0, .str [], .int .i64 0] 1 [0]), [.t 119], .none, none, none⟩,
       ⟨(some 121), (.app false 3 32), [.t 118, .t 120], .none, (some 118), none⟩,
       ⟨(some 18), .mvo, [.t 121], .none, (some 121), none⟩] [118, 119, 120, 121, 15]) <|
    .seq (.seq (.reg false [] [
        ⟨(some 122), .mv, [.t 14], .none, none, none⟩,
        ⟨(some 123), (.len false), [.t 122], .none, none, none⟩,
        ⟨(some 124), .mv, [.c (.int .i64 0)], .none, none, none⟩] [14]) <|
     .block 4 (L26_2)) <|
    .seq (.reg false [] [
       ⟨(some 137), .mv, [.t 18], .none, none, none⟩,
       ⟨(some 10), .mvo, [.t 137], .none, (some 137), none⟩,
       ⟨(some 11), .mv, [.c (.int .i64 0)], .none, none, none⟩] [137, 18]) <|
    .ret }

/- bitext/bitextref28.SameLeases -/
def L27_0 : ACode :=
  .loop [14, 15, 5, 16, 17, 18, 19, 20, 21, 22, 23, 24, 4, 25] (.seq (.reg false [] [⟨(some 14), (.bin .lss), [.t 13, .t 12], .none, none, none⟩] []) <|
    .seq (.cond (.t 14) (.skip)
      (.exit 0)) <|
    .seq (.block 1 (.seq (.reg false [] [
         ⟨(some 15), .mv, [.t 13], .none, none, none⟩,
         ⟨(some 5), .mv, [.t 15], .none, none, none⟩] [15]) <|
      .seq (.reg true [] [
         ⟨(some 16), .mv, [.t 0], .none, none, none⟩,
         ⟨(some 17), .mv, [.t 5], .none, none, none⟩,
         ⟨(some 18), (.ia 3), [.t 16, .t 17], .none, none, none⟩,
         ⟨(some 19), (.ld true 3), [.t 18], .none, none, none⟩,
         ⟨(some 20), .mv, [.t 1], .none, none, none⟩,
         ⟨(some 21), .mv, [.t 5], .none, none, none⟩,
         ⟨(some 22), (.ia 3), [.t 20, .t 21], .none, none, none⟩,
         ⟨(some 23), (.ld true 3), [.t 22], .none, none, none⟩,
         ⟨(some 24), (.seq true [0, 2, 0]), [.t 19, .t 23], .none, none, none⟩] [16, 17, 18, 19, 20, 21, 22, 23, 5]) <|
      .cond (.t 24) (.seq (.reg false [] [⟨(some 4), .mv, [.c (.bool false)], .none, none, none⟩] []) <|
       .ret)
       (.skip))) <|
    .reg false [] [
      ⟨(some 25), (.bin .add), [.t 13, .c (.int .i64 1)], .none, none, none⟩,
      ⟨(some 13), .mv, [.t 25], .none, none, none⟩] [25])
def F27 : AFun :=
  { nargs := 2, keep := false, res := [.tmp 4], body :=
    .seq (.reg false [] [⟨(some 4), .mv, [.c (.bool false)], .none, none, none⟩] [4]) <|
    .seq (.seq (.reg false [] [
        ⟨(some 6), .mv, [.t 0], .none, none, none⟩,
        ⟨(some 7), (.len false), [.t 6], .none, none, none⟩,
        ⟨(some 8), .mv, [.t 1], .none, none, none⟩,
        ⟨(some 9), (.len false), [.t 8], .none, none, none⟩,
        ⟨(some 10), (.bin .neq), [.t 7, .t 9], .none, none, none⟩] [6, 7, 8, 9]) <|
     .cond (.t 10) (.seq (.reg false [] [⟨(some 4), .mv, [.c (.bool false)], .none, none, none⟩] []) <|
      .ret)
      (.skip)) <|
    .seq (.seq (.reg false [] [
        ⟨(some 11), .mv, [.t 0], .none, none, none⟩,
        ⟨(some 12), (.len false), [.t 11], .none, none, none⟩,
        ⟨(some 13), .mv, [.c (.int .i64 0)], .none, none, none⟩] [11]) <|
     .block 0 (L27_0)) <|
    .seq (.reg false [] [⟨(some 4), .mv, [.c (.bool true)], .none, none, none⟩] []) <|
    .ret }

/- bitext/bitextref28.Release -/
def F40 : AFun :=
  { nargs := 4, keep := false, res := [.tmp 8, .tmp 9], body :=
    .seq (.reg false [] [
       ⟨(some 8), .mv, [.c (.sl .full 3 [])], .none, none, none⟩,
       ⟨(some 9), .mv, [.c (.int .i64 0)], .none, none, none⟩] [8, 9]) <|
    .seq (.seq (.reg false [] [
        ⟨(some 11), .mv, [.t 0], .none, none, none⟩,
        ⟨(some 12), (.call 29), [.t 11], .none, none, none⟩,
        ⟨(some 10), .mv, [.t 12], .none, none, none⟩] [11, 12]) <|
     .seq (.reg false [] [
        ⟨(some 13), .mv, [.t 10], .none, none, none⟩,
        ⟨(some 14), (.bin .neq), [.t 13, .c (.int .i64 0)], .none, none, none⟩] [13]) <|
     .cond (.t 14) (.seq (.reg false [] [
         ⟨(some 15), .mv, [.t 10], .none, none, none⟩,
         ⟨(some 8), .mv, [.c (.sl .full 3 [])], .none, none, none⟩,
         ⟨(some 9), .mv, [.t 15], .none, none, none⟩] [15, 10]) <|
      .ret)
      (.skip)) <|
    .seq (.seq (.reg false [] [
        ⟨(some 16), .mv, [.t 0], .none, none, none⟩,
        ⟨(some 17), .mv, [.t 1], .none, none, none⟩,
        ⟨(some 18), .mv, [.t 3], .none, none, none⟩,
        ⟨(some 19), (.call 34), [.t 16, .t 17, .t 18], .none, none, none⟩] [16, 17, 18, 3]) <|
     .block 0 (.seq (.reg false [] [
         ⟨(some 21), (.bin .eql), [.t 19, .c (.str [])], .none, none, none⟩,
         ⟨(some 20), .mv, [.t 21], .none, none, none⟩] [21]) <|
      .cond (.t 20) (.seq (.reg false [] [
          ⟨(some 8), .mv, [.c (.sl .full 3 [])], .none, none, none⟩,
          ⟨(some 9), .mv, [.c (.int .i64 6)], .none, none, none⟩] []) <|
       .ret)
       (.seq (.reg false [] [
          ⟨(some 23), .mv, [.t 2], .none, none, none⟩,
          ⟨(some 24), (.bin .eql), [.t 19, .t 23], .none, none, none⟩,
          ⟨(some 22), .mv, [.t 24], .none, none, none⟩] [23, 24, 2, 19]) <|
       .cond (.t 22) (.seq (.reg false [] [
           ⟨(some 25), .mv, [.t 0], .none, none, none⟩,
           ⟨(some 26), .mv, [.t 1], .none, none, none⟩,
           ⟨(some 27), (.call 57), [.t 25, .t 26], .none, none, none⟩,
           ⟨(some 8), .mvo, [.t 27], .none, (some 27), none⟩,
           ⟨(some 9), .mv, [.c (.int .i64 0)], .none, none, none⟩] [25, 26, 27, 0, 1]) <|
        .ret)
        (.skip)))) <|
    .seq (.reg false [] [
       ⟨(some 8), .mv, [.c (.sl .full 3 [])], .none, none, none⟩,
       ⟨(some 9), .mv, [.c (.int .i64 9)], .none, none, none⟩] []) <|
    .ret }

/- bitext/bitextref28.Expire -/
def L41_0 : ACode :=
  .loop [11, 12, 13, 7, 14, 15, 16, 17, 18, 19, 20, 21, 22] (.seq (.reg false [] [⟨(some 11), (.bin .lss), [.t 10, .t 9], .none, none, none⟩] []) <|
    .seq (.cond (.t 11) (.skip)
      (.exit 0)) <|
    .seq (.block 1 (.seq (.reg false [7] [
         ⟨(some 12), (.ia 3), [.t 8, .t 10], .none, none, none⟩,
         ⟨(some 13), (.ld true 3), [.t 12], .none, none, none⟩,
         ⟨(some 7), (.alloc [.int .i64 0, .str [], .int .i64 0]), [], (.lo 7), none, none⟩,
         ⟨none, (.st 3), [.t 7, .t 13], (.lo 7), none, none⟩] [12, 13]) <|
      .seq (.reg false [] [
         ⟨(some 14), (.fa 2), [.t 7], .none, none, none⟩,
         ⟨(some 15), (.ld false 1), [.t 14], (.lo 7), none, none⟩,
         ⟨(some 16), .mv, [.t 1], .none, none, none⟩,
         ⟨(some 17), (.bin .gtr), [.t 15, .t 16], .none, none, none⟩] [14, 15, 16]) <|
      .cond (.t 17) (.reg false [] [
         ⟨(some 18), .mvo, [.t 5], .none, (some 5), none⟩,
         ⟨(some 19), (.ld true 3), [.t 7], (.lo 7), none, none⟩,
         ⟨(some 20), (.mks 3 [.int .i64 0, .str [], .int .i64 0] 1 [0]), [.t 19], .none, none, none⟩,
         ⟨(some 21), (.app false 3 32), [.t 18, .t 20], .none, (some 18), none⟩,
         ⟨(some 5), .mvo, [.t 21], .none, (some 21), none⟩] [18, 19, 20, 21, 7])
       (.skip))) <|
    .reg false [] [
      ⟨(some 22), (.bin .add), [.t 10, .c (.int .i64 1)], .none, none, none⟩,
      ⟨(some 10), .mv, [.t 22], .none, none, none⟩] [22])
def F41 : AFun :=
  { nargs := 2, keep := false, res := [.tmp 4], body :=
    .seq (.reg false [] [⟨(some 4), .mv, [.c (.sl .full 3 [])], .none, none, none⟩] [4]) <|
    .seq (.reg false [] [⟨(some 5), .mv, [.c (.sl .full 3 [])], .none, none, none⟩] []) <|
    .seq (.seq (.reg false [] [
        ⟨(some 8), .mv, [.t 0], .none, none, none⟩,
        ⟨(some 9), (.len false), [.t 8], .none, none, none⟩,
        ⟨(some 10), .mv, [.c (.int .i64 0)], .none, none, none⟩] [0]) <|
     .block 0 (L41_0)) <|
    .seq (.reg false [] [
       ⟨(some 23), .mv, [.t 5], .none, none, none⟩,
       ⟨(some 4), .mvo, [.t 23], .none, (some 23), none⟩] [23, 5]) <|
    .ret }

/- bitext/bitextref28.without -/
def L57_0 : ACode :=
  .loop [11, 12, 13, 7, 14, 15, 16, 17, 18, 19, 20, 21, 22] (.seq (.reg false [] [⟨(some 11), (.bin .lss), [.t 10, .t 9], .none, none, none⟩] []) <|
    .seq (.cond (.t 11) (.skip)
      (.exit 0)) <|
    .seq (.block 1 (.seq (.reg false [7] [
         ⟨(some 12), (.ia 3), [.t 8, .t 10], .none, none, none⟩,
         ⟨(some 13), (.ld true 3), [.t 12], .none, none, none⟩,
         ⟨(some 7), (.alloc [.int .i64 0, .str [], .int .i64 0]), [], (.lo 7), none, none⟩,
         ⟨none, (.st 3), [.t 7, .t 13], (.lo 7), none, none⟩] [12, 13]) <|
      .seq (.reg false [] [
         ⟨(some 14), (.fa 0), [.t 7], .none, none, none⟩,
         ⟨(some 15), (.ld false 1), [.t 14], (.lo 7), none, none⟩,
         ⟨(some 16), .mv, [.t 1], .none, none, none⟩,
         ⟨(some 17), (.bin .neq), [.t 15, .t 16], .none, none, none⟩] [14, 15, 16]) <|
      .cond (.t 17) (.reg false [] [
         ⟨(some 18), .mvo, [.t 5], .none, (some 5), none⟩,
         ⟨(some 19), (.ld true 3), [.t 7], (.lo 7), none, none⟩,
         ⟨(some 20), (.mks 3 [.int .i64 0, .str [], .int .i64 0] 1 [0]), [.t 19], .none, none, none⟩,
         ⟨(some 21), (.app false 3 32), [.t 18, .t 20], .none, (some 18), none⟩,
         ⟨(some 5), .mvo, [.t 21], .none, (some 21), none⟩] [18, 19, 20, 21, 7])
       (.skip))) <|
    .reg false [] [
      ⟨(some 22), (.bin .add), [.t 10, .c (.int .i64 1)], .none, none, none⟩,
      ⟨(some 10), .mv, [.t 22], .none, none, none⟩] [22])
def F57 : AFun :=
  { nargs := 2, keep := false, res := [.tmp 4], body :=
    .seq (.reg false [] [⟨(some 4), .mv, [.c (.sl .full 3 [])], .none, none, none⟩] [4]) <|
    .seq (.reg false [] [⟨(some 5), .mv, [.c (.sl .full 3 [])], .none, none, none⟩] []) <|
    .seq (.seq (.reg false [] [
        ⟨(some 8), .mv, [.t 0], .none, none, none⟩,
        ⟨(some 9), (.len false), [.t 8], .none, none, none⟩,
        ⟨(some 10), .mv, [.c (.int .i64 0)], .none, none, none⟩] [0]) <|
     .block 0 (L57_0)) <|
    .seq (.reg false [] [
       ⟨(some 23), .mv, [.t 5], .none, none, none⟩,
       ⟨(some 4), .mvo, [.t 23], .none, (some 23), none⟩] [23, 5]) <|
    .ret }

theorem ok8 : okFun Try.prog 8 F8 = true := by kernel_rfl
theorem ok9 : okFun Try.prog 9 F9 = true := by kernel_rfl
theorem ok12 : okFun Try.prog 12 F12 = true := by kernel_rfl
theorem ok24 : okFun Try.prog 24 F24 = true := by kernel_rfl
theorem ok25 : okFun Try.prog 25 F25 = true := by kernel_rfl
theorem ok28 : okFun Try.prog 28 F28 = true := by kernel_rfl
theorem ok29 : okFun Try.prog 29 F29 = true := by kernel_rfl
theorem ok30 : okFun Try.prog 30 F30 = true := by kernel_rfl
theorem ok31 : okFun Try.prog 31 F31 = true := by kernel_rfl
theorem ok32 : okFun Try.prog 32 F32 = true := by kernel_rfl
theorem ok33 : okFun Try.prog 33 F33 = true := by kernel_rfl
theorem ok34 : okFun Try.prog 34 F34 = true := by kernel_rfl
theorem ok35 : okFun Try.prog 35 F35 = true := by kernel_rfl
theorem ok36 : okFun Try.prog 36 F36 = true := by kernel_rfl
theorem ok37 : okFun Try.prog 37 F37 = true := by kernel_rfl
theorem ok38 : okFun Try.prog 38 F38 = true := by kernel_rfl
theorem ok39 : okFun Try.prog 39 F39 = true := by kernel_rfl
theorem ok52 : okFun Try.prog 52 F52 = true := by kernel_rfl
theorem ok53 : okFun Try.prog 53 F53 = true := by kernel_rfl
theorem ok55 : okFun Try.prog 55 F55 = true := by kernel_rfl
theorem ok56 : okFun Try.prog 56 F56 = true := by kernel_rfl
theorem ok58 : okFun Try.prog 58 F58 = true := by kernel_rfl
theorem ok59 : okFun Try.prog 59 F59 = true := by kernel_rfl
theorem ok60 : okFun Try.prog 60 F60 = true := by kernel_rfl
theorem ok69 : okFun Try.prog 69 F69 = true := by kernel_rfl
theorem ok70 : okFun Try.prog 70 F70 = true := by kernel_rfl
theorem ok71 : okFun Try.prog 71 F71 = true := by kernel_rfl
theorem ok74 : okFun Try.prog 74 F74 = true := by kernel_rfl
theorem ok81 : okFun Try.prog 81 F81 = true := by kernel_rfl
theorem ok7 : okFun Try.prog 7 F7 = true := by kernel_rfl
theorem ok10 : okFun Try.prog 10 F10 = true := by kernel_rfl
theorem ok11 : okFun Try.prog 11 F11 = true := by kernel_rfl
theorem ok13 : okFun Try.prog 13 F13 = true := by kernel_rfl
theorem ok26 : okFun Try.prog 26 F26 = true := by kernel_rfl
theorem ok27 : okFun Try.prog 27 F27 = true := by kernel_rfl
theorem ok40 : okFun Try.prog 40 F40 = true := by kernel_rfl
theorem ok41 : okFun Try.prog 41 F41 = true := by kernel_rfl
theorem ok57 : okFun Try.prog 57 F57 = true := by kernel_rfl
theorem mix : Try.prog.follows .mixedOrders = true := by kernel_rfl
def T0 : FuncId → Option AFun
  | 8 => some F8
  | 9 => some F9
  | 12 => some F12
  | 24 => some F24
  | 25 => some F25
  | 28 => some F28
  | 29 => some F29
  | 30 => some F30
  | 31 => some F31
  | 32 => some F32
  | 33 => some F33
  | 34 => some F34
  | 35 => some F35
  | 36 => some F36
  | 37 => some F37
  | 38 => some F38
  | 39 => some F39
  | 52 => some F52
  | 53 => some F53
  | 55 => some F55
  | 56 => some F56
  | 58 => some F58
  | 59 => some F59
  | 60 => some F60
  | 69 => some F69
  | 70 => some F70
  | 71 => some F71
  | 74 => some F74
  | 81 => some F81
  | 7 => some F7
  | 10 => some F10
  | 11 => some F11
  | 13 => some F13
  | 26 => some F26
  | 27 => some F27
  | 40 => some F40
  | 41 => some F41
  | 57 => some F57
  | _ => none
theorem T0_ok : ∀ f F, T0 f = some F → okFun Try.prog f F = true := by
  intro f F h
  unfold T0 at h
  split at h
  · cases h; exact ok8
  · cases h; exact ok9
  · cases h; exact ok12
  · cases h; exact ok24
  · cases h; exact ok25
  · cases h; exact ok28
  · cases h; exact ok29
  · cases h; exact ok30
  · cases h; exact ok31
  · cases h; exact ok32
  · cases h; exact ok33
  · cases h; exact ok34
  · cases h; exact ok35
  · cases h; exact ok36
  · cases h; exact ok37
  · cases h; exact ok38
  · cases h; exact ok39
  · cases h; exact ok52
  · cases h; exact ok53
  · cases h; exact ok55
  · cases h; exact ok56
  · cases h; exact ok58
  · cases h; exact ok59
  · cases h; exact ok60
  · cases h; exact ok69
  · cases h; exact ok70
  · cases h; exact ok71
  · cases h; exact ok74
  · cases h; exact ok81
  · cases h; exact ok7
  · cases h; exact ok10
  · cases h; exact ok11
  · cases h; exact ok13
  · cases h; exact ok26
  · cases h; exact ok27
  · cases h; exact ok40
  · cases h; exact ok41
  · cases h; exact ok57
  · cases h
theorem okc54 : okClone Try.prog 54 3 32 [.int .i64 0, .str [], .int .i64 0] = true := by kernel_rfl
theorem oki55 : okInsert Try.prog 55 72 3 32 [.int .i64 0, .str [], .int .i64 0] = true := by kernel_rfl
theorem ov72 : Good Try.prog (ovB 72 3) :=
  ovB_sound (fn := Try.f72) (t := 43) (tr := 4) (e := 45) Try.func72 (by kernel_rfl) (by kernel_rfl) (by kernel_rfl) (by kernel_rfl) Try.underlying43 (by kernel_rfl) (by decide)
def B0 : Calls' := fun f args sh => match f with
  | 54 => cloneB 3 32 args sh
  | 55 => insB 3 32 args sh
  | _ => none
theorem B0_good : Good Try.prog B0 := by
  intro f args sh r sh' h
  unfold B0 at h
  split at h
  · exact .inl (cloneB_sound mix okc54 (by decide) h)
  · exact .inl (insB_sound mix oki55 ov72 (by decide) rfl rfl h)
  · cases h
noncomputable abbrev G0 : Calls' := Gx B0 T0
theorem G0_good : Good Try.prog G0 := Gx_good mix B0_good T0_ok
end Go.Av
