/- The functions' bodies as abstract code, held against the program by the kernel. -/
import Derived.Test.YthbgidickbhojaaProg
import Derived.Test.YthbgidickbhojaaBv21
import Derived.KernelRfl
set_option linter.unusedSimpArgs false
set_option linter.unusedVariables false
namespace Go.Av
open Go.Proofs
/- bitext/bitextlaw21.ConcordPhrases -/
def F3 : AFun :=
  { nargs := 2, keep := false, res := [.tmp 4], body :=
    .seq (.reg false [] [⟨(some 4), .mv, [.c (.bool false)], .none, none, none⟩] [4]) <|
    .seq (.seq (.reg false [] [
        ⟨(some 5), .mv, [.t 0], .none, none, none⟩,
        ⟨(some 6), (.len true), [.t 5], .none, none, none⟩,
        ⟨(some 7), (.bin .gtr), [.t 6, .c (.int .i64 300)], .none, none, none⟩] [5, 6]) <|
     .cond (.t 7) (.seq (.reg false [] [
         ⟨(some 8), (.call 14), [], .none, none, none⟩,
         ⟨(some 4), .mv, [.t 8], .none, none, none⟩] [8]) <|
      .ret)
      (.skip)) <|
    .seq (.reg false [] [
       ⟨(some 9), .mv, [.t 0], .none, none, none⟩,
       ⟨(some 10), (.call 16), [.t 9], .none, none, none⟩,
       ⟨(some 11), .mv, [.t 0], .none, none, none⟩,
       ⟨(some 12), (.call 17), [.t 11], .none, none, none⟩,
       ⟨(some 13), (.call 15), [.t 10, .t 12], .none, none, none⟩,
       ⟨(some 14), .mv, [.t 13], .none, none, none⟩,
       ⟨(some 15), .mv, [.t 1], .none, none, (some (14, true))⟩,
       ⟨(some 16), (.call 18), [.t 15], .none, none, (some (14, true))⟩,
       ⟨(some 17), (.call 16), [.t 16], .none, none, (some (14, true))⟩,
       ⟨(some 18), .mv, [.t 1], .none, none, (some (14, true))⟩,
       ⟨(some 19), (.call 18), [.t 18], .none, none, (some (14, true))⟩,
       ⟨(some 20), (.call 17), [.t 19], .none, none, (some (14, true))⟩,
       ⟨(some 21), (.call 15), [.t 17, .t 20], .none, none, (some (14, true))⟩,
       ⟨(some 22), .pick, [.t 14, .t 21, .c (.bool false)], .none, none, none⟩,
       ⟨(some 23), .mv, [.t 22], .none, none, none⟩,
       ⟨(some 24), (.call 14), [], .none, none, (some (23, true))⟩,
       ⟨(some 25), .pick, [.t 23, .t 24, .c (.bool false)], .none, none, none⟩,
       ⟨(some 4), .mv, [.t 25], .none, none, none⟩] [9, 10, 11, 12, 13, 14, 15, 16, 17, 18, 19, 20, 21, 22, 23, 24, 25, 0, 1]) <|
    .ret }

/- bitext/bitextlaw21.ConcordOccurs -/
def L4_0 : ACode :=
  .loop [16, 17, 10, 18, 19, 20, 21, 22, 23, 24, 25, 26] (.seq (.reg false [] [⟨(some 16), (.bin .lss), [.t 15, .t 14], .none, none, none⟩] []) <|
    .seq (.cond (.t 16) (.skip)
      (.exit 0)) <|
    .seq (.block 1 (.seq (.reg false [] [
         ⟨(some 17), .mv, [.t 15], .none, none, none⟩,
         ⟨(some 10), .mv, [.t 17], .none, none, none⟩] [17]) <|
      .reg false [] [
        ⟨(some 18), .mv, [.t 9], .none, none, none⟩,
        ⟨(some 19), .mv, [.t 0], .none, none, none⟩,
        ⟨(some 20), .mv, [.t 10], .none, none, none⟩,
        ⟨(some 21), (.ia 1), [.t 19, .t 20], .none, none, none⟩,
        ⟨(some 22), (.ld false 1), [.t 21], .none, none, none⟩,
        ⟨(some 23), (.len true), [.t 22], .none, none, none⟩,
        ⟨(some 24), (.bin .add), [.c (.int .i64 1), .t 23], .none, none, none⟩,
        ⟨(some 25), (.bin .add), [.t 18, .t 24], .none, none, none⟩,
        ⟨(some 9), .mv, [.t 25], .none, none, none⟩] [18, 19, 20, 21, 22, 23, 24, 25, 10])) <|
    .reg false [] [
      ⟨(some 26), (.bin .add), [.t 15, .c (.int .i64 1)], .none, none, none⟩,
      ⟨(some 15), .mv, [.t 26], .none, none, none⟩] [26])
def L4_1 : ACode :=
  .loop [30, 31, 11, 32, 33, 34, 35, 36, 37, 38, 39, 40, 41] (.seq (.reg false [] [⟨(some 30), (.bin .lss), [.t 29, .t 28], .none, none, none⟩] []) <|
    .seq (.cond (.t 30) (.skip)
      (.exit 2)) <|
    .seq (.block 3 (.seq (.reg false [] [
         ⟨(some 31), .mv, [.t 29], .none, none, none⟩,
         ⟨(some 11), .mv, [.t 31], .none, none, none⟩] [31]) <|
      .reg false [] [
        ⟨(some 32), .mv, [.t 9], .none, none, none⟩,
        ⟨(some 33), .mv, [.t 1], .none, none, none⟩,
        ⟨(some 34), .mv, [.t 11], .none, none, none⟩,
        ⟨(some 35), (.ia 3), [.t 33, .t 34], .none, none, none⟩,
        ⟨(some 36), (.fa 1), [.t 35], .none, none, none⟩,
        ⟨(some 37), (.ld false 1), [.t 36], .none, none, none⟩,
        ⟨(some 38), (.len true), [.t 37], .none, none, none⟩,
        ⟨(some 39), (.bin .add), [.c (.int .i64 1), .t 38], .none, none, none⟩,
        ⟨(some 40), (.bin .add), [.t 32, .t 39], .none, none, none⟩,
        ⟨(some 9), .mv, [.t 40], .none, none, none⟩] [32, 33, 34, 35, 36, 37, 38, 39, 40, 11])) <|
    .reg false [] [
      ⟨(some 41), (.bin .add), [.t 29, .c (.int .i64 1)], .none, none, none⟩,
      ⟨(some 29), .mv, [.t 41], .none, none, none⟩] [41])
def F4 : AFun :=
  { nargs := 4, keep := false, res := [.tmp 8], body :=
    .seq (.reg false [] [⟨(some 8), .mv, [.c (.bool false)], .none, none, none⟩] [8]) <|
    .seq (.reg false [] [⟨(some 9), .mv, [.c (.int .i64 0)], .none, none, none⟩] []) <|
    .seq (.seq (.reg false [] [
        ⟨(some 13), .mv, [.t 0], .none, none, none⟩,
        ⟨(some 14), (.len false), [.t 13], .none, none, none⟩,
        ⟨(some 15), .mv, [.c (.int .i64 0)], .none, none, none⟩] [13]) <|
     .block 0 (L4_0)) <|
    .seq (.seq (.reg false [] [
        ⟨(some 27), .mv, [.t 1], .none, none, none⟩,
        ⟨(some 28), (.len false), [.t 27], .none, none, none⟩,
        ⟨(some 29), .mv, [.c (.int .i64 0)], .none, none, none⟩] [27]) <|
     .block 2 (L4_1)) <|
    .seq (.seq (.reg false [] [
        ⟨(some 42), .mv, [.t 9], .none, none, none⟩,
        ⟨(some 43), (.bin .gtr), [.t 42, .c (.int .i64 400)], .none, none, none⟩,
        ⟨(some 44), .mv, [.t 43], .none, none, none⟩,
        ⟨(some 45), .mv, [.t 3], .none, none, (some (44, false))⟩,
        ⟨(some 46), (.len false), [.t 45], .none, none, (some (44, false))⟩,
        ⟨(some 47), (.bin .gtr), [.t 46, .c (.int .i64 80)], .none, none, (some (44, false))⟩,
        ⟨(some 48), .pick, [.t 44, .c (.bool true), .t 47], .none, none, none⟩] [42, 43, 44, 45, 46, 47, 9]) <|
     .cond (.t 48) (.seq (.reg false [] [
         ⟨(some 49), (.call 14), [], .none, none, none⟩,
         ⟨(some 8), .mv, [.t 49], .none, none, none⟩] [49]) <|
      .ret)
      (.skip)) <|
    .seq (.reg false [] [
       ⟨(some 50), .mv, [.t 2], .none, none, none⟩,
       ⟨(some 51), (.call 18), [.t 50], .none, none, none⟩,
       ⟨(some 52), (.call 17), [.t 51], .none, none, none⟩,
       ⟨(some 12), .mvo, [.t 52], .none, (some 52), none⟩] [50, 51, 52, 2]) <|
    .seq (.reg false [] [
       ⟨(some 53), .mv, [.t 0], .none, none, none⟩,
       ⟨(some 54), .mv, [.t 1], .none, none, none⟩,
       ⟨(some 55), (.call 20), [.t 53, .t 54], .none, none, none⟩,
       ⟨(some 56), .mv, [.t 0], .none, none, none⟩,
       ⟨(some 57), .mv, [.t 1], .none, none, none⟩,
       ⟨(some 58), (.call 21), [.t 56, .t 57], .none, none, none⟩,
       ⟨(some 59), (.call 19), [.t 55, .t 58], .none, none, none⟩,
       ⟨(some 60), .mv, [.t 59], .none, none, none⟩,
       ⟨(some 61), .mv, [.t 12], .none, none, (some (60, true))⟩,
       ⟨(some 62), .mv, [.t 3], .none, none, (some (60, true))⟩,
       ⟨(some 63), (.call 22), [.t 62], .none, none, (some (60, true))⟩,
       ⟨(some 64), (.call 20), [.t 61, .t 63], .none, none, (some (60, true))⟩,
       ⟨(some 65), .mv, [.t 12], .none, none, (some (60, true))⟩,
       ⟨(some 66), .mv, [.t 3], .none, none, (some (60, true))⟩,
       ⟨(some 67), (.call 22), [.t 66], .none, none, (some (60, true))⟩,
       ⟨(some 68), (.call 21), [.t 65, .t 67], .none, none, (some (60, true))⟩,
       ⟨(some 69), (.call 19), [.t 64, .t 68], .none, none, (some (60, true))⟩,
       ⟨(some 70), .pick, [.t 60, .t 69, .c (.bool false)], .none, none, none⟩,
       ⟨(some 71), .mv, [.t 70], .none, none, none⟩,
       ⟨(some 72), (.call 14), [], .none, none, (some (71, true))⟩,
       ⟨(some 73), .pick, [.t 71, .t 72, .c (.bool false)], .none, none, none⟩,
       ⟨(some 8), .mv, [.t 73], .none, none, none⟩] [53, 54, 55, 56, 57, 58, 59, 60, 61, 62, 63, 64, 65, 66, 67, 68, 69, 70, 71, 72, 73, 0, 1, 12, 3]) <|
    .ret }

/- bitext/bitextlaw21.ConcordParts -/
def L5_0 : ACode :=
  .loop [25, 26, 10, 27, 28, 29, 30, 31, 32, 33, 34, 35, 36, 37, 38, 39, 40, 41, 42, 43, 44, 45, 46, 47, 48, 49, 50, 51, 52, 53] (.seq (.reg false [] [⟨(some 25), (.bin .lss), [.t 24, .t 23], .none, none, none⟩] []) <|
    .seq (.cond (.t 25) (.skip)
      (.exit 0)) <|
    .seq (.block 1 (.seq (.reg false [] [
         ⟨(some 26), .mv, [.t 24], .none, none, none⟩,
         ⟨(some 10), .mv, [.t 26], .none, none, none⟩] [26]) <|
      .seq (.reg false [] [
         ⟨(some 27), .mv, [.t 7], .none, none, none⟩,
         ⟨(some 28), .mv, [.t 10], .none, none, none⟩,
         ⟨(some 29), (.ia 3), [.t 27, .t 28], .none, none, none⟩,
         ⟨(some 30), (.fa 0), [.t 29], .none, none, none⟩,
         ⟨(some 31), (.ld false 1), [.t 30], .none, none, none⟩,
         ⟨(some 32), (.bin .eql), [.t 31, .c (.int .i64 6)], .none, none, none⟩,
         ⟨(some 33), .mv, [.t 32], .none, none, none⟩,
         ⟨(some 34), .mv, [.t 7], .none, none, (some (33, false))⟩,
         ⟨(some 35), .mv, [.t 10], .none, none, (some (33, false))⟩,
         ⟨(some 36), (.ia 3), [.t 34, .t 35], .none, none, (some (33, false))⟩,
         ⟨(some 37), (.fa 0), [.t 36], .none, none, (some (33, false))⟩,
         ⟨(some 38), (.ld false 1), [.t 37], .none, none, (some (33, false))⟩,
         ⟨(some 39), (.bin .eql), [.t 38, .c (.int .i64 7)], .none, none, (some (33, false))⟩,
         ⟨(some 40), .pick, [.t 33, .c (.bool true), .t 39], .none, none, none⟩] [27, 28, 29, 30, 31, 32, 33, 34, 35, 36, 37, 38, 39]) <|
      .cond (.t 40) (.reg true [] [
         ⟨(some 41), .mvo, [.t 8], .none, (some 8), none⟩,
         ⟨(some 42), .mv, [.t 10], .none, none, none⟩,
         ⟨(some 43), (.mks 1 [.int .i64 0] 1 [0]), [.t 42], .none, none, none⟩,
         ⟨(some 44), (.app false 1 8), [.t 41, .t 43], .none, (some 41), none⟩,
         ⟨(some 45), .mvo, [.t 9], .none, (some 9), none⟩,
         ⟨(some 46), .mv, [.t 7], .none, none, none⟩,
         ⟨(some 47), .mv, [.t 10], .none, none, none⟩,
         ⟨(some 48), (.ia 3), [.t 46, .t 47], .none, none, none⟩,
         ⟨(some 49), (.ld true 3), [.t 48], .none, none, none⟩,
         ⟨(some 50), (.call 23), [.t 49], .none, none, none⟩,
         ⟨(some 51), (.mks 1 [.str []] 1 [0]), [.t 50], .none, none, none⟩,
         ⟨(some 52), (.app false 1 16), [.t 45, .t 51], .none, (some 45), none⟩,
         ⟨(some 8), .mvo, [.t 44], .none, (some 44), none⟩,
         ⟨(some 9), .mvo, [.t 52], .none, (some 52), none⟩] [41, 42, 43, 44, 45, 46, 47, 48, 49, 50, 51, 52, 10])
       (.skip))) <|
    .reg false [] [
      ⟨(some 53), (.bin .add), [.t 24, .c (.int .i64 1)], .none, none, none⟩,
      ⟨(some 24), .mv, [.t 53], .none, none, none⟩] [53])
def L5_1 : ACode :=
  .loop [97, 98, 99, 15, 100, 101, 102, 103, 6, 104] (.seq (.reg false [] [⟨(some 97), (.bin .lss), [.t 96, .t 95], .none, none, none⟩] []) <|
    .seq (.cond (.t 97) (.skip)
      (.exit 2)) <|
    .seq (.block 3 (.seq (.reg false [15] [
         ⟨(some 98), (.ia 2), [.t 94, .t 96], .none, none, none⟩,
         ⟨(some 99), (.ld true 2), [.t 98], .none, none, none⟩,
         ⟨(some 15), (.alloc [.int .i64 0, .int .i64 0]), [], (.lo 15), none, none⟩,
         ⟨none, (.st 2), [.t 15, .t 99], (.lo 15), none, none⟩] [98, 99]) <|
      .seq (.reg false [] [
         ⟨(some 100), (.ld true 2), [.t 15], (.lo 15), none, none⟩,
         ⟨(some 101), (.ld true 2), [.t 13], (.lo 13), none, none⟩,
         ⟨(some 102), (.seq false [0, 0]), [.t 100, .t 101], .none, none, none⟩] [100, 101, 15]) <|
      .cond (.t 102) (.seq (.reg false [] [
          ⟨(some 103), (.call 14), [], .none, none, none⟩,
          ⟨(some 6), .mv, [.t 103], .none, none, none⟩] [103]) <|
       .ret)
       (.skip))) <|
    .reg false [] [
      ⟨(some 104), (.bin .add), [.t 96, .c (.int .i64 1)], .none, none, none⟩,
      ⟨(some 96), .mv, [.t 104], .none, none, none⟩] [104])
def F5 : AFun :=
  { nargs := 3, keep := false, res := [.tmp 6], body :=
    .seq (.reg false [] [⟨(some 6), .mv, [.c (.bool false)], .none, none, none⟩] [6]) <|
    .seq (.seq (.reg false [] [
        ⟨(some 16), .mv, [.t 0], .none, none, none⟩,
        ⟨(some 17), (.len false), [.t 16], .none, none, none⟩,
        ⟨(some 18), (.bin .gtr), [.t 17, .c (.int .i64 80)], .none, none, none⟩] [16, 17]) <|
     .cond (.t 18) (.seq (.reg false [] [
         ⟨(some 19), (.call 14), [], .none, none, none⟩,
         ⟨(some 6), .mv, [.t 19], .none, none, none⟩] [19]) <|
      .ret)
      (.skip)) <|
    .seq (.reg false [] [
       ⟨(some 20), .mv, [.t 0], .none, none, none⟩,
       ⟨(some 21), (.call 22), [.t 20], .none, none, none⟩,
       ⟨(some 7), .mvo, [.t 21], .none, (some 21), none⟩] [20, 21, 0]) <|
    .seq (.reg false [] [⟨(some 8), .mv, [.c (.sl .full 1 [])], .none, none, none⟩] []) <|
    .seq (.reg false [] [⟨(some 9), .mv, [.c (.sl .full 1 [])], .none, none, none⟩] []) <|
    .seq (.seq (.reg false [] [
        ⟨(some 22), .mv, [.t 7], .none, none, none⟩,
        ⟨(some 23), (.len false), [.t 22], .none, none, none⟩,
        ⟨(some 24), .mv, [.c (.int .i64 0)], .none, none, none⟩] [22]) <|
     .block 0 (L5_0)) <|
    .seq (.seq (.reg false [] [
        ⟨(some 54), .mv, [.t 8], .none, none, none⟩,
        ⟨(some 55), (.len false), [.t 54], .none, none, none⟩,
        ⟨(some 56), (.bin .eql), [.t 55, .c (.int .i64 0)], .none, none, none⟩] [54, 55]) <|
     .cond (.t 56) (.seq (.reg false [] [
         ⟨(some 57), (.mks 1 [.str []] 1 [0]), [.c (.str [97])], .none, none, none⟩,
         ⟨(some 58), .mv, [.t 7], .none, none, none⟩,
         ⟨(some 59), (.call 20), [.t 57, .t 58], .none, none, none⟩,
         ⟨(some 60), (.len false), [.t 59], .none, none, none⟩,
         ⟨(some 61), (.bin .eql), [.t 60, .c (.int .i64 0)], .none, none, none⟩,
         ⟨(some 62), .mv, [.t 61], .none, none, none⟩,
         ⟨(some 63), (.call 14), [], .none, none, (some (62, true))⟩,
         ⟨(some 64), .pick, [.t 62, .t 63, .c (.bool false)], .none, none, none⟩,
         ⟨(some 6), .mv, [.t 64], .none, none, none⟩] [57, 58, 59, 60, 61, 62, 63, 64, 7]) <|
      .ret)
      (.skip)) <|
    .seq (.reg false [] [
       ⟨(some 65), .mv, [.t 1], .none, none, none⟩,
       ⟨(some 66), .mv, [.t 8], .none, none, none⟩,
       ⟨(some 67), (.len false), [.t 66], .none, none, none⟩,
       ⟨(some 68), (.call 24), [.t 65, .t 67], .none, none, none⟩,
       ⟨(some 11), .mv, [.t 68], .none, none, none⟩] [65, 66, 67, 68, 1]) <|
    .seq (.reg false [] [
       ⟨(some 69), .mv, [.t 11], .none, none, none⟩,
       ⟨(some 70), (.bin .add), [.t 69, .c (.int .i64 1)], .none, none, none⟩,
       ⟨(some 71), .mv, [.t 2], .none, none, none⟩,
       ⟨(some 72), .mv, [.t 8], .none, none, none⟩,
       ⟨(some 73), (.len false), [.t 72], .none, none, none⟩,
       ⟨(some 74), .mv, [.t 11], .none, none, none⟩,
       ⟨(some 75), (.bin .sub), [.t 73, .t 74], .none, none, none⟩,
       ⟨(some 76), (.call 24), [.t 71, .t 75], .none, none, none⟩,
       ⟨(some 77), (.bin .add), [.t 70, .t 76], .none, none, none⟩,
       ⟨(some 12), .mv, [.t 77], .none, none, none⟩] [69, 70, 71, 72, 73, 74, 75, 76, 77, 2]) <|
    .seq (.reg true [13] [
       ⟨(some 78), .mv, [.t 8], .none, none, none⟩,
       ⟨(some 79), .mv, [.t 11], .none, none, none⟩,
       ⟨(some 80), (.ia 1), [.t 78, .t 79], .none, none, none⟩,
       ⟨(some 81), (.ld false 1), [.t 80], .none, none, none⟩,
       ⟨(some 82), .mv, [.t 8], .none, none, none⟩,
       ⟨(some 83), .mv, [.t 12], .none, none, none⟩,
       ⟨(some 84), (.bin .sub), [.t 83, .c (.int .i64 1)], .none, none, none⟩,
       ⟨(some 85), (.ia 1), [.t 82, .t 84], .none, none, none⟩,
       ⟨(some 86), (.ld false 1), [.t 85], .none, none, none⟩,
       ⟨(some 87), (.bin .add), [.t 86, .c (.int .i64 1)], .none, none, none⟩,
       ⟨(some 88), (.build [.int .i64 0, .int .i64 0] [(0, 1), (1, 1)]), [.t 81, .t 87], .none, none, none⟩,
       ⟨(some 13), (.alloc [.int .i64 0, .int .i64 0]), [], (.lo 13), none, none⟩,
       ⟨none, (.st 2), [.t 13, .t 88], (.lo 13), none, none⟩] [78, 79, 80, 81, 82, 83, 84, 85, 86, 87, 88, 8]) <|
    .seq (.seq (.reg false [] [
        ⟨(some 89), .mv, [.t 9], .none, none, none⟩,
        ⟨(some 90), .mv, [.t 11], .none, none, none⟩,
        ⟨(some 91), .mv, [.t 12], .none, none, none⟩,
        ⟨(some 92), (.slc false 1 true true), [.t 89, .t 90, .t 91], .none, none, none⟩,
        ⟨(some 93), .mv, [.t 7], .none, none, none⟩,
        ⟨(some 94), (.call 20), [.t 92, .t 93], .none, none, none⟩,
        ⟨(some 95), (.len false), [.t 94], .none, none, none⟩,
        ⟨(some 96), .mv, [.c (.int .i64 0)], .none, none, none⟩] [89, 90, 91, 92, 93, 9, 11, 12, 7]) <|
     .block 2 (L5_1)) <|
    .seq (.reg false [] [⟨(some 6), .mv, [.c (.bool false)], .none, none, none⟩] []) <|
    .ret }

/- bitext/bitextlaw21.ConcordNarrows -/
def L6_0 : ACode :=
  .loop [60, 61, 62, 15, 63, 64, 65, 66, 67, 68, 69, 70, 71, 72, 73, 74, 75, 76, 77, 78] (.seq (.reg false [] [⟨(some 60), (.bin .lss), [.t 59, .t 58], .none, none, none⟩] []) <|
    .seq (.cond (.t 60) (.skip)
      (.exit 2)) <|
    .seq (.block 3 (.seq (.reg false [15] [
         ⟨(some 61), (.ia 2), [.t 57, .t 59], .none, none, none⟩,
         ⟨(some 62), (.ld true 2), [.t 61], .none, none, none⟩,
         ⟨(some 15), (.alloc [.int .i64 0, .int .i64 0]), [], (.lo 15), none, none⟩,
         ⟨none, (.st 2), [.t 15, .t 62], (.lo 15), none, none⟩] [61, 62]) <|
      .reg false [] [
        ⟨(some 63), .mv, [.t 13], .none, none, none⟩,
        ⟨(some 64), .mv, [.t 63], .none, none, none⟩,
        ⟨(some 65), (.fa 0), [.t 15], .none, none, (some (64, false))⟩,
        ⟨(some 66), (.ld false 1), [.t 65], (.lo 15), none, (some (64, false))⟩,
        ⟨(some 67), (.fa 0), [.t 12], .none, none, (some (64, false))⟩,
        ⟨(some 68), (.ld false 1), [.t 67], (.lo 12), none, (some (64, false))⟩,
        ⟨(some 69), (.bin .eql), [.t 66, .t 68], .none, none, (some (64, false))⟩,
        ⟨(some 70), .mv, [.t 69], .none, none, (some (64, false))⟩,
        ⟨(some 71), (.fa 1), [.t 15], .none, none, (some (70, true))⟩,
        ⟨(some 72), (.ld false 1), [.t 71], (.lo 15), none, (some (70, true))⟩,
        ⟨(some 73), (.fa 1), [.t 12], .none, none, (some (70, true))⟩,
        ⟨(some 74), (.ld false 1), [.t 73], (.lo 12), none, (some (70, true))⟩,
        ⟨(some 75), (.bin .lss), [.t 72, .t 74], .none, none, (some (70, true))⟩,
        ⟨(some 76), .pick, [.t 70, .t 75, .c (.bool false)], .none, none, (some (64, false))⟩,
        ⟨(some 77), .pick, [.t 64, .c (.bool true), .t 76], .none, none, none⟩,
        ⟨(some 13), .mv, [.t 77], .none, none, none⟩] [63, 64, 65, 66, 67, 68, 69, 70, 71, 72, 73, 74, 75, 76, 77, 15])) <|
    .reg false [] [
      ⟨(some 78), (.bin .add), [.t 59, .c (.int .i64 1)], .none, none, none⟩,
      ⟨(some 59), .mv, [.t 78], .none, none, none⟩] [78])
def L6_1 : ACode :=
  .loop [54, 55, 56, 12, 13, 57, 58, 59, 60, 61, 62, 15, 63, 64, 65, 66, 67, 68, 69, 70, 71, 72, 73, 74, 75, 76, 77, 78, 79, 80, 6, 81] (.seq (.reg false [] [⟨(some 54), (.bin .lss), [.t 53, .t 52], .none, none, none⟩] []) <|
    .seq (.cond (.t 54) (.skip)
      (.exit 0)) <|
    .seq (.block 1 (.seq (.reg false [12] [
         ⟨(some 55), (.ia 2), [.t 51, .t 53], .none, none, none⟩,
         ⟨(some 56), (.ld true 2), [.t 55], .none, none, none⟩,
         ⟨(some 12), (.alloc [.int .i64 0, .int .i64 0]), [], (.lo 12), none, none⟩,
         ⟨none, (.st 2), [.t 12, .t 56], (.lo 12), none, none⟩] [55, 56]) <|
      .seq (.reg false [] [⟨(some 13), .mv, [.c (.bool false)], .none, none, none⟩] []) <|
      .seq (.seq (.reg false [] [
          ⟨(some 57), .mv, [.t 9], .none, none, none⟩,
          ⟨(some 58), (.len false), [.t 57], .none, none, none⟩,
          ⟨(some 59), .mv, [.c (.int .i64 0)], .none, none, none⟩] []) <|
       .block 2 (L6_0)) <|
      .seq (.reg false [] [
         ⟨(some 79), .mv, [.t 13], .none, none, none⟩,
         ⟨(some 80), (.un .not), [.t 79], .none, none, none⟩] [79, 13]) <|
      .cond (.t 80) (.seq (.reg false [] [⟨(some 6), .mv, [.c (.bool false)], .none, none, none⟩] []) <|
       .ret)
       (.skip))) <|
    .reg false [] [
      ⟨(some 81), (.bin .add), [.t 53, .c (.int .i64 1)], .none, none, none⟩,
      ⟨(some 53), .mv, [.t 81], .none, none, none⟩] [81])
def F6 : AFun :=
  { nargs := 3, keep := false, res := [.tmp 6], body :=
    .seq (.reg false [] [⟨(some 6), .mv, [.c (.bool false)], .none, none, none⟩] [6]) <|
    .seq (.seq (.reg false [] [
        ⟨(some 16), .mv, [.t 0], .none, none, none⟩,
        ⟨(some 17), (.len false), [.t 16], .none, none, none⟩,
        ⟨(some 18), (.bin .gtr), [.t 17, .c (.int .i64 80)], .none, none, none⟩,
        ⟨(some 19), .mv, [.t 18], .none, none, none⟩,
        ⟨(some 20), .mv, [.t 2], .none, none, (some (19, false))⟩,
        ⟨(some 21), (.len true), [.t 20], .none, none, (some (19, false))⟩,
        ⟨(some 22), (.bin .gtr), [.t 21, .c (.int .i64 40)], .none, none, (some (19, false))⟩,
        ⟨(some 23), .pick, [.t 19, .c (.bool true), .t 22], .none, none, none⟩] [16, 17, 18, 19, 20, 21, 22]) <|
     .cond (.t 23) (.seq (.reg false [] [
         ⟨(some 24), (.call 14), [], .none, none, none⟩,
         ⟨(some 6), .mv, [.t 24], .none, none, none⟩] [24]) <|
      .ret)
      (.skip)) <|
    .seq (.reg false [] [
       ⟨(some 25), .mv, [.t 0], .none, none, none⟩,
       ⟨(some 26), (.call 22), [.t 25], .none, none, none⟩,
       ⟨(some 7), .mvo, [.t 26], .none, (some 26), none⟩] [25, 26, 0]) <|
    .seq (.reg false [] [
       ⟨(some 27), .mv, [.t 1], .none, none, none⟩,
       ⟨(some 28), (.call 18), [.t 27], .none, none, none⟩,
       ⟨(some 29), (.call 17), [.t 28], .none, none, none⟩,
       ⟨(some 8), .mvo, [.t 29], .none, (some 29), none⟩] [27, 28, 29, 1]) <|
    .seq (.seq (.reg false [] [
        ⟨(some 30), .mv, [.t 8], .none, none, none⟩,
        ⟨(some 31), (.len false), [.t 30], .none, none, none⟩,
        ⟨(some 32), (.bin .eql), [.t 31, .c (.int .i64 0)], .none, none, none⟩] [30, 31]) <|
     .cond (.t 32) (.seq (.reg false [] [
         ⟨(some 33), .mv, [.t 8], .none, none, none⟩,
         ⟨(some 34), .mv, [.t 7], .none, none, none⟩,
         ⟨(some 35), (.call 20), [.t 33, .t 34], .none, none, none⟩,
         ⟨(some 36), (.len false), [.t 35], .none, none, none⟩,
         ⟨(some 37), (.bin .eql), [.t 36, .c (.int .i64 0)], .none, none, none⟩,
         ⟨(some 38), .mv, [.t 37], .none, none, none⟩,
         ⟨(some 39), (.call 14), [], .none, none, (some (38, true))⟩,
         ⟨(some 40), .pick, [.t 38, .t 39, .c (.bool false)], .none, none, none⟩,
         ⟨(some 6), .mv, [.t 40], .none, none, none⟩] [33, 34, 35, 36, 37, 38, 39, 40, 8, 7]) <|
      .ret)
      (.skip)) <|
    .seq (.reg false [] [
       ⟨(some 41), .mv, [.t 8], .none, none, none⟩,
       ⟨(some 42), .mv, [.t 7], .none, none, none⟩,
       ⟨(some 43), (.call 20), [.t 41, .t 42], .none, none, none⟩,
       ⟨(some 9), .mvo, [.t 43], .none, (some 43), none⟩] [41, 42, 43]) <|
    .seq (.reg false [] [
       ⟨(some 44), .mv, [.t 8], .none, none, none⟩,
       ⟨(some 45), (.app false 1 16), [.c (.sl .full 1 []), .t 44], .none, none, none⟩,
       ⟨(some 46), .mv, [.t 2], .none, none, none⟩,
       ⟨(some 47), (.mks 1 [.str []] 1 [0]), [.t 46], .none, none, none⟩,
       ⟨(some 48), (.app false 1 16), [.t 45, .t 47], .none, (some 45), none⟩,
       ⟨(some 49), .mv, [.t 7], .none, none, none⟩,
       ⟨(some 50), (.call 20), [.t 48, .t 49], .none, none, none⟩,
       ⟨(some 10), .mvo, [.t 50], .none, (some 50), none⟩] [44, 45, 46, 47, 48, 49, 50, 8, 2, 7]) <|
    .seq (.seq (.reg false [] [
        ⟨(some 51), .mv, [.t 10], .none, none, none⟩,
        ⟨(some 52), (.len false), [.t 51], .none, none, none⟩,
        ⟨(some 53), .mv, [.c (.int .i64 0)], .none, none, none⟩] []) <|
     .block 0 (L6_1)) <|
    .seq (.reg false [] [
       ⟨(some 82), .mv, [.t 10], .none, none, none⟩,
       ⟨(some 83), (.len false), [.t 82], .none, none, none⟩,
       ⟨(some 84), .mv, [.t 9], .none, none, none⟩,
       ⟨(some 85), (.len false), [.t 84], .none, none, none⟩,
       ⟨(some 86), (.bin .leq), [.t 83, .t 85], .none, none, none⟩,
       ⟨(some 87), .mv, [.t 86], .none, none, none⟩,
       ⟨(some 88), (.call 14), [], .none, none, (some (87, true))⟩,
       ⟨(some 89), .pick, [.t 87, .t 88, .c (.bool false)], .none, none, none⟩,
       ⟨(some 6), .mv, [.t 89], .none, none, none⟩] [82, 83, 84, 85, 86, 87, 88, 89, 10, 9]) <|
    .ret }

/- bitext/bitextlaw21.known -/
def F14 : AFun :=
  { nargs := 0, keep := false, res := [.tmp 0], body :=
    .seq (.reg false [] [⟨(some 0), .mv, [.c (.bool false)], .none, none, none⟩] [0]) <|
    .seq (.reg false [] [
       ⟨(some 2), (.build [.int .i64 0, .str [], .int .i64 0] [(0, 1), (1, 1)]), [.c (.int .i64 1), .c (.str [97, 32, 97, 32, 32, 97])], .none, none, none⟩,
       ⟨(some 3), (.mks 3 [.int .i64 0, .str [], .int .i64 0] 1 [0]), [.t 2], .none, none, none⟩,
       ⟨(some 4), (.call 42), [.t 3], .none, none, none⟩,
       ⟨(some 1), .mvo, [.t 4], .none, (some 4), none⟩] [2, 3, 4]) <|
    .seq (.reg false [] [
       ⟨(some 5), (.call 16), [.c (.str [82, 69, 68, 44, 32, 99, 97, 114])], .none, none, none⟩,
       ⟨(some 6), (.mks 1 [.str []] 2 [0, 1]), [.c (.str [114, 101, 100]), .c (.str [99, 97, 114])], .none, none, none⟩,
       ⟨(some 7), (.call 15), [.t 5, .t 6], .none, none, none⟩,
       ⟨(some 8), .mv, [.t 7], .none, none, none⟩,
       ⟨(some 9), (.mks 1 [.str []] 2 [0, 1]), [.c (.str [97]), .c (.str [97])], .none, none, (some (8, true))⟩,
       ⟨(some 10), .mv, [.t 1], .none, none, (some (8, true))⟩,
       ⟨(some 11), (.call 20), [.t 9, .t 10], .none, none, (some (8, true))⟩,
       ⟨(some 12), (.build [.int .i64 0, .int .i64 0] [(0, 1), (1, 1)]), [.c (.int .i64 0), .c (.int .i64 3)], .none, none, (some (8, true))⟩,
       ⟨(some 13), (.build [.int .i64 0, .int .i64 0] [(0, 1), (1, 1)]), [.c (.int .i64 2), .c (.int .i64 5)], .none, none, (some (8, true))⟩,
       ⟨(some 14), (.mks 2 [.int .i64 0, .int .i64 0] 2 [0, 1]), [.t 12, .t 13], .none, none, (some (8, true))⟩,
       ⟨(some 15), (.call 19), [.t 11, .t 14], .none, none, (some (8, true))⟩,
       ⟨(some 16), .pick, [.t 8, .t 15, .c (.bool false)], .none, none, none⟩,
       ⟨(some 0), .mv, [.t 16], .none, none, none⟩] [5, 6, 7, 8, 9, 10, 11, 12, 13, 14, 15, 16, 1]) <|
    .ret }

/- bitext/bitextref3.SameTexts -/
def L15_0 : ACode :=
  .loop [14, 15, 5, 16, 17, 18, 19, 20, 21, 22, 23, 24, 4, 25] (.seq (.reg false [] [⟨(some 14), (.bin .lss), [.t 13, .t 12], .none, none, none⟩] []) <|
    .seq (.cond (.t 14) (.skip)
      (.exit 0)) <|
    .seq (.block 1 (.seq (.reg false [] [
         ⟨(some 15), .mv, [.t 13], .none, none, none⟩,
         ⟨(some 5), .mv, [.t 15], .none, none, none⟩] [15]) <|
      .seq (.reg true [] [
         ⟨(some 16), .mv, [.t 0], .none, none, none⟩,
         ⟨(some 17), .mv, [.t 5], .none, none, none⟩,
         ⟨(some 18), (.ia 1), [.t 16, .t 17], .none, none, none⟩,
         ⟨(some 19), (.ld false 1), [.t 18], .none, none, none⟩,
         ⟨(some 20), .mv, [.t 1], .none, none, none⟩,
         ⟨(some 21), .mv, [.t 5], .none, none, none⟩,
         ⟨(some 22), (.ia 1), [.t 20, .t 21], .none, none, none⟩,
         ⟨(some 23), (.ld false 1), [.t 22], .none, none, none⟩,
         ⟨(some 24), (.bin .neq), [.t 19, .t 23], .none, none, none⟩] [16, 17, 18, 19, 20, 21, 22, 23, 5]) <|
      .cond (.t 24) (.seq (.reg false [] [⟨(some 4), .mv, [.c (.bool false)], .none, none, none⟩] []) <|
       .ret)
       (.skip))) <|
    .reg false [] [
      ⟨(some 25), (.bin .add), [.t 13, .c (.int .i64 1)], .none, none, none⟩,
      ⟨(some 13), .mv, [.t 25], .none, none, none⟩] [25])
def F15 : AFun :=
  { nargs := 2, keep := false, res := [.tmp 4], body :=
    .seq (.reg false [] [⟨(some 4), .mv, [.c (.bool false)], .none, none, none⟩] [4]) <|
    .seq (.seq (.reg false [] [
        ⟨(some 6), .mv, [.t 0], .none, none, none⟩,
        ⟨(some 7), (.len false), [.t 6], .none, none, none⟩,
        ⟨(some 8), .mv, [.t 1], .none, none, none⟩,
        ⟨(some 9), (.len false), [.t 8], .none, none, none⟩,
        ⟨(some 10), (.bin .neq), [.t 7, .t 9], .none, none, none⟩] [6, 7, 8, 9]) <|
     .cond (.t 10) (.seq (.reg false [] [⟨(some 4), .mv, [.c (.bool false)], .none, none, none⟩] []) <|
      .ret)
      (.skip)) <|
    .seq (.seq (.reg false [] [
        ⟨(some 11), .mv, [.t 0], .none, none, none⟩,
        ⟨(some 12), (.len false), [.t 11], .none, none, none⟩,
        ⟨(some 13), .mv, [.c (.int .i64 0)], .none, none, none⟩] [11]) <|
     .block 0 (L15_0)) <|
    .seq (.reg false [] [⟨(some 4), .mv, [.c (.bool true)], .none, none, none⟩] []) <|
    .ret }

/- bitext/concord.Phrase -/
def L16_0 : ACode :=
  .loop [14, 15, 16, 5, 17, 18, 19, 20, 21, 22, 23, 24] (.seq (.reg false [] [⟨(some 14), (.bin .lss), [.t 13, .t 12], .none, none, none⟩] []) <|
    .seq (.cond (.t 14) (.skip)
      (.exit 0)) <|
    .seq (.block 1 (.seq (.reg false [5] [
         ⟨(some 15), (.ia 3), [.t 11, .t 13], .none, none, none⟩,
         ⟨(some 16), (.ld true 3), [.t 15], .none, none, none⟩,
         ⟨(some 5), (.alloc [.int .i64 0, .str [], .int .i64 0]), [], (.lo 5), none, none⟩,
         ⟨none, (.st 3), [.t 5, .t 16], (.lo 5), none, none⟩] [15, 16]) <|
      .seq (.reg false [] [
         ⟨(some 17), (.ld true 3), [.t 5], (.lo 5), none, none⟩,
         ⟨(some 18), (.call 44), [.t 17], .none, none, none⟩] [17]) <|
      .cond (.t 18) (.reg false [] [
         ⟨(some 19), .mvo, [.t 3], .none, (some 3), none⟩,
         ⟨(some 20), (.ld true 3), [.t 5], (.lo 5), none, none⟩,
         ⟨(some 21), (.call 45), [.t 20], .none, none, none⟩,
         ⟨(some 22), (.mks 1 [.str []] 1 [0]), [.t 21], .none, none, none⟩,
         ⟨(some 23), (.app false 1 16), [.t 19, .t 22], .none, (some 19), none⟩,
         ⟨(some 3), .mvo, [.t 23], .none, (some 23), none⟩] [19, 20, 21, 22, 23, 5])
       (.skip))) <|
    .reg false [] [
      ⟨(some 24), (.bin .add), [.t 13, .c (.int .i64 1)], .none, none, none⟩,
      ⟨(some 13), .mv, [.t 24], .none, none, none⟩] [24])
def F16 : AFun :=
  { nargs := 1, keep := false, res := [.tmp 2], body :=
    .seq (.reg false [] [⟨(some 2), .mv, [.c (.sl .full 1 [])], .none, none, none⟩] [2]) <|
    .seq (.seq (.reg false [] [
        ⟨(some 6), .mv, [.t 0], .none, none, none⟩,
        ⟨(some 7), (.bin .eql), [.t 6, .c (.str [])], .none, none, none⟩] [6]) <|
     .cond (.t 7) (.seq (.reg false [] [⟨(some 2), .mv, [.c (.sl .full 1 [])], .none, none, none⟩] []) <|
      .ret)
      (.skip)) <|
    .seq (.reg false [] [⟨(some 3), .mv, [.c (.sl .full 1 [])], .none, none, none⟩] []) <|
    .seq (.seq (.reg false [] [
        ⟨(some 8), .mv, [.t 0], .none, none, none⟩,
        ⟨(some 9), (.build [.int .i64 0, .str [], .int .i64 0] [(0, 1), (1, 1)]), [.c (.int .i64 1), .t 8], .none, none, none⟩,
        ⟨(some 10), (.mks 3 [.int .i64 0, .str [], .int .i64 0] 1 [0]), [.t 9], .none, none, none⟩,
        ⟨(some 11), (.call 43), [.t 10], .none, none, none⟩,
        ⟨(some 12), (.len false), [.t 11], .none, none, none⟩,
        ⟨(some 13), .mv, [.c (.int .i64 0)], .none, none, none⟩] [8, 9, 10, 0]) <|
     .block 0 (L16_0)) <|
    .seq (.reg false [] [
       ⟨(some 25), .mv, [.t 3], .none, none, none⟩,
       ⟨(some 2), .mvo, [.t 25], .none, (some 25), none⟩] [25, 3]) <|
    .ret }

/- bitext/bitextref20.Phrase -/
def L17_0 : ACode :=
  .loop [10, 11, 12, 5, 13, 14, 15, 16, 17, 18, 19, 20] (.seq (.reg false [] [⟨(some 10), (.bin .lss), [.t 9, .t 8], .none, none, none⟩] []) <|
    .seq (.cond (.t 10) (.skip)
      (.exit 0)) <|
    .seq (.block 1 (.seq (.reg false [5] [
         ⟨(some 11), (.ia 3), [.t 7, .t 9], .none, none, none⟩,
         ⟨(some 12), (.ld true 3), [.t 11], .none, none, none⟩,
         ⟨(some 5), (.alloc [.int .i64 0, .str [], .int .i64 0]), [], (.lo 5), none, none⟩,
         ⟨none, (.st 3), [.t 5, .t 12], (.lo 5), none, none⟩] [11, 12]) <|
      .seq (.reg false [] [
         ⟨(some 13), (.ld true 3), [.t 5], (.lo 5), none, none⟩,
         ⟨(some 14), (.call 47), [.t 13], .none, none, none⟩] [13]) <|
      .cond (.t 14) (.reg false [] [
         ⟨(some 15), .mvo, [.t 3], .none, (some 3), none⟩,
         ⟨(some 16), (.ld true 3), [.t 5], (.lo 5), none, none⟩,
         ⟨(some 17), (.call 23), [.t 16], .none, none, none⟩,
         ⟨(some 18), (.mks 1 [.str []] 1 [0]), [.t 17], .none, none, none⟩,
         ⟨(some 19), (.app false 1 16), [.t 15, .t 18], .none, (some 15), none⟩,
         ⟨(some 3), .mvo, [.t 19], .none, (some 19), none⟩] [15, 16, 17, 18, 19, 5])
       (.skip))) <|
    .reg false [] [
      ⟨(some 20), (.bin .add), [.t 9, .c (.int .i64 1)], .none, none, none⟩,
      ⟨(some 9), .mv, [.t 20], .none, none, none⟩] [20])
def F17 : AFun :=
  { nargs := 1, keep := false, res := [.tmp 2], body :=
    .seq (.reg false [] [⟨(some 2), .mv, [.c (.sl .full 1 [])], .none, none, none⟩] [2]) <|
    .seq (.reg false [] [⟨(some 3), .mv, [.c (.sl .full 1 [])], .none, none, none⟩] []) <|
    .seq (.seq (.reg false [] [
        ⟨(some 6), .mv, [.t 0], .none, none, none⟩,
        ⟨(some 7), (.call 46), [.t 6], .none, none, none⟩,
        ⟨(some 8), (.len false), [.t 7], .none, none, none⟩,
        ⟨(some 9), .mv, [.c (.int .i64 0)], .none, none, none⟩] [6, 0]) <|
     .block 0 (L17_0)) <|
    .seq (.reg false [] [
       ⟨(some 21), .mv, [.t 3], .none, none, none⟩,
       ⟨(some 2), .mvo, [.t 21], .none, (some 21), none⟩] [21, 3]) <|
    .ret }

/- bitext/bitextlaw21.phrase -/
def F18 : AFun :=
  { nargs := 1, keep := false, res := [.tmp 2], body :=
    .seq (.reg false [] [⟨(some 2), .mv, [.c (.str [])], .none, none, none⟩] [2]) <|
    .seq (.reg false [] [
       ⟨(some 3), .mv, [.t 0], .none, none, none⟩,
       ⟨(some 4), (.build [.sl .full 1 [], .int .i64 0] [(0, 1)]), [.t 3], .none, none, none⟩,
       ⟨(some 5), (.boxS 2), [.t 4], .sh, none, none⟩,
       ⟨(some 6), (.call 48), [.t 5, .c (.int .i64 3)], .sh, none, none⟩,
       ⟨(some 2), .mv, [.t 6], .none, none, none⟩] [3, 4, 5, 6, 0]) <|
    .ret }

/- bitext/bitextref5.SameRanges -/
def L19_0 : ACode :=
  .loop [14, 15, 5, 16, 17, 18, 19, 20, 21, 22, 23, 24, 4, 25] (.seq (.reg false [] [⟨(some 14), (.bin .lss), [.t 13, .t 12], .none, none, none⟩] []) <|
    .seq (.cond (.t 14) (.skip)
      (.exit 0)) <|
    .seq (.block 1 (.seq (.reg false [] [
         ⟨(some 15), .mv, [.t 13], .none, none, none⟩,
         ⟨(some 5), .mv, [.t 15], .none, none, none⟩] [15]) <|
      .seq (.reg true [] [
         ⟨(some 16), .mv, [.t 0], .none, none, none⟩,
         ⟨(some 17), .mv, [.t 5], .none, none, none⟩,
         ⟨(some 18), (.ia 2), [.t 16, .t 17], .none, none, none⟩,
         ⟨(some 19), (.ld true 2), [.t 18], .none, none, none⟩,
         ⟨(some 20), .mv, [.t 1], .none, none, none⟩,
         ⟨(some 21), .mv, [.t 5], .none, none, none⟩,
         ⟨(some 22), (.ia 2), [.t 20, .t 21], .none, none, none⟩,
         ⟨(some 23), (.ld true 2), [.t 22], .none, none, none⟩,
         ⟨(some 24), (.seq true [0, 0]), [.t 19, .t 23], .none, none, none⟩] [16, 17, 18, 19, 20, 21, 22, 23, 5]) <|
      .cond (.t 24) (.seq (.reg false [] [⟨(some 4), .mv, [.c (.bool false)], .none, none, none⟩] []) <|
       .ret)
       (.skip))) <|
    .reg false [] [
      ⟨(some 25), (.bin .add), [.t 13, .c (.int .i64 1)], .none, none, none⟩,
      ⟨(some 13), .mv, [.t 25], .none, none, none⟩] [25])
def F19 : AFun :=
  { nargs := 2, keep := false, res := [.tmp 4], body :=
    .seq (.reg false [] [⟨(some 4), .mv, [.c (.bool false)], .none, none, none⟩] [4]) <|
    .seq (.seq (.reg false [] [
        ⟨(some 6), .mv, [.t 0], .none, none, none⟩,
        ⟨(some 7), (.len false), [.t 6], .none, none, none⟩,
        ⟨(some 8), .mv, [.t 1], .none, none, none⟩,
        ⟨(some 9), (.len false), [.t 8], .none, none, none⟩,
        ⟨(some 10), (.bin .neq), [.t 7, .t 9], .none, none, none⟩] [6, 7, 8, 9]) <|
     .cond (.t 10) (.seq (.reg false [] [⟨(some 4), .mv, [.c (.bool false)], .none, none, none⟩] []) <|
      .ret)
      (.skip)) <|
    .seq (.seq (.reg false [] [
        ⟨(some 11), .mv, [.t 0], .none, none, none⟩,
        ⟨(some 12), (.len false), [.t 11], .none, none, none⟩,
        ⟨(some 13), .mv, [.c (.int .i64 0)], .none, none, none⟩] [11]) <|
     .block 0 (L19_0)) <|
    .seq (.reg false [] [⟨(some 4), .mv, [.c (.bool true)], .none, none, none⟩] []) <|
    .ret }

/- bitext/concord.Occurrences -/
def L20_0 : ACode :=
  .loop [17, 18, 19, 20, 8, 7, 21, 22, 23, 24, 25, 26, 27, 28, 29, 30, 31, 32] (.seq (.reg false [] [⟨(some 17), (.bin .lss), [.t 16, .t 15], .none, none, none⟩] []) <|
    .seq (.cond (.t 17) (.skip)
      (.exit 0)) <|
    .seq (.block 1 (.seq (.reg false [8] [
         ⟨(some 18), .mv, [.t 16], .none, none, none⟩,
         ⟨(some 19), (.ia 3), [.t 14, .t 16], .none, none, none⟩,
         ⟨(some 20), (.ld true 3), [.t 19], .none, none, none⟩,
         ⟨(some 8), (.alloc [.int .i64 0, .str [], .int .i64 0]), [], (.lo 8), none, none⟩,
         ⟨(some 7), .mv, [.t 18], .none, none, none⟩,
         ⟨none, (.st 3), [.t 8, .t 20], (.lo 8), none, none⟩] [18, 19, 20]) <|
      .seq (.reg false [] [
         ⟨(some 21), (.ld true 3), [.t 8], (.lo 8), none, none⟩,
         ⟨(some 22), (.call 44), [.t 21], .none, none, none⟩] [21]) <|
      .cond (.t 22) (.seq (.reg false [] [
          ⟨(some 23), .mvo, [.t 5], .none, (some 5), none⟩,
          ⟨(some 24), .mv, [.t 7], .none, none, none⟩,
          ⟨(some 25), (.mks 1 [.int .i64 0] 1 [0]), [.t 24], .none, none, none⟩,
          ⟨(some 26), (.app false 1 8), [.t 23, .t 25], .none, (some 23), none⟩,
          ⟨(some 5), .mvo, [.t 26], .none, (some 26), none⟩] [23, 24, 25, 26, 7]) <|
       .reg false [] [
         ⟨(some 27), .mvo, [.t 6], .none, (some 6), none⟩,
         ⟨(some 28), (.ld true 3), [.t 8], (.lo 8), none, none⟩,
         ⟨(some 29), (.call 45), [.t 28], .none, none, none⟩,
         ⟨(some 30), (.mks 1 [.str []] 1 [0]), [.t 29], .none, none, none⟩,
         ⟨(some 31), (.app false 1 16), [.t 27, .t 30], .none, (some 27), none⟩,
         ⟨(some 6), .mvo, [.t 31], .none, (some 31), none⟩] [27, 28, 29, 30, 31, 8])
       (.skip))) <|
    .reg false [] [
      ⟨(some 32), (.bin .add), [.t 16, .c (.int .i64 1)], .none, none, none⟩,
      ⟨(some 16), .mv, [.t 32], .none, none, none⟩] [32])
def L20_1 : ACode :=
  .loop [33, 34, 35, 36, 37, 38, 39, 42, 43, 44, 45, 46, 47, 48, 49, 50, 51, 52, 53, 54, 55, 56, 57, 58, 59, 60, 61, 62, 63, 64, 65, 66, 67, 40, 41] (.seq (.seq (.reg false [] [
        ⟨(some 33), .mv, [.t 10], .none, none, none⟩,
        ⟨(some 34), .mv, [.t 0], .none, none, none⟩,
        ⟨(some 35), (.len false), [.t 34], .none, none, none⟩,
        ⟨(some 36), (.bin .add), [.t 33, .t 35], .none, none, none⟩,
        ⟨(some 37), .mv, [.t 6], .none, none, none⟩,
        ⟨(some 38), (.len false), [.t 37], .none, none, none⟩,
        ⟨(some 39), (.bin .leq), [.t 36, .t 38], .none, none, none⟩] [33, 34, 35, 36, 37, 38]) <|
     .cond (.t 39) (.skip)
      (.exit 2)) <|
    .seq (.block 3 (.seq (.reg false [] [
         ⟨(some 42), .mv, [.t 6], .none, none, none⟩,
         ⟨(some 43), .mv, [.t 10], .none, none, none⟩,
         ⟨(some 44), .mv, [.t 10], .none, none, none⟩,
         ⟨(some 45), .mv, [.t 0], .none, none, none⟩,
         ⟨(some 46), (.len false), [.t 45], .none, none, none⟩,
         ⟨(some 47), (.bin .add), [.t 44, .t 46], .none, none, none⟩,
         ⟨(some 48), (.slc false 1 true true), [.t 42, .t 43, .t 47], .none, none, none⟩,
         ⟨(some 49), .mv, [.t 0], .none, none, none⟩,
         ⟨(some 50), (.call 49), [.t 48, .t 49], .none, none, none⟩] [42, 43, 44, 45, 46, 47, 48, 49]) <|
      .cond (.t 50) (.reg true [] [
         ⟨(some 51), .mvo, [.t 9], .none, (some 9), none⟩,
         ⟨(some 52), .mv, [.t 5], .none, none, none⟩,
         ⟨(some 53), .mv, [.t 10], .none, none, none⟩,
         ⟨(some 54), (.ia 1), [.t 52, .t 53], .none, none, none⟩,
         ⟨(some 55), (.ld false 1), [.t 54], .none, none, none⟩,
         ⟨(some 56), .mv, [.t 5], .none, none, none⟩,
         ⟨(some 57), .mv, [.t 10], .none, none, none⟩,
         ⟨(some 58), .mv, [.t 0], .none, none, none⟩,
         ⟨(some 59), (.len false), [.t 58], .none, none, none⟩,
         ⟨(some 60), (.bin .add), [.t 57, .t 59], .none, none, none⟩,
         ⟨(some 61), (.bin .sub), [.t 60, .c (.int .i64 1)], .none, none, none⟩,
         ⟨(some 62), (.ia 1), [.t 56, .t 61], .none, none, none⟩,
         ⟨(some 63), (.ld false 1), [.t 62], .none, none, none⟩,
         ⟨(some 64), (.bin .add), [.t 63, .c (.int .i64 1)], .none, none, none⟩,
         ⟨(some 65), (.build [.int .i64 0, .int .i64 0] [(0, 1), (1, 1)]), [.t 55, .t 64], .none, none, none⟩,
         ⟨(some 66), (.mks 2 [.int .i64 0, .int .i64 0] 1 [0]), [.t 65], .none, none, none⟩,
         ⟨(some 67), (.app false 2 16), [.t 51, .t 66], .none, (some 51), none⟩,
         ⟨(some 9), .mvo, [.t 67], .none, (some 67), none⟩] [51, 52, 53, 54, 55, 56, 57, 58, 59, 60, 61, 62, 63, 64, 65, 66, 67])
       (.skip))) <|
    .reg false [] [
      ⟨(some 40), .mv, [.t 10], .none, none, none⟩,
      ⟨(some 41), (.bin .add), [.t 40, .c (.int .i64 1)], .none, none, none⟩,
      ⟨(some 10), .mv, [.t 41], .none, none, none⟩] [40, 41])
def F20 : AFun :=
  { nargs := 2, keep := false, res := [.tmp 4], body :=
    .seq (.reg false [] [⟨(some 4), .mv, [.c (.sl .full 2 [])], .none, none, none⟩] [4]) <|
    .seq (.seq (.reg false [] [
        ⟨(some 11), .mv, [.t 0], .none, none, none⟩,
        ⟨(some 12), (.len false), [.t 11], .none, none, none⟩,
        ⟨(some 13), (.bin .eql), [.t 12, .c (.int .i64 0)], .none, none, none⟩] [11, 12]) <|
     .cond (.t 13) (.seq (.reg false [] [⟨(some 4), .mv, [.c (.sl .full 2 [])], .none, none, none⟩] []) <|
      .ret)
      (.skip)) <|
    .seq (.reg false [] [⟨(some 5), .mv, [.c (.sl .full 1 [])], .none, none, none⟩] []) <|
    .seq (.reg false [] [⟨(some 6), .mv, [.c (.sl .full 1 [])], .none, none, none⟩] []) <|
    .seq (.seq (.reg false [] [
        ⟨(some 14), .mv, [.t 1], .none, none, none⟩,
        ⟨(some 15), (.len false), [.t 14], .none, none, none⟩,
        ⟨(some 16), .mv, [.c (.int .i64 0)], .none, none, none⟩] [1]) <|
     .block 0 (L20_0)) <|
    .seq (.reg false [] [⟨(some 9), .mv, [.c (.sl .full 2 [])], .none, none, none⟩] []) <|
    .seq (.seq (.reg false [] [⟨(some 10), .mv, [.c (.int .i64 0)], .none, none, none⟩] []) <|
     .block 2 (L20_1)) <|
    .seq (.reg false [] [
       ⟨(some 68), .mv, [.t 9], .none, none, none⟩,
       ⟨(some 4), .mvo, [.t 68], .none, (some 68), none⟩] [68, 9]) <|
    .ret }

/- bitext/bitextref20.Occurrences -/
def L21_0 : ACode :=
  .loop [18, 19, 20, 21, 22, 23, 24, 25, 26, 27, 28, 31, 32, 33, 34, 35, 36, 37, 38, 39, 40, 41, 42, 43, 44, 45, 46, 47, 48, 49, 50, 51, 52, 53, 54, 55, 56, 57, 58, 59, 29, 30] (.seq (.seq (.reg false [] [
        ⟨(some 18), .mv, [.t 8], .none, none, none⟩,
        ⟨(some 19), .mv, [.t 1], .none, none, none⟩,
        ⟨(some 20), (.len false), [.t 19], .none, none, none⟩,
        ⟨(some 21), (.bin .lss), [.t 18, .t 20], .none, none, none⟩,
        ⟨(some 22), .mv, [.t 21], .none, none, none⟩,
        ⟨(some 23), .mv, [.t 1], .none, none, (some (22, true))⟩,
        ⟨(some 24), .mv, [.t 6], .none, none, (some (22, true))⟩,
        ⟨(some 25), (.ia 3), [.t 23, .t 24], .none, none, (some (22, true))⟩,
        ⟨(some 26), (.ld true 3), [.t 25], .none, none, (some (22, true))⟩,
        ⟨(some 27), (.call 47), [.t 26], .none, none, (some (22, true))⟩,
        ⟨(some 28), .pick, [.t 22, .t 27, .c (.bool false)], .none, none, none⟩] [18, 19, 20, 21, 22, 23, 24, 25, 26, 27]) <|
     .cond (.t 28) (.skip)
      (.exit 2)) <|
    .seq (.block 3 (.seq (.seq (.reg false [] [
          ⟨(some 31), .mv, [.t 1], .none, none, none⟩,
          ⟨(some 32), .mv, [.t 8], .none, none, none⟩,
          ⟨(some 33), (.ia 3), [.t 31, .t 32], .none, none, none⟩,
          ⟨(some 34), (.ld true 3), [.t 33], .none, none, none⟩,
          ⟨(some 35), (.call 47), [.t 34], .none, none, none⟩,
          ⟨(some 36), (.un .not), [.t 35], .none, none, none⟩] [31, 32, 33, 34, 35]) <|
       .cond (.t 36) (.exit 3)
        (.skip)) <|
      .seq (.seq (.reg true [] [
          ⟨(some 37), .mv, [.t 1], .none, none, none⟩,
          ⟨(some 38), .mv, [.t 8], .none, none, none⟩,
          ⟨(some 39), (.ia 3), [.t 37, .t 38], .none, none, none⟩,
          ⟨(some 40), (.ld true 3), [.t 39], .none, none, none⟩,
          ⟨(some 41), (.call 23), [.t 40], .none, none, none⟩,
          ⟨(some 42), .mv, [.t 0], .none, none, none⟩,
          ⟨(some 43), .mv, [.t 7], .none, none, none⟩,
          ⟨(some 44), (.ia 1), [.t 42, .t 43], .none, none, none⟩,
          ⟨(some 45), (.ld false 1), [.t 44], .none, none, none⟩,
          ⟨(some 46), (.bin .neq), [.t 41, .t 45], .none, none, none⟩] [37, 38, 39, 40, 41, 42, 43, 44, 45]) <|
       .cond (.t 46) (.exit 2)
        (.skip)) <|
      .seq (.reg false [] [
         ⟨(some 47), .mv, [.t 7], .none, none, none⟩,
         ⟨(some 48), (.bin .add), [.t 47, .c (.int .i64 1)], .none, none, none⟩,
         ⟨(some 7), .mv, [.t 48], .none, none, none⟩] [47, 48]) <|
      .seq (.reg false [] [
         ⟨(some 49), .mv, [.t 7], .none, none, none⟩,
         ⟨(some 50), .mv, [.t 0], .none, none, none⟩,
         ⟨(some 51), (.len false), [.t 50], .none, none, none⟩,
         ⟨(some 52), (.bin .eql), [.t 49, .t 51], .none, none, none⟩] [49, 50, 51]) <|
      .cond (.t 52) (.seq (.reg false [] [
          ⟨(some 53), .mvo, [.t 5], .none, (some 5), none⟩,
          ⟨(some 54), .mv, [.t 6], .none, none, none⟩,
          ⟨(some 55), .mv, [.t 8], .none, none, none⟩,
          ⟨(some 56), (.bin .add), [.t 55, .c (.int .i64 1)], .none, none, none⟩,
          ⟨(some 57), (.build [.int .i64 0, .int .i64 0] [(0, 1), (1, 1)]), [.t 54, .t 56], .none, none, none⟩,
          ⟨(some 58), (.mks 2 [.int .i64 0, .int .i64 0] 1 [0]), [.t 57], .none, none, none⟩,
          ⟨(some 59), (.app false 2 16), [.t 53, .t 58], .none, (some 53), none⟩,
          ⟨(some 5), .mvo, [.t 59], .none, (some 59), none⟩] [53, 54, 55, 56, 57, 58, 59, 6, 8]) <|
       .exit 2)
       (.skip))) <|
    .reg false [] [
      ⟨(some 29), .mv, [.t 8], .none, none, none⟩,
      ⟨(some 30), (.bin .add), [.t 29, .c (.int .i64 1)], .none, none, none⟩,
      ⟨(some 8), .mv, [.t 30], .none, none, none⟩] [29, 30])
def L21_1 : ACode :=
  .loop [15, 16, 6, 7, 17, 8, 18, 19, 20, 21, 22, 23, 24, 25, 26, 27, 28, 31, 32, 33, 34, 35, 36, 37, 38, 39, 40, 41, 42, 43, 44, 45, 46, 47, 48, 49, 50, 51, 52, 53, 54, 55, 56, 57, 58, 59, 29, 30, 60] (.seq (.reg false [] [⟨(some 15), (.bin .lss), [.t 14, .t 13], .none, none, none⟩] []) <|
    .seq (.cond (.t 15) (.skip)
      (.exit 0)) <|
    .seq (.block 1 (.seq (.reg false [] [
         ⟨(some 16), .mv, [.t 14], .none, none, none⟩,
         ⟨(some 6), .mv, [.t 16], .none, none, none⟩] [16]) <|
      .seq (.reg false [] [⟨(some 7), .mv, [.c (.int .i64 0)], .none, none, none⟩] []) <|
      .seq (.reg false [] [
         ⟨(some 17), .mv, [.t 6], .none, none, none⟩,
         ⟨(some 8), .mv, [.t 17], .none, none, none⟩] [17]) <|
      .block 2 (L21_0))) <|
    .reg false [] [
      ⟨(some 60), (.bin .add), [.t 14, .c (.int .i64 1)], .none, none, none⟩,
      ⟨(some 14), .mv, [.t 60], .none, none, none⟩] [60])
def F21 : AFun :=
  { nargs := 2, keep := false, res := [.tmp 4], body :=
    .seq (.reg false [] [⟨(some 4), .mv, [.c (.sl .full 2 [])], .none, none, none⟩] [4]) <|
    .seq (.reg false [] [⟨(some 5), .mv, [.c (.sl .full 2 [])], .none, none, none⟩] []) <|
    .seq (.seq (.reg false [] [
        ⟨(some 9), .mv, [.t 0], .none, none, none⟩,
        ⟨(some 10), (.len false), [.t 9], .none, none, none⟩,
        ⟨(some 11), (.bin .eql), [.t 10, .c (.int .i64 0)], .none, none, none⟩] [9, 10]) <|
     .cond (.t 11) (.seq (.reg false [] [⟨(some 4), .mv, [.c (.sl .full 2 [])], .none, none, none⟩] []) <|
      .ret)
      (.skip)) <|
    .seq (.seq (.reg false [] [
        ⟨(some 12), .mv, [.t 1], .none, none, none⟩,
        ⟨(some 13), (.len false), [.t 12], .none, none, none⟩,
        ⟨(some 14), .mv, [.c (.int .i64 0)], .none, none, none⟩] [12]) <|
     .block 0 (L21_1)) <|
    .seq (.reg false [] [
       ⟨(some 61), .mv, [.t 5], .none, none, none⟩,
       ⟨(some 4), .mvo, [.t 61], .none, (some 61), none⟩] [61, 5]) <|
    .ret }

/- bitext/bitextlaw21.tokens -/
def F22 : AFun :=
  { nargs := 1, keep := false, res := [.tmp 2], body :=
    .seq (.reg false [] [⟨(some 2), .mv, [.c (.sl .full 3 [])], .none, none, none⟩] [2]) <|
    .seq (.reg false [] [
       ⟨(some 3), .mv, [.t 0], .none, none, none⟩,
       ⟨(some 4), (.build [.sl .full 1 [], .int .i64 0] [(0, 1)]), [.t 3], .none, none, none⟩,
       ⟨(some 5), (.boxS 2), [.t 4], .sh, none, none⟩,
       ⟨(some 6), (.call 50), [.t 5, .c (.int .i64 8), .c (.bool true), .c (.bool false)], .sh, none, none⟩,
       ⟨(some 7), (.call 42), [.t 6], .none, none, none⟩,
       ⟨(some 2), .mvo, [.t 7], .none, (some 7), none⟩] [3, 4, 5, 6, 7, 0]) <|
    .ret }

/- bitext/bitextref11.Key -/
def F23 : AFun :=
  { nargs := 1, keep := false, res := [.tmp 2], body :=
    .seq (.reg false [1] [
       ⟨(some 1), (.box 3), [.t 0], (.lo 1), none, none⟩,
       ⟨(some 2), .mv, [.c (.str [])], .none, none, none⟩] [2, 0]) <|
    .seq (.seq (.reg false [] [
        ⟨(some 3), (.fa 0), [.t 1], .none, none, none⟩,
        ⟨(some 4), (.ld false 1), [.t 3], (.lo 1), none, none⟩,
        ⟨(some 5), (.bin .eql), [.t 4, .c (.int .i64 6)], .none, none, none⟩] [3, 4]) <|
     .cond (.t 5) (.seq (.reg false [] [
         ⟨(some 6), (.fa 1), [.t 1], .none, none, none⟩,
         ⟨(some 7), (.ld false 1), [.t 6], (.lo 1), none, none⟩,
         ⟨(some 8), (.call 51), [.t 7], .none, none, none⟩,
         ⟨(some 2), .mv, [.t 8], .none, none, none⟩] [6, 7, 8, 1]) <|
      .ret)
      (.skip)) <|
    .seq (.reg false [] [
       ⟨(some 9), (.fa 1), [.t 1], .none, none, none⟩,
       ⟨(some 10), (.ld false 1), [.t 9], (.lo 1), none, none⟩,
       ⟨(some 2), .mv, [.t 10], .none, none, none⟩] [9, 10, 1]) <|
    .ret }

/- bitext/bitextmake.Place -/
def F24 : AFun :=
  { nargs := 2, keep := false, res := [.tmp 4], body :=
    .seq (.reg false [] [⟨(some 4), .mv, [.c (.int .i64 0)], .none, none, none⟩] [4]) <|
    .seq (.reg false [] [
       ⟨(some 5), .mv, [.t 0], .none, none, none⟩,
       ⟨(some 6), .mv, [.t 1], .none, none, none⟩,
       ⟨(some 7), (.bin .rem), [.t 5, .t 6], .none, none, none⟩,
       ⟨(some 0), .mv, [.t 7], .none, none, none⟩] [5, 6, 7]) <|
    .seq (.seq (.reg false [] [
        ⟨(some 8), .mv, [.t 0], .none, none, none⟩,
        ⟨(some 9), (.bin .lss), [.t 8, .c (.int .i64 0)], .none, none, none⟩] [8]) <|
     .cond (.t 9) (.reg false [] [
        ⟨(some 10), .mv, [.t 0], .none, none, none⟩,
        ⟨(some 11), .mv, [.t 1], .none, none, none⟩,
        ⟨(some 12), (.bin .add), [.t 10, .t 11], .none, none, none⟩,
        ⟨(some 0), .mv, [.t 12], .none, none, none⟩] [10, 11, 12, 1])
      (.skip)) <|
    .seq (.reg false [] [
       ⟨(some 13), .mv, [.t 0], .none, none, none⟩,
       ⟨(some 4), .mv, [.t 13], .none, none, none⟩] [13, 0]) <|
    .ret }

/- bitext/bitextref11.Tokens -/
def L42_0 : ACode :=
  .loop [9, 10, 11, 5, 12, 13, 15, 14, 16, 17, 18, 19, 20, 22, 21, 23, 24, 25, 26, 27, 28, 29, 30, 31, 32, 33, 34, 35, 36] (.seq (.reg false [] [⟨(some 9), (.bin .lss), [.t 8, .t 7], .none, none, none⟩] []) <|
    .seq (.cond (.t 9) (.skip)
      (.exit 0)) <|
    .seq (.block 1 (.seq (.reg false [5] [
         ⟨(some 10), (.ia 3), [.t 6, .t 8], .none, none, none⟩,
         ⟨(some 11), (.ld true 3), [.t 10], .none, none, none⟩,
         ⟨(some 5), (.alloc [.int .i64 0, .str [], .int .i64 0]), [], (.lo 5), none, none⟩,
         ⟨none, (.st 3), [.t 5, .t 11], (.lo 5), none, none⟩] [10, 11]) <|
      .seq (.reg false [] [
         ⟨(some 12), (.fa 0), [.t 5], .none, none, none⟩,
         ⟨(some 13), (.ld false 1), [.t 12], (.lo 5), none, none⟩] [12]) <|
      .block 2 (.seq (.reg false [] [
          ⟨(some 15), (.bin .eql), [.t 13, .c (.int .i64 1)], .none, none, none⟩,
          ⟨(some 14), .mv, [.t 15], .none, none, none⟩] [15]) <|
       .cond (.t 14) (.reg false [] [
          ⟨(some 16), .mvo, [.t 3], .none, (some 3), none⟩,
          ⟨(some 17), (.fa 1), [.t 5], .none, none, none⟩,
          ⟨(some 18), (.ld false 1), [.t 17], (.lo 5), none, none⟩,
          ⟨(some 19), (.call 46), [.t 18], .none, none, none⟩,
          ⟨(some 20), (.app false 3 32), [.t 16, .t 19], .none, (some 16), none⟩,
          ⟨(some 3), .mvo, [.t 20], .none, (some 20), none⟩] [16, 17, 18, 19, 20, 5])
        (.seq (.seq (.reg false [] [
            ⟨(some 22), (.bin .eql), [.t 13, .c (.int .i64 2)], .none, none, none⟩,
            ⟨(some 21), .mv, [.t 22], .none, none, none⟩] [22]) <|
         .cond (.t 21) (.skip)
          (.seq (.reg false [] [
             ⟨(some 23), (.bin .eql), [.t 13, .c (.int .i64 3)], .none, none, none⟩,
             ⟨(some 21), .mv, [.t 23], .none, none, none⟩] [23]) <|
          .cond (.t 21) (.skip)
           (.seq (.reg false [] [
              ⟨(some 24), (.bin .eql), [.t 13, .c (.int .i64 4)], .none, none, none⟩,
              ⟨(some 21), .mv, [.t 24], .none, none, none⟩] [24]) <|
           .cond (.t 21) (.skip)
            (.reg false [] [
              ⟨(some 25), (.bin .eql), [.t 13, .c (.int .i64 5)], .none, none, none⟩,
              ⟨(some 21), .mv, [.t 25], .none, none, none⟩] [25, 13])))) <|
        .cond (.t 21) (.reg false [] [
           ⟨(some 26), .mvo, [.t 3], .none, (some 3), none⟩,
           ⟨(some 27), (.fa 0), [.t 5], .none, none, none⟩,
           ⟨(some 28), (.ld false 1), [.t 27], (.lo 5), none, none⟩,
           ⟨(some 29), (.fa 1), [.t 5], .none, none, none⟩,
           ⟨(some 30), (.ld false 1), [.t 29], (.lo 5), none, none⟩,
           ⟨(some 31), (.fa 2), [.t 5], .none, none, none⟩,
           ⟨(some 32), (.ld false 1), [.t 31], (.lo 5), none, none⟩,
           ⟨(some 33), (.build [.int .i64 0, .str [], .int .i64 0] [(0, 1), (1, 1), (2, 1)]), [.t 28, .t 30, .t 32], .none, none, none⟩,
           ⟨(some 34), (.mks 3 [.int .i64 0, .str [], .int .i64 0] 1 [0]), [.t 33], .none, none, none⟩,
           ⟨(some 35), (.app false 3 32), [.t 26, .t 34], .none, (some 26), none⟩,
           ⟨(some 3), .mvo, [.t 35], .none, (some 35), none⟩] [26, 27, 28, 29, 30, 31, 32, 33, 34, 35, 5])
         (.skip))))) <|
    .reg false [] [
      ⟨(some 36), (.bin .add), [.t 8, .c (.int .i64 1)], .none, none, none⟩,
      ⟨(some 8), .mv, [.t 36], .none, none, none⟩] [36])
def F42 : AFun :=
  { nargs := 1, keep := false, res := [.tmp 2], body :=
    .seq (.reg false [] [⟨(some 2), .mv, [.c (.sl .full 3 [])], .none, none, none⟩] [2]) <|
    .seq (.reg false [] [⟨(some 3), .mv, [.c (.sl .full 3 [])], .none, none, none⟩] []) <|
    .seq (.seq (.reg false [] [
        ⟨(some 6), .mv, [.t 0], .none, none, none⟩,
        ⟨(some 7), (.len false), [.t 6], .none, none, none⟩,
        ⟨(some 8), .mv, [.c (.int .i64 0)], .none, none, none⟩] [0]) <|
     .block 0 (L42_0)) <|
    .seq (.reg false [] [
       ⟨(some 37), .mv, [.t 3], .none, none, none⟩,
       ⟨(some 2), .mvo, [.t 37], .none, (some 37), none⟩] [37, 3]) <|
    .ret }

/- bitext/token.Tokens -/
def L43_0 : ACode :=
  .loop [30, 31, 33, 34, 32, 35, 36, 7, 8, 37, 38, 39, 40, 41, 42, 43, 44, 45, 46, 47] (.seq (.seq (.reg false [] [
        ⟨(some 30), .mv, [.t 6], .none, none, none⟩,
        ⟨(some 31), (.bin .neq), [.t 30, .c (.str [])], .none, none, none⟩] [30]) <|
     .cond (.t 31) (.skip)
      (.exit 3)) <|
    .block 4 (.seq (.reg false [] [
        ⟨(some 33), .mv, [.t 6], .none, none, none⟩,
        ⟨(some 34), (.call 61), [.t 33], .none, none, none⟩,
        ⟨(some 32), .mv, [.t 34], .none, none, none⟩,
        ⟨(some 35), (.ext 0), [.t 32], .none, none, none⟩,
        ⟨(some 36), (.ext 1), [.t 32], .none, none, none⟩,
        ⟨(some 7), .mv, [.t 35], .none, none, none⟩,
        ⟨(some 8), .mv, [.t 36], .none, none, none⟩] [33, 34, 32, 35, 36]) <|
     .seq (.reg false [] [
        ⟨(some 37), .mvo, [.t 3], .none, (some 3), none⟩,
        ⟨(some 38), .mv, [.t 7], .none, none, none⟩,
        ⟨(some 39), .mv, [.t 6], .none, none, none⟩,
        ⟨(some 40), .mv, [.t 8], .none, none, none⟩,
        ⟨(some 41), (.slc true 0 false true), [.t 39, .t 40], .none, none, none⟩,
        ⟨(some 42), (.build [.int .i64 0, .str [], .int .i64 0] [(0, 1), (1, 1)]), [.t 38, .t 41], .none, none, none⟩,
        ⟨(some 43), (.mks 3 [.int .i64 0, .str [], .int .i64 0] 1 [0]), [.t 42], .none, none, none⟩,
        ⟨(some 44), (.app false 3 32), [.t 37, .t 43], .none, (some 37), none⟩,
        ⟨(some 3), .mvo, [.t 44], .none, (some 44), none⟩] [37, 38, 39, 40, 41, 42, 43, 44, 7]) <|
     .reg false [] [
       ⟨(some 45), .mv, [.t 6], .none, none, none⟩,
       ⟨(some 46), .mv, [.t 8], .none, none, none⟩,
       ⟨(some 47), (.slc true 0 true false), [.t 45, .t 46], .none, none, none⟩,
       ⟨(some 6), .mv, [.t 47], .none, none, none⟩] [45, 46, 47, 8]))
def L43_1 : ACode :=
  .loop [12, 13, 14, 5, 15, 16, 18, 17, 19, 20, 21, 22, 23, 24, 25, 27, 26, 28, 29, 6, 30, 31, 33, 34, 32, 35, 36, 7, 8, 37, 38, 39, 40, 41, 42, 43, 44, 45, 46, 47, 48] (.seq (.reg false [] [⟨(some 12), (.bin .lss), [.t 11, .t 10], .none, none, none⟩] []) <|
    .seq (.cond (.t 12) (.skip)
      (.exit 0)) <|
    .seq (.block 1 (.seq (.reg false [5] [
         ⟨(some 13), (.ia 3), [.t 9, .t 11], .none, none, none⟩,
         ⟨(some 14), (.ld true 3), [.t 13], .none, none, none⟩,
         ⟨(some 5), (.alloc [.int .i64 0, .str [], .int .i64 0]), [], (.lo 5), none, none⟩,
         ⟨none, (.st 3), [.t 5, .t 14], (.lo 5), none, none⟩] [13, 14]) <|
      .seq (.reg false [] [
         ⟨(some 15), (.fa 0), [.t 5], .none, none, none⟩,
         ⟨(some 16), (.ld false 1), [.t 15], (.lo 5), none, none⟩] [15]) <|
      .block 2 (.seq (.seq (.reg false [] [
           ⟨(some 18), (.bin .eql), [.t 16, .c (.int .i64 2)], .none, none, none⟩,
           ⟨(some 17), .mv, [.t 18], .none, none, none⟩] [18]) <|
        .cond (.t 17) (.skip)
         (.seq (.reg false [] [
            ⟨(some 19), (.bin .eql), [.t 16, .c (.int .i64 3)], .none, none, none⟩,
            ⟨(some 17), .mv, [.t 19], .none, none, none⟩] [19]) <|
         .cond (.t 17) (.skip)
          (.seq (.reg false [] [
             ⟨(some 20), (.bin .eql), [.t 16, .c (.int .i64 4)], .none, none, none⟩,
             ⟨(some 17), .mv, [.t 20], .none, none, none⟩] [20]) <|
          .cond (.t 17) (.skip)
           (.reg false [] [
             ⟨(some 21), (.bin .eql), [.t 16, .c (.int .i64 5)], .none, none, none⟩,
             ⟨(some 17), .mv, [.t 21], .none, none, none⟩] [21])))) <|
       .cond (.t 17) (.reg false [] [
          ⟨(some 22), .mvo, [.t 3], .none, (some 3), none⟩,
          ⟨(some 23), (.ld true 3), [.t 5], (.lo 5), none, none⟩,
          ⟨(some 24), (.mks 3 [.int .i64 0, .str [], .int .i64 0] 1 [0]), [.t 23], .none, none, none⟩,
          ⟨(some 25), (.app false 3 32), [.t 22, .t 24], .none, (some 22), none⟩,
          ⟨(some 3), .mvo, [.t 25], .none, (some 25), none⟩] [22, 23, 24, 25, 5])
        (.seq (.reg false [] [
           ⟨(some 27), (.bin .eql), [.t 16, .c (.int .i64 1)], .none, none, none⟩,
           ⟨(some 26), .mv, [.t 27], .none, none, none⟩] [27, 16]) <|
        .cond (.t 26) (.seq (.reg false [] [
            ⟨(some 28), (.fa 1), [.t 5], .none, none, none⟩,
            ⟨(some 29), (.ld false 1), [.t 28], (.lo 5), none, none⟩,
            ⟨(some 6), .mv, [.t 29], .none, none, none⟩] [28, 29, 5]) <|
         .block 3 (L43_0))
         (.skip))))) <|
    .reg false [] [
      ⟨(some 48), (.bin .add), [.t 11, .c (.int .i64 1)], .none, none, none⟩,
      ⟨(some 11), .mv, [.t 48], .none, none, none⟩] [48])
def F43 : AFun :=
  { nargs := 1, keep := false, res := [.tmp 2], body :=
    .seq (.reg false [] [⟨(some 2), .mv, [.c (.sl .full 3 [])], .none, none, none⟩] [2]) <|
    .seq (.reg false [] [⟨(some 3), .mv, [.c (.sl .full 3 [])], .none, none, none⟩] []) <|
    .seq (.seq (.reg false [] [
        ⟨(some 9), .mv, [.t 0], .none, none, none⟩,
        ⟨(some 10), (.len false), [.t 9], .none, none, none⟩,
        ⟨(some 11), .mv, [.c (.int .i64 0)], .none, none, none⟩] [0]) <|
     .block 0 (L43_1)) <|
    .seq (.reg false [] [
       ⟨(some 49), .mv, [.t 3], .none, none, none⟩,
       ⟨(some 2), .mvo, [.t 49], .none, (some 49), none⟩] [49, 3]) <|
    .ret }

/- bitext/concord.counts -/
def F44 : AFun :=
  { nargs := 1, keep := false, res := [.tmp 2], body :=
    .seq (.reg false [1] [
       ⟨(some 1), (.box 3), [.t 0], (.lo 1), none, none⟩,
       ⟨(some 2), .mv, [.c (.bool false)], .none, none, none⟩] [2, 0]) <|
    .seq (.reg false [] [
       ⟨(some 3), (.fa 0), [.t 1], .none, none, none⟩,
       ⟨(some 4), (.ld false 1), [.t 3], (.lo 1), none, none⟩,
       ⟨(some 5), (.bin .eql), [.t 4, .c (.int .i64 6)], .none, none, none⟩,
       ⟨(some 6), .mv, [.t 5], .none, none, none⟩,
       ⟨(some 7), (.fa 0), [.t 1], .none, none, (some (6, false))⟩,
       ⟨(some 8), (.ld false 1), [.t 7], (.lo 1), none, (some (6, false))⟩,
       ⟨(some 9), (.bin .eql), [.t 8, .c (.int .i64 7)], .none, none, (some (6, false))⟩,
       ⟨(some 10), .pick, [.t 6, .c (.bool true), .t 9], .none, none, none⟩,
       ⟨(some 2), .mv, [.t 10], .none, none, none⟩] [3, 4, 5, 6, 7, 8, 9, 10, 1]) <|
    .ret }

/- bitext/token.Key -/
def F45 : AFun :=
  { nargs := 1, keep := false, res := [.tmp 2], body :=
    .seq (.reg false [1] [
       ⟨(some 1), (.box 3), [.t 0], (.lo 1), none, none⟩,
       ⟨(some 2), .mv, [.c (.str [])], .none, none, none⟩] [2, 0]) <|
    .seq (.seq (.reg false [] [
        ⟨(some 3), (.fa 0), [.t 1], .none, none, none⟩,
        ⟨(some 4), (.ld false 1), [.t 3], (.lo 1), none, none⟩,
        ⟨(some 5), (.bin .eql), [.t 4, .c (.int .i64 6)], .none, none, none⟩] [3, 4]) <|
     .cond (.t 5) (.seq (.reg false [] [
         ⟨(some 6), (.fa 1), [.t 1], .none, none, none⟩,
         ⟨(some 7), (.ld false 1), [.t 6], (.lo 1), none, none⟩,
         ⟨(some 8), (.call 62), [.t 7], .none, none, none⟩,
         ⟨(some 2), .mv, [.t 8], .none, none, none⟩] [6, 7, 8, 1]) <|
      .ret)
      (.skip)) <|
    .seq (.reg false [] [
       ⟨(some 9), (.fa 1), [.t 1], .none, none, none⟩,
       ⟨(some 10), (.ld false 1), [.t 9], (.lo 1), none, none⟩,
       ⟨(some 2), .mv, [.t 10], .none, none, none⟩] [9, 10, 1]) <|
    .ret }

/- bitext/bitextref11.Cut -/
def L46_0 : ACode :=
  .loop [9, 10, 11, 4, 5, 12, 13, 6, 14, 15, 16, 17, 18, 7, 19, 20, 21, 22, 23, 8, 24, 25, 26, 27, 28, 29, 30, 31, 32, 33, 34, 35, 36, 37] (.seq (.seq (.reg false [] [
        ⟨(some 9), .mv, [.t 0], .none, none, none⟩,
        ⟨(some 10), (.len true), [.t 9], .none, none, none⟩,
        ⟨(some 11), (.bin .gtr), [.t 10, .c (.int .i64 0)], .none, none, none⟩] [9, 10]) <|
     .cond (.t 11) (.skip)
      (.exit 0)) <|
    .block 1 (.seq (.reg false [] [
        ⟨(some 4), .mv, [.c (.int .i64 9)], .none, none, none⟩,
        ⟨(some 5), .mv, [.c (.int .i64 1)], .none, none, none⟩] []) <|
     .seq (.seq (.reg false [] [
         ⟨(some 12), .mv, [.t 0], .none, none, none⟩,
         ⟨(some 13), (.call 63), [.t 12], .none, none, none⟩,
         ⟨(some 6), .mv, [.t 13], .none, none, none⟩] [12, 13]) <|
      .seq (.reg false [] [
         ⟨(some 14), .mv, [.t 6], .none, none, none⟩,
         ⟨(some 15), (.bin .gtr), [.t 14, .c (.int .i64 0)], .none, none, none⟩] [14]) <|
      .cond (.t 15) (.reg false [] [
         ⟨(some 16), .mv, [.t 6], .none, none, none⟩,
         ⟨(some 4), .mv, [.c (.int .i64 6)], .none, none, none⟩,
         ⟨(some 5), .mv, [.t 16], .none, none, none⟩] [16, 6])
       (.skip)) <|
     .seq (.seq (.reg false [] [
         ⟨(some 17), .mv, [.t 0], .none, none, none⟩,
         ⟨(some 18), (.call 64), [.t 17], .none, none, none⟩,
         ⟨(some 7), .mv, [.t 18], .none, none, none⟩] [17, 18]) <|
      .seq (.reg false [] [
         ⟨(some 19), .mv, [.t 7], .none, none, none⟩,
         ⟨(some 20), (.bin .gtr), [.t 19, .c (.int .i64 0)], .none, none, none⟩] [19]) <|
      .cond (.t 20) (.reg false [] [
         ⟨(some 21), .mv, [.t 7], .none, none, none⟩,
         ⟨(some 4), .mv, [.c (.int .i64 7)], .none, none, none⟩,
         ⟨(some 5), .mv, [.t 21], .none, none, none⟩] [21, 7])
       (.skip)) <|
     .seq (.seq (.reg false [] [
         ⟨(some 22), .mv, [.t 0], .none, none, none⟩,
         ⟨(some 23), (.call 65), [.t 22], .none, none, none⟩,
         ⟨(some 8), .mv, [.t 23], .none, none, none⟩] [22, 23]) <|
      .seq (.reg false [] [
         ⟨(some 24), .mv, [.t 8], .none, none, none⟩,
         ⟨(some 25), (.bin .gtr), [.t 24, .c (.int .i64 0)], .none, none, none⟩] [24]) <|
      .cond (.t 25) (.reg false [] [
         ⟨(some 26), .mv, [.t 8], .none, none, none⟩,
         ⟨(some 4), .mv, [.c (.int .i64 8)], .none, none, none⟩,
         ⟨(some 5), .mv, [.t 26], .none, none, none⟩] [26, 8])
       (.skip)) <|
     .seq (.reg false [] [
        ⟨(some 27), .mvo, [.t 3], .none, (some 3), none⟩,
        ⟨(some 28), .mv, [.t 4], .none, none, none⟩,
        ⟨(some 29), .mv, [.t 0], .none, none, none⟩,
        ⟨(some 30), .mv, [.t 5], .none, none, none⟩,
        ⟨(some 31), (.slc true 0 false true), [.t 29, .t 30], .none, none, none⟩,
        ⟨(some 32), (.build [.int .i64 0, .str [], .int .i64 0] [(0, 1), (1, 1)]), [.t 28, .t 31], .none, none, none⟩,
        ⟨(some 33), (.mks 3 [.int .i64 0, .str [], .int .i64 0] 1 [0]), [.t 32], .none, none, none⟩,
        ⟨(some 34), (.app false 3 32), [.t 27, .t 33], .none, (some 27), none⟩,
        ⟨(some 3), .mvo, [.t 34], .none, (some 34), none⟩] [27, 28, 29, 30, 31, 32, 33, 34, 4]) <|
     .reg false [] [
       ⟨(some 35), .mv, [.t 0], .none, none, none⟩,
       ⟨(some 36), .mv, [.t 5], .none, none, none⟩,
       ⟨(some 37), (.slc true 0 true false), [.t 35, .t 36], .none, none, none⟩,
       ⟨(some 0), .mv, [.t 37], .none, none, none⟩] [35, 36, 37, 5]))
def F46 : AFun :=
  { nargs := 1, keep := false, res := [.tmp 2], body :=
    .seq (.reg false [] [⟨(some 2), .mv, [.c (.sl .full 3 [])], .none, none, none⟩] [2]) <|
    .seq (.reg false [] [⟨(some 3), .mv, [.c (.sl .full 3 [])], .none, none, none⟩] []) <|
    .seq (.block 0 (L46_0)) <|
    .seq (.reg false [] [
       ⟨(some 38), .mv, [.t 3], .none, none, none⟩,
       ⟨(some 2), .mvo, [.t 38], .none, (some 38), none⟩] [38, 3]) <|
    .ret }

/- bitext/bitextref20.counted -/
def F47 : AFun :=
  { nargs := 1, keep := false, res := [.tmp 2], body :=
    .seq (.reg false [1] [
       ⟨(some 1), (.box 3), [.t 0], (.lo 1), none, none⟩,
       ⟨(some 2), .mv, [.c (.bool false)], .none, none, none⟩] [2, 0]) <|
    .seq (.reg false [] [
       ⟨(some 3), (.fa 0), [.t 1], .none, none, none⟩,
       ⟨(some 4), (.ld false 1), [.t 3], (.lo 1), none, none⟩,
       ⟨(some 5), (.bin .eql), [.t 4, .c (.int .i64 6)], .none, none, none⟩,
       ⟨(some 6), .mv, [.t 5], .none, none, none⟩,
       ⟨(some 7), (.fa 0), [.t 1], .none, none, (some (6, false))⟩,
       ⟨(some 8), (.ld false 1), [.t 7], (.lo 1), none, (some (6, false))⟩,
       ⟨(some 9), (.bin .eql), [.t 8, .c (.int .i64 7)], .none, none, (some (6, false))⟩,
       ⟨(some 10), .pick, [.t 6, .c (.bool true), .t 9], .none, none, none⟩,
       ⟨(some 2), .mv, [.t 10], .none, none, none⟩] [3, 4, 5, 6, 7, 8, 9, 10, 1]) <|
    .ret }

/- (*bitext/bitextmake.Numbers).Next -/
def F36 : AFun :=
  { nargs := 2, keep := false, res := [.tmp 4], body :=
    .seq (.reg false [] [⟨(some 4), .mv, [.c (.int .i64 0)], .none, none, none⟩] [4]) <|
    .seq (.reg false [] [⟨(some 5), .mv, [.c (.int .i64 0)], .none, none, none⟩] []) <|
    .seq (.seq (.reg true [] [
        ⟨(some 6), .mv, [.t 0], .none, none, none⟩,
        ⟨(some 7), .nilc, [.t 6], .none, none, none⟩,
        ⟨(some 8), (.fa 1), [.t 7], .none, none, none⟩,
        ⟨(some 9), (.ld false 1), [.t 8], .sh, none, none⟩,
        ⟨(some 10), .mv, [.t 0], .none, none, none⟩,
        ⟨(some 11), .nilc, [.t 10], .none, none, none⟩,
        ⟨(some 12), (.fa 0), [.t 11], .none, none, none⟩,
        ⟨(some 13), (.ld false 1), [.t 12], .sh, none, none⟩,
        ⟨(some 14), (.len false), [.t 13], .none, none, none⟩,
        ⟨(some 15), (.bin .lss), [.t 9, .t 14], .none, none, none⟩] [6, 7, 8, 9, 10, 11, 12, 13, 14]) <|
     .cond (.t 15) (.reg true [] [
        ⟨(some 16), .mv, [.t 0], .none, none, none⟩,
        ⟨(some 17), .nilc, [.t 16], .none, none, none⟩,
        ⟨(some 18), (.fa 0), [.t 17], .none, none, none⟩,
        ⟨(some 19), (.ld false 1), [.t 18], .sh, none, none⟩,
        ⟨(some 20), .mv, [.t 0], .none, none, none⟩,
        ⟨(some 21), .nilc, [.t 20], .none, none, none⟩,
        ⟨(some 22), (.fa 1), [.t 21], .none, none, none⟩,
        ⟨(some 23), (.ld false 1), [.t 22], .sh, none, none⟩,
        ⟨(some 24), (.ia 1), [.t 19, .t 23], .none, none, none⟩,
        ⟨(some 25), (.ld false 1), [.t 24], .none, none, none⟩,
        ⟨(some 5), .mv, [.t 25], .none, none, none⟩] [16, 17, 18, 19, 20, 21, 22, 23, 24, 25])
      (.skip)) <|
    .seq (.reg false [] [
       ⟨(some 26), .mv, [.t 0], .none, none, none⟩,
       ⟨(some 27), .nilc, [.t 26], .none, none, none⟩,
       ⟨(some 28), (.fa 1), [.t 27], .none, none, none⟩,
       ⟨(some 29), (.ld false 1), [.t 28], .sh, none, none⟩,
       ⟨(some 30), (.bin .add), [.t 29, .c (.int .i64 1)], .none, none, none⟩,
       ⟨(some 31), .nilc, [.t 26], .none, none, none⟩,
       ⟨(some 32), (.fa 1), [.t 31], .none, none, none⟩,
       ⟨none, (.st 1), [.t 32, .t 30], .sh, none, none⟩] [26, 27, 28, 29, 30, 31, 32, 0]) <|
    .seq (.reg false [] [
       ⟨(some 33), .mv, [.t 5], .none, none, none⟩,
       ⟨(some 34), .mv, [.t 1], .none, none, none⟩,
       ⟨(some 35), (.call 24), [.t 33, .t 34], .none, none, none⟩,
       ⟨(some 4), .mv, [.t 35], .none, none, none⟩] [33, 34, 35, 5, 1]) <|
    .ret }

/- bitext/bitextmake.Line -/
def L48_0 : ACode :=
  .loop [12, 13, 16, 17, 7, 18, 19, 20, 21, 22, 23, 24, 25, 26, 27, 28, 29, 14, 15] (.seq (.seq (.reg false [] [
        ⟨(some 12), .mv, [.t 6], .none, none, none⟩,
        ⟨(some 13), (.bin .gtr), [.t 12, .c (.int .i64 0)], .none, none, none⟩] [12]) <|
     .cond (.t 13) (.skip)
      (.exit 0)) <|
    .seq (.block 1 (.seq (.reg false [] [
         ⟨(some 16), .mv, [.t 0], .none, none, none⟩,
         ⟨(some 17), (.call 66), [.t 16], .sh, none, none⟩,
         ⟨(some 7), .mv, [.t 17], .none, none, none⟩] [16, 17]) <|
      .seq (.seq (.reg false [] [
          ⟨(some 18), .mv, [.t 5], .none, none, none⟩,
          ⟨(some 19), (.bin .neq), [.t 18, .c (.str [])], .none, none, none⟩,
          ⟨(some 20), .mv, [.t 19], .none, none, none⟩,
          ⟨(some 21), .mv, [.t 0], .none, none, (some (20, true))⟩,
          ⟨(some 22), (.call 36), [.t 21, .c (.int .i64 3)], .sh, none, (some (20, true))⟩,
          ⟨(some 23), (.bin .gtr), [.t 22, .c (.int .i64 0)], .none, none, (some (20, true))⟩,
          ⟨(some 24), .pick, [.t 20, .t 23, .c (.bool false)], .none, none, none⟩] [18, 19, 20, 21, 22, 23]) <|
       .cond (.t 24) (.reg false [] [
          ⟨(some 25), .mv, [.t 5], .none, none, none⟩,
          ⟨(some 26), (.bin .add), [.t 25, .c (.str [32])], .none, none, none⟩,
          ⟨(some 5), .mv, [.t 26], .none, none, none⟩] [25, 26])
        (.skip)) <|
      .reg false [] [
        ⟨(some 27), .mv, [.t 5], .none, none, none⟩,
        ⟨(some 28), .mv, [.t 7], .none, none, none⟩,
        ⟨(some 29), (.bin .add), [.t 27, .t 28], .none, none, none⟩,
        ⟨(some 5), .mv, [.t 29], .none, none, none⟩] [27, 28, 29, 7])) <|
    .reg false [] [
      ⟨(some 14), .mv, [.t 6], .none, none, none⟩,
      ⟨(some 15), (.bin .sub), [.t 14, .c (.int .i64 1)], .none, none, none⟩,
      ⟨(some 6), .mv, [.t 15], .none, none, none⟩] [14, 15])
def F48 : AFun :=
  { nargs := 2, keep := false, res := [.tmp 4], body :=
    .seq (.reg false [] [⟨(some 4), .mv, [.c (.str [])], .none, none, none⟩] [4]) <|
    .seq (.reg false [] [⟨(some 5), .mv, [.c (.str [])], .none, none, none⟩] []) <|
    .seq (.seq (.reg false [] [
        ⟨(some 8), .mv, [.t 0], .none, none, none⟩,
        ⟨(some 9), .mv, [.t 1], .none, none, none⟩,
        ⟨(some 10), (.bin .add), [.t 9, .c (.int .i64 1)], .none, none, none⟩,
        ⟨(some 11), (.call 36), [.t 8, .t 10], .sh, none, none⟩,
        ⟨(some 6), .mv, [.t 11], .none, none, none⟩] [8, 9, 10, 11, 1]) <|
     .block 0 (L48_0)) <|
    .seq (.reg false [] [
       ⟨(some 30), .mv, [.t 5], .none, none, none⟩,
       ⟨(some 4), .mv, [.t 30], .none, none, none⟩] [30, 5]) <|
    .ret }

/- slices.Equal[[]string,string] -/
def L49_0 : ACode :=
  .loop [14, 15, 5, 16, 17, 18, 19, 20, 21, 22, 23, 24, 4, 25] (.seq (.reg false [] [⟨(some 14), (.bin .lss), [.t 13, .t 12], .none, none, none⟩] []) <|
    .seq (.cond (.t 14) (.skip)
      (.exit 0)) <|
    .seq (.block 1 (.seq (.reg false [] [
         ⟨(some 15), .mv, [.t 13], .none, none, none⟩,
         ⟨(some 5), .mv, [.t 15], .none, none, none⟩] [15]) <|
      .seq (.reg true [] [
         ⟨(some 16), .mv, [.t 0], .none, none, none⟩,
         ⟨(some 17), .mv, [.t 5], .none, none, none⟩,
         ⟨(some 18), (.ia 1), [.t 16, .t 17], .none, none, none⟩,
         ⟨(some 19), (.ld false 1), [.t 18], .none, none, none⟩,
         ⟨(some 20), .mv, [.t 1], .none, none, none⟩,
         ⟨(some 21), .mv, [.t 5], .none, none, none⟩,
         ⟨(some 22), (.ia 1), [.t 20, .t 21], .none, none, none⟩,
         ⟨(some 23), (.ld false 1), [.t 22], .none, none, none⟩,
         ⟨(some 24), (.bin .neq), [.t 19, .t 23], .none, none, none⟩] [16, 17, 18, 19, 20, 21, 22, 23, 5]) <|
      .cond (.t 24) (.seq (.reg false [] [⟨(some 4), .mv, [.c (.bool false)], .none, none, none⟩] []) <|
       .ret)
       (.skip))) <|
    .reg false [] [
      ⟨(some 25), (.bin .add), [.t 13, .c (.int .i64 1)], .none, none, none⟩,
      ⟨(some 13), .mv, [.t 25], .none, none, none⟩] [25])
def F49 : AFun :=
  { nargs := 2, keep := false, res := [.tmp 4], body :=
    .seq (.reg false [] [⟨(some 4), .mv, [.c (.bool false)], .none, none, none⟩] [4]) <|
    .seq (.seq (.reg false [] [
        ⟨(some 6), .mv, [.t 0], .none, none, none⟩,
        ⟨(some 7), (.len false), [.t 6], .none, none, none⟩,
        ⟨(some 8), .mv, [.t 1], .none, none, none⟩,
        ⟨(some 9), (.len false), [.t 8], .none, none, none⟩,
        ⟨(some 10), (.bin .neq), [.t 7, .t 9], .none, none, none⟩] [6, 7, 8, 9]) <|
     .cond (.t 10) (.seq (.reg false [] [⟨(some 4), .mv, [.c (.bool false)], .none, none, none⟩] []) <|
      .ret)
      (.skip)) <|
    .seq (.seq (.reg false [] [
        ⟨(some 11), .mv, [.t 0], .none, none, none⟩,
        ⟨(some 12), (.len false), [.t 11], .none, none, none⟩,
        ⟨(some 13), .mv, [.c (.int .i64 0)], .none, none, none⟩] [11]) <|
     .block 0 (L49_0)) <|
    .seq (.reg false [] [⟨(some 4), .mv, [.c (.bool true)], .none, none, none⟩] []) <|
    .ret }

/- bitext/bitextmake.Fragment -/
def L50_0 : ACode :=
  .loop [20, 21, 24, 25, 26, 13, 27, 28, 30, 29, 31, 32, 33, 34, 35, 36, 37, 39, 38, 40, 41, 42, 43, 44, 45, 46, 47, 48, 49, 51, 50, 52, 53, 54, 55, 56, 57, 58, 59, 60, 61, 62, 63, 64, 65, 66, 68, 67, 69, 70, 71, 72, 14, 73, 74, 75, 76, 77, 78, 79, 80, 81, 82, 83, 84, 85, 86, 87, 88, 89, 90, 91, 92, 93, 94, 95, 96, 97, 98, 99, 100, 101, 102, 103, 104, 105, 106, 107, 108, 109, 110, 111, 112, 113, 114, 22, 23] (.seq (.seq (.reg false [] [
        ⟨(some 20), .mv, [.t 12], .none, none, none⟩,
        ⟨(some 21), (.bin .gtr), [.t 20, .c (.int .i64 0)], .none, none, none⟩] [20]) <|
     .cond (.t 21) (.skip)
      (.exit 0)) <|
    .seq (.block 1 (.seq (.reg false [13] [
         ⟨(some 24), .mv, [.t 0], .none, none, none⟩,
         ⟨(some 25), (.call 48), [.t 24, .c (.int .i64 3)], .sh, none, none⟩,
         ⟨(some 26), (.build [.int .i64 0, .str [], .int .i64 0] [(0, 1), (1, 1)]), [.c (.int .i64 1), .t 25], .none, none, none⟩,
         ⟨(some 13), (.alloc [.int .i64 0, .str [], .int .i64 0]), [], (.lo 13), none, none⟩,
         ⟨none, (.st 3), [.t 13, .t 26], (.lo 13), none, none⟩] [24, 25, 26]) <|
      .seq (.seq (.reg false [] [
          ⟨(some 27), .mv, [.t 0], .none, none, none⟩,
          ⟨(some 28), (.call 36), [.t 27, .c (.int .i64 8)], .sh, none, none⟩] [27]) <|
       .block 2 (.seq (.seq (.reg false [] [
            ⟨(some 30), (.bin .eql), [.t 28, .c (.int .i64 0)], .none, none, none⟩,
            ⟨(some 29), .mv, [.t 30], .none, none, none⟩] [30]) <|
         .cond (.t 29) (.skip)
          (.reg false [] [
            ⟨(some 31), (.bin .eql), [.t 28, .c (.int .i64 1)], .none, none, none⟩,
            ⟨(some 29), .mv, [.t 31], .none, none, none⟩] [31])) <|
        .cond (.t 29) (.reg false [] [
           ⟨(some 32), (.mks 1 [.str []] 3 [0, 1, 2]), [.c (.str [110]), .c (.str [110, 97, 109, 101]), .c (.str [120, 49])], .none, none, none⟩,
           ⟨(some 33), .mv, [.t 0], .none, none, none⟩,
           ⟨(some 34), (.call 36), [.t 33, .c (.int .i64 3)], .sh, none, none⟩,
           ⟨(some 35), (.ia 1), [.t 32, .t 34], .none, none, none⟩,
           ⟨(some 36), (.ld false 1), [.t 35], .none, none, none⟩,
           ⟨(some 37), (.build [.int .i64 0, .str [], .int .i64 0] [(0, 1), (1, 1)]), [.c (.int .i64 5), .t 36], .none, none, none⟩,
           ⟨none, (.st 3), [.t 13, .t 37], (.lo 13), none, none⟩] [32, 33, 34, 35, 36, 37])
         (.seq (.reg false [] [
            ⟨(some 39), (.bin .eql), [.t 28, .c (.int .i64 2)], .none, none, none⟩,
            ⟨(some 38), .mv, [.t 39], .none, none, none⟩] [39]) <|
         .cond (.t 38) (.seq (.reg false [] [⟨(some 40), .mv, [.t 2], .none, none, none⟩] []) <|
          .cond (.t 40) (.seq (.reg false [] [
              ⟨(some 41), .mv, [.t 11], .none, none, none⟩,
              ⟨(some 42), (.bin .add), [.t 41, .c (.int .i64 1)], .none, none, none⟩,
              ⟨(some 11), .mv, [.t 42], .none, none, none⟩] [41, 42]) <|
           .reg false [] [
             ⟨(some 43), (.mks 1 [.str []] 2 [0, 1]), [.c (.str [98, 114]), .c (.str [105, 109, 103, 32, 97])], .none, none, none⟩,
             ⟨(some 44), .mv, [.t 0], .none, none, none⟩,
             ⟨(some 45), (.call 36), [.t 44, .c (.int .i64 2)], .sh, none, none⟩,
             ⟨(some 46), (.ia 1), [.t 43, .t 45], .none, none, none⟩,
             ⟨(some 47), (.ld false 1), [.t 46], .none, none, none⟩,
             ⟨(some 48), .mv, [.t 11], .none, none, none⟩,
             ⟨(some 49), (.build [.int .i64 0, .str [], .int .i64 0] [(0, 1), (1, 1), (2, 1)]), [.c (.int .i64 4), .t 47, .t 48], .none, none, none⟩,
             ⟨none, (.st 3), [.t 13, .t 49], (.lo 13), none, none⟩] [43, 44, 45, 46, 47, 48, 49])
           (.skip))
          (.seq (.seq (.reg false [] [
              ⟨(some 51), (.bin .eql), [.t 28, .c (.int .i64 3)], .none, none, none⟩,
              ⟨(some 50), .mv, [.t 51], .none, none, none⟩] [51]) <|
           .cond (.t 50) (.skip)
            (.reg false [] [
              ⟨(some 52), (.bin .eql), [.t 28, .c (.int .i64 4)], .none, none, none⟩,
              ⟨(some 50), .mv, [.t 52], .none, none, none⟩] [52])) <|
          .cond (.t 50) (.seq (.reg false [] [⟨(some 53), .mv, [.t 2], .none, none, none⟩] []) <|
           .cond (.t 53) (.seq (.reg false [] [
               ⟨(some 54), .mv, [.t 11], .none, none, none⟩,
               ⟨(some 55), (.bin .add), [.t 54, .c (.int .i64 1)], .none, none, none⟩,
               ⟨(some 11), .mv, [.t 55], .none, none, none⟩] [54, 55]) <|
            .seq (.reg false [] [
               ⟨(some 56), (.mks 1 [.str []] 3 [0, 1, 2]), [.c (.str [98]), .c (.str [105]), .c (.str [97, 32, 104, 61, 49])], .none, none, none⟩,
               ⟨(some 57), .mv, [.t 0], .none, none, none⟩,
               ⟨(some 58), (.call 36), [.t 57, .c (.int .i64 3)], .sh, none, none⟩,
               ⟨(some 59), (.ia 1), [.t 56, .t 58], .none, none, none⟩,
               ⟨(some 60), (.ld false 1), [.t 59], .none, none, none⟩,
               ⟨(some 61), .mv, [.t 11], .none, none, none⟩,
               ⟨(some 62), (.build [.int .i64 0, .str [], .int .i64 0] [(0, 1), (1, 1), (2, 1)]), [.c (.int .i64 2), .t 60, .t 61], .none, none, none⟩,
               ⟨none, (.st 3), [.t 13, .t 62], (.lo 13), none, none⟩] [56, 57, 58, 59, 60, 61, 62]) <|
            .reg false [] [
              ⟨(some 63), .mvo, [.t 10], .none, (some 10), none⟩,
              ⟨(some 64), (.ld true 3), [.t 13], (.lo 13), none, none⟩,
              ⟨(some 65), (.mks 3 [.int .i64 0, .str [], .int .i64 0] 1 [0]), [.t 64], .none, none, none⟩,
              ⟨(some 66), (.app false 3 32), [.t 63, .t 65], .none, (some 63), none⟩,
              ⟨(some 10), .mvo, [.t 66], .none, (some 66), none⟩] [63, 64, 65, 66])
            (.skip))
           (.seq (.seq (.reg false [] [
               ⟨(some 68), (.bin .eql), [.t 28, .c (.int .i64 5)], .none, none, none⟩,
               ⟨(some 67), .mv, [.t 68], .none, none, none⟩] [68]) <|
            .cond (.t 67) (.skip)
             (.reg false [] [
               ⟨(some 69), (.bin .eql), [.t 28, .c (.int .i64 6)], .none, none, none⟩,
               ⟨(some 67), .mv, [.t 69], .none, none, none⟩] [69, 28])) <|
           .cond (.t 67) (.seq (.reg false [] [
               ⟨(some 70), .mv, [.t 10], .none, none, none⟩,
               ⟨(some 71), (.len false), [.t 70], .none, none, none⟩,
               ⟨(some 72), (.bin .sub), [.t 71, .c (.int .i64 1)], .none, none, none⟩,
               ⟨(some 14), .mv, [.t 72], .none, none, none⟩] [70, 71, 72]) <|
            .seq (.reg false [] [
               ⟨(some 73), .mv, [.t 14], .none, none, none⟩,
               ⟨(some 74), (.bin .geq), [.t 73, .c (.int .i64 0)], .none, none, none⟩] [73]) <|
            .cond (.t 74) (.seq (.seq (.reg false [] [
                 ⟨(some 75), .mv, [.t 3], .none, none, none⟩,
                 ⟨(some 76), (.un .not), [.t 75], .none, none, none⟩] [75]) <|
              .cond (.t 76) (.reg false [] [
                 ⟨(some 77), .mv, [.t 0], .none, none, none⟩,
                 ⟨(some 78), .mv, [.t 14], .none, none, none⟩,
                 ⟨(some 79), (.bin .add), [.t 78, .c (.int .i64 1)], .none, none, none⟩,
                 ⟨(some 80), (.call 36), [.t 77, .t 79], .sh, none, none⟩,
                 ⟨(some 14), .mv, [.t 80], .none, none, none⟩] [77, 78, 79, 80])
               (.skip)) <|
             .seq (.reg true [] [
                ⟨(some 81), .mv, [.t 10], .none, none, none⟩,
                ⟨(some 82), .mv, [.t 14], .none, none, none⟩,
                ⟨(some 83), (.ia 3), [.t 81, .t 82], .none, none, none⟩,
                ⟨(some 84), (.fa 1), [.t 83], .none, none, none⟩,
                ⟨(some 85), (.ld false 1), [.t 84], .none, none, none⟩,
                ⟨(some 86), (.call 67), [.t 85], .none, none, none⟩,
                ⟨(some 87), .mv, [.t 10], .none, none, none⟩,
                ⟨(some 88), .mv, [.t 14], .none, none, none⟩,
                ⟨(some 89), (.ia 3), [.t 87, .t 88], .none, none, none⟩,
                ⟨(some 90), (.fa 2), [.t 89], .none, none, none⟩,
                ⟨(some 91), (.ld false 1), [.t 90], .none, none, none⟩,
                ⟨(some 92), (.build [.int .i64 0, .str [], .int .i64 0] [(0, 1), (1, 1), (2, 1)]), [.c (.int .i64 3), .t 86, .t 91], .none, none, none⟩,
                ⟨none, (.st 3), [.t 13, .t 92], (.lo 13), none, none⟩] [81, 82, 83, 84, 85, 86, 87, 88, 89, 90, 91, 92]) <|
             .reg true [] [
               ⟨(some 93), .mv, [.t 10], .none, none, none⟩,
               ⟨(some 94), .mv, [.t 14], .none, none, none⟩,
               ⟨(some 95), (.slc false 3 false true), [.t 93, .t 94], .none, none, none⟩,
               ⟨(some 96), (.app false 3 32), [.c (.sl .full 3 []), .t 95], .none, none, none⟩,
               ⟨(some 97), .mv, [.t 10], .none, none, none⟩,
               ⟨(some 98), .mv, [.t 14], .none, none, none⟩,
               ⟨(some 99), (.bin .add), [.t 98, .c (.int .i64 1)], .none, none, none⟩,
               ⟨(some 100), (.slc false 3 true false), [.t 97, .t 99], .none, none, none⟩,
               ⟨(some 101), (.app false 3 32), [.t 96, .t 100], .none, (some 96), none⟩,
               ⟨(some 10), .mvo, [.t 101], .none, (some 101), none⟩] [93, 94, 95, 96, 97, 98, 99, 100, 101, 14])
             (.seq (.reg false [] [
                ⟨(some 102), .mv, [.t 2], .none, none, none⟩,
                ⟨(some 103), .mv, [.t 102], .none, none, none⟩,
                ⟨(some 104), .mv, [.t 3], .none, none, (some (103, true))⟩,
                ⟨(some 105), (.un .not), [.t 104], .none, none, (some (103, true))⟩,
                ⟨(some 106), .pick, [.t 103, .t 105, .c (.bool false)], .none, none, none⟩] [102, 103, 104, 105]) <|
             .cond (.t 106) (.seq (.reg false [] [
                 ⟨(some 107), .mv, [.t 11], .none, none, none⟩,
                 ⟨(some 108), (.bin .add), [.t 107, .c (.int .i64 1)], .none, none, none⟩,
                 ⟨(some 11), .mv, [.t 108], .none, none, none⟩] [107, 108]) <|
              .reg false [] [
                ⟨(some 109), .mv, [.t 11], .none, none, none⟩,
                ⟨(some 110), (.build [.int .i64 0, .str [], .int .i64 0] [(0, 1), (1, 1), (2, 1)]), [.c (.int .i64 3), .c (.str [98]), .t 109], .none, none, none⟩,
                ⟨none, (.st 3), [.t 13, .t 110], (.lo 13), none, none⟩] [109, 110])
              (.skip)))
            (.skip)))))) <|
      .reg false [] [
        ⟨(some 111), .mv, [.t 9], .none, none, none⟩,
        ⟨(some 112), (.ld true 3), [.t 13], (.lo 13), none, none⟩,
        ⟨(some 113), (.mks 3 [.int .i64 0, .str [], .int .i64 0] 1 [0]), [.t 112], .none, none, none⟩,
        ⟨(some 114), (.call 68), [.t 111, .t 113], .none, none, none⟩,
        ⟨(some 9), .mvo, [.t 114], .none, (some 114), none⟩] [111, 112, 113, 114, 13])) <|
    .reg false [] [
      ⟨(some 22), .mv, [.t 12], .none, none, none⟩,
      ⟨(some 23), (.bin .sub), [.t 22, .c (.int .i64 1)], .none, none, none⟩,
      ⟨(some 12), .mv, [.t 23], .none, none, none⟩] [22, 23])
def L50_1 : ACode :=
  .loop [118, 119, 120, 121, 122, 125, 126, 127, 128, 129, 130, 131, 132, 133, 134, 135, 136, 137, 138, 139, 123, 124] (.seq (.seq (.reg false [] [
        ⟨(some 118), .mv, [.t 15], .none, none, none⟩,
        ⟨(some 119), (.bin .geq), [.t 118, .c (.int .i64 0)], .none, none, none⟩,
        ⟨(some 120), .mv, [.t 119], .none, none, none⟩,
        ⟨(some 121), .mv, [.t 3], .none, none, (some (120, true))⟩,
        ⟨(some 122), .pick, [.t 120, .t 121, .c (.bool false)], .none, none, none⟩] [118, 119, 120, 121]) <|
     .cond (.t 122) (.skip)
      (.exit 3)) <|
    .seq (.block 4 (.reg true [] [
        ⟨(some 125), .mvo, [.t 9], .none, (some 9), none⟩,
        ⟨(some 126), .mv, [.t 10], .none, none, none⟩,
        ⟨(some 127), .mv, [.t 15], .none, none, none⟩,
        ⟨(some 128), (.ia 3), [.t 126, .t 127], .none, none, none⟩,
        ⟨(some 129), (.fa 1), [.t 128], .none, none, none⟩,
        ⟨(some 130), (.ld false 1), [.t 129], .none, none, none⟩,
        ⟨(some 131), (.call 67), [.t 130], .none, none, none⟩,
        ⟨(some 132), .mv, [.t 10], .none, none, none⟩,
        ⟨(some 133), .mv, [.t 15], .none, none, none⟩,
        ⟨(some 134), (.ia 3), [.t 132, .t 133], .none, none, none⟩,
        ⟨(some 135), (.fa 2), [.t 134], .none, none, none⟩,
        ⟨(some 136), (.ld false 1), [.t 135], .none, none, none⟩,
        ⟨(some 137), (.build [.int .i64 0, .str [], .int .i64 0] [(0, 1), (1, 1), (2, 1)]), [.c (.int .i64 3), .t 131, .t 136], .none, none, none⟩,
        ⟨(some 138), (.mks 3 [.int .i64 0, .str [], .int .i64 0] 1 [0]), [.t 137], .none, none, none⟩,
        ⟨(some 139), (.app false 3 32), [.t 125, .t 138], .none, (some 125), none⟩,
        ⟨(some 9), .mvo, [.t 139], .none, (some 139), none⟩] [125, 126, 127, 128, 129, 130, 131, 132, 133, 134, 135, 136, 137, 138, 139])) <|
    .reg false [] [
      ⟨(some 123), .mv, [.t 15], .none, none, none⟩,
      ⟨(some 124), (.bin .sub), [.t 123, .c (.int .i64 1)], .none, none, none⟩,
      ⟨(some 15), .mv, [.t 124], .none, none, none⟩] [123, 124])
def F50 : AFun :=
  { nargs := 4, keep := false, res := [.tmp 8], body :=
    .seq (.reg false [] [⟨(some 8), .mv, [.c (.sl .full 3 [])], .none, none, none⟩] [8]) <|
    .seq (.reg false [] [
       ⟨(some 9), .mv, [.c (.sl .full 3 [])], .none, none, none⟩,
       ⟨(some 10), .mv, [.c (.sl .full 3 [])], .none, none, none⟩] []) <|
    .seq (.reg false [] [⟨(some 11), .mv, [.c (.int .i64 0)], .none, none, none⟩] []) <|
    .seq (.seq (.reg false [] [
        ⟨(some 16), .mv, [.t 0], .none, none, none⟩,
        ⟨(some 17), .mv, [.t 1], .none, none, none⟩,
        ⟨(some 18), (.bin .add), [.t 17, .c (.int .i64 1)], .none, none, none⟩,
        ⟨(some 19), (.call 36), [.t 16, .t 18], .sh, none, none⟩,
        ⟨(some 12), .mv, [.t 19], .none, none, none⟩] [16, 17, 18, 19, 1]) <|
     .block 0 (L50_0)) <|
    .seq (.seq (.reg false [] [
        ⟨(some 115), .mv, [.t 10], .none, none, none⟩,
        ⟨(some 116), (.len false), [.t 115], .none, none, none⟩,
        ⟨(some 117), (.bin .sub), [.t 116, .c (.int .i64 1)], .none, none, none⟩,
        ⟨(some 15), .mv, [.t 117], .none, none, none⟩] [115, 116, 117]) <|
     .block 3 (L50_1)) <|
    .seq (.reg false [] [
       ⟨(some 140), .mv, [.t 9], .none, none, none⟩,
       ⟨(some 8), .mvo, [.t 140], .none, (some 140), none⟩] [140, 9]) <|
    .ret }

/- bitext/bitextref1.Lower -/
def L51_0 : ACode :=
  .loop [10, 11, 4, 12, 13, 14, 15, 16, 17, 18, 19, 20, 21, 22, 23, 24, 25, 26, 27, 28, 29, 30] (.seq (.reg false [] [⟨(some 10), (.bin .lss), [.t 9, .t 8], .none, none, none⟩] []) <|
    .seq (.cond (.t 10) (.skip)
      (.exit 0)) <|
    .seq (.block 1 (.seq (.reg false [] [
         ⟨(some 11), .mv, [.t 9], .none, none, none⟩,
         ⟨(some 4), .mv, [.t 11], .none, none, none⟩] [11]) <|
      .seq (.reg false [] [
         ⟨(some 12), .mv, [.t 3], .none, none, none⟩,
         ⟨(some 13), .mv, [.t 4], .none, none, none⟩,
         ⟨(some 14), (.ia 1), [.t 12, .t 13], .none, none, none⟩,
         ⟨(some 15), (.ld false 1), [.t 14], .sh, none, none⟩,
         ⟨(some 16), (.bin .geq), [.t 15, .c (.int .u8 65)], .none, none, none⟩,
         ⟨(some 17), .mv, [.t 16], .none, none, none⟩,
         ⟨(some 18), .mv, [.t 3], .none, none, (some (17, true))⟩,
         ⟨(some 19), .mv, [.t 4], .none, none, (some (17, true))⟩,
         ⟨(some 20), (.ia 1), [.t 18, .t 19], .none, none, (some (17, true))⟩,
         ⟨(some 21), (.ld false 1), [.t 20], .sh, none, (some (17, true))⟩,
         ⟨(some 22), (.bin .leq), [.t 21, .c (.int .u8 90)], .none, none, (some (17, true))⟩,
         ⟨(some 23), .pick, [.t 17, .t 22, .c (.bool false)], .none, none, none⟩] [12, 13, 14, 15, 16, 17, 18, 19, 20, 21, 22]) <|
      .cond (.t 23) (.reg false [] [
         ⟨(some 24), .mv, [.t 3], .none, none, none⟩,
         ⟨(some 25), .mv, [.t 4], .none, none, none⟩,
         ⟨(some 26), (.ia 1), [.t 24, .t 25], .none, none, none⟩,
         ⟨(some 27), (.ld false 1), [.t 26], .sh, none, none⟩,
         ⟨(some 28), (.bin .add), [.t 27, .c (.int .u8 32)], .none, none, none⟩,
         ⟨(some 29), (.ia 1), [.t 24, .t 25], .none, none, none⟩,
         ⟨none, (.st 1), [.t 29, .t 28], .sh, none, none⟩] [24, 25, 26, 27, 28, 29, 4])
       (.skip))) <|
    .reg false [] [
      ⟨(some 30), (.bin .add), [.t 9, .c (.int .i64 1)], .none, none, none⟩,
      ⟨(some 9), .mv, [.t 30], .none, none, none⟩] [30])
def F51 : AFun :=
  { nargs := 1, keep := false, res := [.tmp 2], body :=
    .seq (.reg false [] [⟨(some 2), .mv, [.c (.str [])], .none, none, none⟩] [2]) <|
    .seq (.reg false [] [
       ⟨(some 5), .mv, [.t 0], .none, none, none⟩,
       ⟨(some 6), .s2b, [.t 5], .sh, none, none⟩,
       ⟨(some 3), .mvo, [.t 6], .none, (some 6), none⟩] [5, 6, 0]) <|
    .seq (.seq (.reg false [] [
        ⟨(some 7), .mv, [.t 3], .none, none, none⟩,
        ⟨(some 8), (.len false), [.t 7], .none, none, none⟩,
        ⟨(some 9), .mv, [.c (.int .i64 0)], .none, none, none⟩] [7]) <|
     .block 0 (L51_0)) <|
    .seq (.reg false [] [
       ⟨(some 31), .mv, [.t 3], .none, none, none⟩,
       ⟨(some 32), .b2s, [.t 31], .sh, none, none⟩,
       ⟨(some 2), .mv, [.t 32], .none, none, none⟩] [31, 32, 3]) <|
    .ret }

/- bitext/token.next -/
def L61_0 : ACode :=
  .loop [18, 19, 20, 21, 22, 23, 24, 25, 26, 27, 28, 29, 30] (.seq (.seq (.reg false [] [
        ⟨(some 18), .mv, [.t 4], .none, none, none⟩,
        ⟨(some 19), .mv, [.t 0], .none, none, none⟩,
        ⟨(some 20), (.len true), [.t 19], .none, none, none⟩,
        ⟨(some 21), (.bin .lss), [.t 18, .t 20], .none, none, none⟩,
        ⟨(some 22), .mv, [.t 21], .none, none, none⟩,
        ⟨(some 23), .mv, [.t 0], .none, none, (some (22, true))⟩,
        ⟨(some 24), .mv, [.t 4], .none, none, (some (22, true))⟩,
        ⟨(some 25), .ixs, [.t 23, .t 24], .none, none, (some (22, true))⟩,
        ⟨(some 26), (.call 75), [.t 25], .none, none, (some (22, true))⟩,
        ⟨(some 27), (.bin .eql), [.t 26, .c (.int .i64 2)], .none, none, (some (22, true))⟩,
        ⟨(some 28), .pick, [.t 22, .t 27, .c (.bool false)], .none, none, none⟩] [18, 19, 20, 21, 22, 23, 24, 25, 26, 27]) <|
     .cond (.t 28) (.skip)
      (.exit 1)) <|
    .block 2 (.reg false [] [
       ⟨(some 29), .mv, [.t 4], .none, none, none⟩,
       ⟨(some 30), (.bin .add), [.t 29, .c (.int .i64 1)], .none, none, none⟩,
       ⟨(some 4), .mv, [.t 30], .none, none, none⟩] [29, 30]))
def F61 : AFun :=
  { nargs := 1, keep := false, res := [.tmp 2, .tmp 3], body :=
    .seq (.reg false [] [
       ⟨(some 2), .mv, [.c (.int .i64 0)], .none, none, none⟩,
       ⟨(some 3), .mv, [.c (.int .i64 0)], .none, none, none⟩] [2, 3]) <|
    .seq (.seq (.reg false [] [
        ⟨(some 5), .mv, [.t 0], .none, none, none⟩,
        ⟨(some 6), .ixs, [.t 5, .c (.int .i64 0)], .none, none, none⟩,
        ⟨(some 7), (.call 75), [.t 6], .none, none, none⟩] [5, 6]) <|
     .block 0 (.seq (.reg false [] [
         ⟨(some 9), (.bin .eql), [.t 7, .c (.int .i64 4)], .none, none, none⟩,
         ⟨(some 8), .mv, [.t 9], .none, none, none⟩] [9]) <|
      .cond (.t 8) (.seq (.reg false [] [
          ⟨(some 10), .mv, [.t 0], .none, none, none⟩,
          ⟨(some 11), (.call 76), [.t 10, .c (.str [39, 45]), .c (.fn 77 [])], .none, none, none⟩,
          ⟨(some 2), .mv, [.c (.int .i64 6)], .none, none, none⟩,
          ⟨(some 3), .mv, [.t 11], .none, none, none⟩] [10, 11, 0]) <|
       .ret)
       (.seq (.reg false [] [
          ⟨(some 13), (.bin .eql), [.t 7, .c (.int .i64 3)], .none, none, none⟩,
          ⟨(some 12), .mv, [.t 13], .none, none, none⟩] [13]) <|
       .cond (.t 12) (.seq (.reg false [] [
           ⟨(some 14), .mv, [.t 0], .none, none, none⟩,
           ⟨(some 15), (.call 76), [.t 14, .c (.str [46, 44]), .c (.fn 78 [])], .none, none, none⟩,
           ⟨(some 2), .mv, [.c (.int .i64 7)], .none, none, none⟩,
           ⟨(some 3), .mv, [.t 15], .none, none, none⟩] [14, 15, 0]) <|
        .ret)
        (.seq (.reg false [] [
           ⟨(some 17), (.bin .eql), [.t 7, .c (.int .i64 2)], .none, none, none⟩,
           ⟨(some 16), .mv, [.t 17], .none, none, none⟩] [17, 7]) <|
        .cond (.t 16) (.seq (.reg false [] [⟨(some 4), .mv, [.c (.int .i64 1)], .none, none, none⟩] []) <|
         .seq (.block 1 (L61_0)) <|
         .seq (.reg false [] [
            ⟨(some 31), .mv, [.t 4], .none, none, none⟩,
            ⟨(some 2), .mv, [.c (.int .i64 8)], .none, none, none⟩,
            ⟨(some 3), .mv, [.t 31], .none, none, none⟩] [31, 4]) <|
         .ret)
         (.skip))))) <|
    .seq (.reg false [] [
       ⟨(some 2), .mv, [.c (.int .i64 9)], .none, none, none⟩,
       ⟨(some 3), .mv, [.c (.int .i64 1)], .none, none, none⟩] []) <|
    .ret }

/- bitext/class.Lower -/
def L62_0 : ACode :=
  .loop [11, 12, 13, 14, 4, 5, 15, 16, 17, 18, 19, 20, 21, 22, 23, 24, 25, 26, 27] (.seq (.reg false [] [⟨(some 11), (.bin .lss), [.t 10, .t 9], .none, none, none⟩] []) <|
    .seq (.cond (.t 11) (.skip)
      (.exit 0)) <|
    .seq (.block 1 (.seq (.reg false [] [
         ⟨(some 12), .mv, [.t 10], .none, none, none⟩,
         ⟨(some 13), (.ia 1), [.t 8, .t 10], .none, none, none⟩,
         ⟨(some 14), (.ld false 1), [.t 13], .sh, none, none⟩,
         ⟨(some 4), .mv, [.t 12], .none, none, none⟩,
         ⟨(some 5), .mv, [.t 14], .none, none, none⟩] [12, 13, 14]) <|
      .seq (.reg false [] [
         ⟨(some 15), .mv, [.t 5], .none, none, none⟩,
         ⟨(some 16), (.bin .geq), [.t 15, .c (.int .u8 65)], .none, none, none⟩,
         ⟨(some 17), .mv, [.t 16], .none, none, none⟩,
         ⟨(some 18), .mv, [.t 5], .none, none, (some (17, true))⟩,
         ⟨(some 19), (.bin .leq), [.t 18, .c (.int .u8 90)], .none, none, (some (17, true))⟩,
         ⟨(some 20), .pick, [.t 17, .t 19, .c (.bool false)], .none, none, none⟩] [15, 16, 17, 18, 19]) <|
      .cond (.t 20) (.reg false [] [
         ⟨(some 21), .mv, [.t 3], .none, none, none⟩,
         ⟨(some 22), .mv, [.t 4], .none, none, none⟩,
         ⟨(some 23), .mv, [.t 5], .none, none, none⟩,
         ⟨(some 24), (.bin .add), [.t 23, .c (.int .u8 97)], .none, none, none⟩,
         ⟨(some 25), (.bin .sub), [.t 24, .c (.int .u8 65)], .none, none, none⟩,
         ⟨(some 26), (.ia 1), [.t 21, .t 22], .none, none, none⟩,
         ⟨none, (.st 1), [.t 26, .t 25], .sh, none, none⟩] [21, 22, 23, 24, 25, 26, 4, 5])
       (.skip))) <|
    .reg false [] [
      ⟨(some 27), (.bin .add), [.t 10, .c (.int .i64 1)], .none, none, none⟩,
      ⟨(some 10), .mv, [.t 27], .none, none, none⟩] [27])
def F62 : AFun :=
  { nargs := 1, keep := false, res := [.tmp 2], body :=
    .seq (.reg false [] [⟨(some 2), .mv, [.c (.str [])], .none, none, none⟩] [2]) <|
    .seq (.reg false [] [
       ⟨(some 6), .mv, [.t 0], .none, none, none⟩,
       ⟨(some 7), .s2b, [.t 6], .sh, none, none⟩,
       ⟨(some 3), .mvo, [.t 7], .none, (some 7), none⟩] [6, 7, 0]) <|
    .seq (.seq (.reg false [] [
        ⟨(some 8), .mv, [.t 3], .none, none, none⟩,
        ⟨(some 9), (.len false), [.t 8], .none, none, none⟩,
        ⟨(some 10), .mv, [.c (.int .i64 0)], .none, none, none⟩] []) <|
     .block 0 (L62_0)) <|
    .seq (.reg false [] [
       ⟨(some 28), .mv, [.t 3], .none, none, none⟩,
       ⟨(some 29), .b2s, [.t 28], .sh, none, none⟩,
       ⟨(some 2), .mv, [.t 29], .none, none, none⟩] [28, 29, 3]) <|
    .ret }

/- bitext/bitextref11.word -/
def L63_0 : ACode :=
  .loop [14, 15, 16, 17, 18, 19, 20, 21, 4, 22, 23, 24, 25, 26, 27, 28, 29, 30, 31, 32, 33, 34, 35, 36, 37, 38, 39, 40, 41, 42, 43, 44, 45, 46, 47, 48, 49, 50, 51, 5, 52, 53, 54, 55, 56, 57, 58, 59] (.seq (.seq (.reg false [] [
        ⟨(some 14), .mv, [.t 3], .none, none, none⟩,
        ⟨(some 15), .mv, [.t 0], .none, none, none⟩,
        ⟨(some 16), (.len true), [.t 15], .none, none, none⟩,
        ⟨(some 17), (.bin .lss), [.t 14, .t 16], .none, none, none⟩] [14, 15, 16]) <|
     .cond (.t 17) (.skip)
      (.exit 0)) <|
    .block 1 (.seq (.reg false [] [
        ⟨(some 18), .mv, [.t 0], .none, none, none⟩,
        ⟨(some 19), .mv, [.t 3], .none, none, none⟩,
        ⟨(some 20), .ixs, [.t 18, .t 19], .none, none, none⟩,
        ⟨(some 21), (.call 79), [.t 20], .none, none, none⟩,
        ⟨(some 4), .mv, [.t 21], .none, none, none⟩] [18, 19, 20, 21]) <|
     .seq (.seq (.reg false [] [
         ⟨(some 22), .mv, [.t 4], .none, none, none⟩,
         ⟨(some 23), (.bin .eql), [.t 22, .c (.int .i64 4)], .none, none, none⟩,
         ⟨(some 24), .mv, [.t 23], .none, none, none⟩,
         ⟨(some 25), .mv, [.t 4], .none, none, (some (24, false))⟩,
         ⟨(some 26), (.bin .eql), [.t 25, .c (.int .i64 3)], .none, none, (some (24, false))⟩,
         ⟨(some 27), .pick, [.t 24, .c (.bool true), .t 26], .none, none, none⟩] [22, 23, 24, 25, 26, 4]) <|
      .cond (.t 27) (.seq (.reg false [] [
          ⟨(some 28), .mv, [.t 3], .none, none, none⟩,
          ⟨(some 29), (.bin .add), [.t 28, .c (.int .i64 1)], .none, none, none⟩,
          ⟨(some 3), .mv, [.t 29], .none, none, none⟩] [28, 29]) <|
       .exit 1)
       (.skip)) <|
     .seq (.seq (.reg false [] [
         ⟨(some 30), .mv, [.t 0], .none, none, none⟩,
         ⟨(some 31), .mv, [.t 3], .none, none, none⟩,
         ⟨(some 32), .ixs, [.t 30, .t 31], .none, none, none⟩,
         ⟨(some 33), (.bin .eql), [.t 32, .c (.int .u8 39)], .none, none, none⟩,
         ⟨(some 34), .mv, [.t 33], .none, none, none⟩,
         ⟨(some 35), .mv, [.t 0], .none, none, (some (34, false))⟩,
         ⟨(some 36), .mv, [.t 3], .none, none, (some (34, false))⟩,
         ⟨(some 37), .ixs, [.t 35, .t 36], .none, none, (some (34, false))⟩,
         ⟨(some 38), (.bin .eql), [.t 37, .c (.int .u8 45)], .none, none, (some (34, false))⟩,
         ⟨(some 39), .pick, [.t 34, .c (.bool true), .t 38], .none, none, none⟩,
         ⟨(some 40), .mv, [.t 39], .none, none, none⟩,
         ⟨(some 41), .mv, [.t 3], .none, none, (some (40, true))⟩,
         ⟨(some 42), (.bin .add), [.t 41, .c (.int .i64 1)], .none, none, (some (40, true))⟩,
         ⟨(some 43), .mv, [.t 0], .none, none, (some (40, true))⟩,
         ⟨(some 44), (.len true), [.t 43], .none, none, (some (40, true))⟩,
         ⟨(some 45), (.bin .lss), [.t 42, .t 44], .none, none, (some (40, true))⟩,
         ⟨(some 46), .pick, [.t 40, .t 45, .c (.bool false)], .none, none, none⟩] [30, 31, 32, 33, 34, 35, 36, 37, 38, 39, 40, 41, 42, 43, 44, 45]) <|
      .cond (.t 46) (.seq (.reg false [] [
          ⟨(some 47), .mv, [.t 0], .none, none, none⟩,
          ⟨(some 48), .mv, [.t 3], .none, none, none⟩,
          ⟨(some 49), (.bin .add), [.t 48, .c (.int .i64 1)], .none, none, none⟩,
          ⟨(some 50), .ixs, [.t 47, .t 49], .none, none, none⟩,
          ⟨(some 51), (.call 79), [.t 50], .none, none, none⟩,
          ⟨(some 5), .mv, [.t 51], .none, none, none⟩] [47, 48, 49, 50, 51]) <|
       .seq (.reg false [] [
          ⟨(some 52), .mv, [.t 5], .none, none, none⟩,
          ⟨(some 53), (.bin .eql), [.t 52, .c (.int .i64 4)], .none, none, none⟩,
          ⟨(some 54), .mv, [.t 53], .none, none, none⟩,
          ⟨(some 55), .mv, [.t 5], .none, none, (some (54, false))⟩,
          ⟨(some 56), (.bin .eql), [.t 55, .c (.int .i64 3)], .none, none, (some (54, false))⟩,
          ⟨(some 57), .pick, [.t 54, .c (.bool true), .t 56], .none, none, none⟩] [52, 53, 54, 55, 56, 5]) <|
       .cond (.t 57) (.seq (.reg false [] [
           ⟨(some 58), .mv, [.t 3], .none, none, none⟩,
           ⟨(some 59), (.bin .add), [.t 58, .c (.int .i64 2)], .none, none, none⟩,
           ⟨(some 3), .mv, [.t 59], .none, none, none⟩] [58, 59]) <|
        .exit 1)
        (.skip))
       (.skip)) <|
     .exit 0))
def F63 : AFun :=
  { nargs := 1, keep := false, res := [.tmp 2], body :=
    .seq (.reg false [] [⟨(some 2), .mv, [.c (.int .i64 0)], .none, none, none⟩] [2]) <|
    .seq (.seq (.reg false [] [
        ⟨(some 6), .mv, [.t 0], .none, none, none⟩,
        ⟨(some 7), (.bin .eql), [.t 6, .c (.str [])], .none, none, none⟩,
        ⟨(some 8), .mv, [.t 7], .none, none, none⟩,
        ⟨(some 9), .mv, [.t 0], .none, none, (some (8, false))⟩,
        ⟨(some 10), .ixs, [.t 9, .c (.int .i64 0)], .none, none, (some (8, false))⟩,
        ⟨(some 11), (.call 79), [.t 10], .none, none, (some (8, false))⟩,
        ⟨(some 12), (.bin .neq), [.t 11, .c (.int .i64 4)], .none, none, (some (8, false))⟩,
        ⟨(some 13), .pick, [.t 8, .c (.bool true), .t 12], .none, none, none⟩] [6, 7, 8, 9, 10, 11, 12]) <|
     .cond (.t 13) (.seq (.reg false [] [⟨(some 2), .mv, [.c (.int .i64 0)], .none, none, none⟩] []) <|
      .ret)
      (.skip)) <|
    .seq (.reg false [] [⟨(some 3), .mv, [.c (.int .i64 1)], .none, none, none⟩] []) <|
    .seq (.block 0 (L63_0)) <|
    .seq (.reg false [] [
       ⟨(some 60), .mv, [.t 3], .none, none, none⟩,
       ⟨(some 2), .mv, [.t 60], .none, none, none⟩] [60, 3]) <|
    .ret }

/- bitext/bitextref11.number -/
def L64_0 : ACode :=
  .loop [12, 13, 14, 15, 16, 17, 18, 19, 20, 21, 22, 23, 24, 25, 26, 27, 28, 29, 30, 31, 32, 33, 34, 35, 36, 37, 38, 39, 40, 41, 42, 43, 44, 45, 46, 47, 48, 49] (.seq (.seq (.reg false [] [
        ⟨(some 12), .mv, [.t 3], .none, none, none⟩,
        ⟨(some 13), .mv, [.t 0], .none, none, none⟩,
        ⟨(some 14), (.len true), [.t 13], .none, none, none⟩,
        ⟨(some 15), (.bin .lss), [.t 12, .t 14], .none, none, none⟩] [12, 13, 14]) <|
     .cond (.t 15) (.skip)
      (.exit 0)) <|
    .block 1 (.seq (.seq (.reg false [] [
         ⟨(some 16), .mv, [.t 0], .none, none, none⟩,
         ⟨(some 17), .mv, [.t 3], .none, none, none⟩,
         ⟨(some 18), .ixs, [.t 16, .t 17], .none, none, none⟩,
         ⟨(some 19), (.call 79), [.t 18], .none, none, none⟩,
         ⟨(some 20), (.bin .eql), [.t 19, .c (.int .i64 3)], .none, none, none⟩] [16, 17, 18, 19]) <|
      .cond (.t 20) (.seq (.reg false [] [
          ⟨(some 21), .mv, [.t 3], .none, none, none⟩,
          ⟨(some 22), (.bin .add), [.t 21, .c (.int .i64 1)], .none, none, none⟩,
          ⟨(some 3), .mv, [.t 22], .none, none, none⟩] [21, 22]) <|
       .exit 1)
       (.skip)) <|
     .seq (.seq (.reg false [] [
         ⟨(some 23), .mv, [.t 0], .none, none, none⟩,
         ⟨(some 24), .mv, [.t 3], .none, none, none⟩,
         ⟨(some 25), .ixs, [.t 23, .t 24], .none, none, none⟩,
         ⟨(some 26), (.bin .eql), [.t 25, .c (.int .u8 46)], .none, none, none⟩,
         ⟨(some 27), .mv, [.t 26], .none, none, none⟩,
         ⟨(some 28), .mv, [.t 0], .none, none, (some (27, false))⟩,
         ⟨(some 29), .mv, [.t 3], .none, none, (some (27, false))⟩,
         ⟨(some 30), .ixs, [.t 28, .t 29], .none, none, (some (27, false))⟩,
         ⟨(some 31), (.bin .eql), [.t 30, .c (.int .u8 44)], .none, none, (some (27, false))⟩,
         ⟨(some 32), .pick, [.t 27, .c (.bool true), .t 31], .none, none, none⟩,
         ⟨(some 33), .mv, [.t 32], .none, none, none⟩,
         ⟨(some 34), .mv, [.t 3], .none, none, (some (33, true))⟩,
         ⟨(some 35), (.bin .add), [.t 34, .c (.int .i64 1)], .none, none, (some (33, true))⟩,
         ⟨(some 36), .mv, [.t 0], .none, none, (some (33, true))⟩,
         ⟨(some 37), (.len true), [.t 36], .none, none, (some (33, true))⟩,
         ⟨(some 38), (.bin .lss), [.t 35, .t 37], .none, none, (some (33, true))⟩,
         ⟨(some 39), .pick, [.t 33, .t 38, .c (.bool false)], .none, none, none⟩,
         ⟨(some 40), .mv, [.t 39], .none, none, none⟩,
         ⟨(some 41), .mv, [.t 0], .none, none, (some (40, true))⟩,
         ⟨(some 42), .mv, [.t 3], .none, none, (some (40, true))⟩,
         ⟨(some 43), (.bin .add), [.t 42, .c (.int .i64 1)], .none, none, (some (40, true))⟩,
         ⟨(some 44), .ixs, [.t 41, .t 43], .none, none, (some (40, true))⟩,
         ⟨(some 45), (.call 79), [.t 44], .none, none, (some (40, true))⟩,
         ⟨(some 46), (.bin .eql), [.t 45, .c (.int .i64 3)], .none, none, (some (40, true))⟩,
         ⟨(some 47), .pick, [.t 40, .t 46, .c (.bool false)], .none, none, none⟩] [23, 24, 25, 26, 27, 28, 29, 30, 31, 32, 33, 34, 35, 36, 37, 38, 39, 40, 41, 42, 43, 44, 45, 46]) <|
      .cond (.t 47) (.seq (.reg false [] [
          ⟨(some 48), .mv, [.t 3], .none, none, none⟩,
          ⟨(some 49), (.bin .add), [.t 48, .c (.int .i64 2)], .none, none, none⟩,
          ⟨(some 3), .mv, [.t 49], .none, none, none⟩] [48, 49]) <|
       .exit 1)
       (.skip)) <|
     .exit 0))
def F64 : AFun :=
  { nargs := 1, keep := false, res := [.tmp 2], body :=
    .seq (.reg false [] [⟨(some 2), .mv, [.c (.int .i64 0)], .none, none, none⟩] [2]) <|
    .seq (.seq (.reg false [] [
        ⟨(some 4), .mv, [.t 0], .none, none, none⟩,
        ⟨(some 5), (.bin .eql), [.t 4, .c (.str [])], .none, none, none⟩,
        ⟨(some 6), .mv, [.t 5], .none, none, none⟩,
        ⟨(some 7), .mv, [.t 0], .none, none, (some (6, false))⟩,
        ⟨(some 8), .ixs, [.t 7, .c (.int .i64 0)], .none, none, (some (6, false))⟩,
        ⟨(some 9), (.call 79), [.t 8], .none, none, (some (6, false))⟩,
        ⟨(some 10), (.bin .neq), [.t 9, .c (.int .i64 3)], .none, none, (some (6, false))⟩,
        ⟨(some 11), .pick, [.t 6, .c (.bool true), .t 10], .none, none, none⟩] [4, 5, 6, 7, 8, 9, 10]) <|
     .cond (.t 11) (.seq (.reg false [] [⟨(some 2), .mv, [.c (.int .i64 0)], .none, none, none⟩] []) <|
      .ret)
      (.skip)) <|
    .seq (.reg false [] [⟨(some 3), .mv, [.c (.int .i64 1)], .none, none, none⟩] []) <|
    .seq (.block 0 (L64_0)) <|
    .seq (.reg false [] [
       ⟨(some 50), .mv, [.t 3], .none, none, none⟩,
       ⟨(some 2), .mv, [.t 50], .none, none, none⟩] [50, 3]) <|
    .ret }

/- bitext/bitextref11.blank -/
def L65_0 : ACode :=
  .loop [4, 5, 6, 7, 8, 9, 10, 11, 12, 13, 14, 15, 16] (.seq (.seq (.reg false [] [
        ⟨(some 4), .mv, [.t 3], .none, none, none⟩,
        ⟨(some 5), .mv, [.t 0], .none, none, none⟩,
        ⟨(some 6), (.len true), [.t 5], .none, none, none⟩,
        ⟨(some 7), (.bin .lss), [.t 4, .t 6], .none, none, none⟩,
        ⟨(some 8), .mv, [.t 7], .none, none, none⟩,
        ⟨(some 9), .mv, [.t 0], .none, none, (some (8, true))⟩,
        ⟨(some 10), .mv, [.t 3], .none, none, (some (8, true))⟩,
        ⟨(some 11), .ixs, [.t 9, .t 10], .none, none, (some (8, true))⟩,
        ⟨(some 12), (.call 79), [.t 11], .none, none, (some (8, true))⟩,
        ⟨(some 13), (.bin .eql), [.t 12, .c (.int .i64 2)], .none, none, (some (8, true))⟩,
        ⟨(some 14), .pick, [.t 8, .t 13, .c (.bool false)], .none, none, none⟩] [4, 5, 6, 7, 8, 9, 10, 11, 12, 13]) <|
     .cond (.t 14) (.skip)
      (.exit 0)) <|
    .block 1 (.reg false [] [
       ⟨(some 15), .mv, [.t 3], .none, none, none⟩,
       ⟨(some 16), (.bin .add), [.t 15, .c (.int .i64 1)], .none, none, none⟩,
       ⟨(some 3), .mv, [.t 16], .none, none, none⟩] [15, 16]))
def F65 : AFun :=
  { nargs := 1, keep := false, res := [.tmp 2], body :=
    .seq (.reg false [] [⟨(some 2), .mv, [.c (.int .i64 0)], .none, none, none⟩] [2]) <|
    .seq (.reg false [] [⟨(some 3), .mv, [.c (.int .i64 0)], .none, none, none⟩] []) <|
    .seq (.block 0 (L65_0)) <|
    .seq (.reg false [] [
       ⟨(some 17), .mv, [.t 3], .none, none, none⟩,
       ⟨(some 2), .mv, [.t 17], .none, none, none⟩] [17, 3]) <|
    .ret }

/- bitext/bitextmake.word -/
def F66 : AFun :=
  { nargs := 1, keep := false, res := [.tmp 2], body :=
    .seq (.reg false [] [⟨(some 2), .mv, [.c (.str [])], .none, none, none⟩] [2]) <|
    .seq (.reg false [] [
       ⟨(some 3), (.mks 1 [.str []] 24 [0, 1, 2, 3, 4, 5, 6, 7, 8, 9, 10, 11, 12, 13, 14, 15, 16, 17, 18, 19, 20, 21, 22, 23]), [.c (.str [114, 101, 100]), .c (.str [99, 97, 114]), .c (.str [82, 101, 100]), .c (.str [97]), .c (.str [99, 97, 114, 115]), .c (.str [49, 44, 53]), .c (.str [50, 50]), .c (.str [100, 111, 110, 39, 116]), .c (.str [46]), .c (.str [33]), .c (.str [32]), .c (.str [32, 32]), .c (.str [60]), .c (.str [38]), .c (.str [123]), .c (.str [34]), .c (.str [92]), .c (.str [120, 45, 121]), .c (.str [10]), .c (.str [61]), .c (.str [125]), .c (.str [62]), .c (.str [9]), .c (.str [98])], .none, none, none⟩,
       ⟨(some 4), .mv, [.t 0], .none, none, none⟩,
       ⟨(some 5), (.call 36), [.t 4, .c (.int .i64 24)], .sh, none, none⟩,
       ⟨(some 6), (.ia 1), [.t 3, .t 5], .none, none, none⟩,
       ⟨(some 7), (.ld false 1), [.t 6], .none, none, none⟩,
       ⟨(some 2), .mv, [.t 7], .none, none, none⟩] [3, 4, 5, 6, 7, 0]) <|
    .ret }

/- bitext/bitextref3.Name -/
def L67_0 : ACode :=
  .loop [4, 5, 6, 7, 10, 11, 12, 13, 14, 15, 16, 2, 8, 9] (.seq (.seq (.reg false [] [
        ⟨(some 4), .mv, [.t 3], .none, none, none⟩,
        ⟨(some 5), .mv, [.t 0], .none, none, none⟩,
        ⟨(some 6), (.len true), [.t 5], .none, none, none⟩,
        ⟨(some 7), (.bin .lss), [.t 4, .t 6], .none, none, none⟩] [4, 5, 6]) <|
     .cond (.t 7) (.skip)
      (.exit 0)) <|
    .seq (.block 1 (.seq (.reg false [] [
         ⟨(some 10), .mv, [.t 0], .none, none, none⟩,
         ⟨(some 11), .mv, [.t 3], .none, none, none⟩,
         ⟨(some 12), .ixs, [.t 10, .t 11], .none, none, none⟩,
         ⟨(some 13), (.bin .eql), [.t 12, .c (.int .u8 32)], .none, none, none⟩] [10, 11, 12]) <|
      .cond (.t 13) (.seq (.reg false [] [
          ⟨(some 14), .mv, [.t 0], .none, none, none⟩,
          ⟨(some 15), .mv, [.t 3], .none, none, none⟩,
          ⟨(some 16), (.slc true 0 false true), [.t 14, .t 15], .none, none, none⟩,
          ⟨(some 2), .mv, [.t 16], .none, none, none⟩] [14, 15, 16, 0, 3]) <|
       .ret)
       (.skip))) <|
    .reg false [] [
      ⟨(some 8), .mv, [.t 3], .none, none, none⟩,
      ⟨(some 9), (.bin .add), [.t 8, .c (.int .i64 1)], .none, none, none⟩,
      ⟨(some 3), .mv, [.t 9], .none, none, none⟩] [8, 9])
def F67 : AFun :=
  { nargs := 1, keep := false, res := [.tmp 2], body :=
    .seq (.reg false [] [⟨(some 2), .mv, [.c (.str [])], .none, none, none⟩] [2]) <|
    .seq (.seq (.reg false [] [⟨(some 3), .mv, [.c (.int .i64 0)], .none, none, none⟩] []) <|
     .block 0 (L67_0)) <|
    .seq (.reg false [] [
       ⟨(some 17), .mv, [.t 0], .none, none, none⟩,
       ⟨(some 2), .mv, [.t 17], .none, none, none⟩] [17, 0]) <|
    .ret }

/- bitext/bitextref3.Concat -/
def F68 : AFun :=
  { nargs := 2, keep := false, res := [.tmp 4], body :=
    .seq (.reg false [] [⟨(some 4), .mv, [.c (.sl .full 3 [])], .none, none, none⟩] [4]) <|
    .seq (.reg false [] [
       ⟨(some 5), .mv, [.t 0], .none, none, none⟩,
       ⟨(some 6), (.app false 3 32), [.c (.sl .full 3 []), .t 5], .none, none, none⟩,
       ⟨(some 7), .mv, [.t 1], .none, none, none⟩,
       ⟨(some 8), (.app false 3 32), [.t 6, .t 7], .none, (some 6), none⟩,
       ⟨(some 9), (.call 80), [.t 8], .none, none, none⟩,
       ⟨(some 4), .mvo, [.t 9], .none, (some 9), none⟩] [5, 6, 7, 8, 9, 0, 1]) <|
    .ret }

/- bitext/class.Of -/
def F75 : AFun :=
  { nargs := 1, keep := false, res := [.tmp 2], body :=
    .seq (.reg false [] [⟨(some 2), .mv, [.c (.int .i64 0)], .none, none, none⟩] [2]) <|
    .seq (.block 0 (.seq (.reg false [] [
         ⟨(some 4), .mv, [.t 0], .none, none, none⟩,
         ⟨(some 5), (.bin .eql), [.t 4, .c (.int .u8 9)], .none, none, none⟩,
         ⟨(some 6), .mv, [.t 5], .none, none, none⟩,
         ⟨(some 7), .mv, [.t 0], .none, none, (some (6, false))⟩,
         ⟨(some 8), (.bin .eql), [.t 7, .c (.int .u8 10)], .none, none, (some (6, false))⟩,
         ⟨(some 9), .pick, [.t 6, .c (.bool true), .t 8], .none, none, none⟩,
         ⟨(some 10), .mv, [.t 9], .none, none, none⟩,
         ⟨(some 11), .mv, [.t 0], .none, none, (some (10, false))⟩,
         ⟨(some 12), (.bin .eql), [.t 11, .c (.int .u8 13)], .none, none, (some (10, false))⟩,
         ⟨(some 13), .pick, [.t 10, .c (.bool true), .t 12], .none, none, none⟩,
         ⟨(some 14), .mv, [.t 13], .none, none, none⟩,
         ⟨(some 15), .mv, [.t 0], .none, none, (some (14, false))⟩,
         ⟨(some 16), (.bin .eql), [.t 15, .c (.int .u8 32)], .none, none, (some (14, false))⟩,
         ⟨(some 17), .pick, [.t 14, .c (.bool true), .t 16], .none, none, none⟩,
         ⟨(some 3), .mv, [.t 17], .none, none, none⟩] [4, 5, 6, 7, 8, 9, 10, 11, 12, 13, 14, 15, 16, 17]) <|
      .cond (.t 3) (.seq (.reg false [] [⟨(some 2), .mv, [.c (.int .i64 2)], .none, none, none⟩] []) <|
       .ret)
       (.seq (.reg false [] [
          ⟨(some 19), .mv, [.t 0], .none, none, none⟩,
          ⟨(some 20), (.bin .lss), [.t 19, .c (.int .u8 32)], .none, none, none⟩,
          ⟨(some 21), .mv, [.t 20], .none, none, none⟩,
          ⟨(some 22), .mv, [.t 0], .none, none, (some (21, false))⟩,
          ⟨(some 23), (.bin .eql), [.t 22, .c (.int .u8 127)], .none, none, (some (21, false))⟩,
          ⟨(some 24), .pick, [.t 21, .c (.bool true), .t 23], .none, none, none⟩,
          ⟨(some 18), .mv, [.t 24], .none, none, none⟩] [19, 20, 21, 22, 23, 24]) <|
       .cond (.t 18) (.seq (.reg false [] [⟨(some 2), .mv, [.c (.int .i64 1)], .none, none, none⟩] []) <|
        .ret)
        (.seq (.reg false [] [
           ⟨(some 26), .mv, [.t 0], .none, none, none⟩,
           ⟨(some 27), (.bin .geq), [.t 26, .c (.int .u8 48)], .none, none, none⟩,
           ⟨(some 28), .mv, [.t 27], .none, none, none⟩,
           ⟨(some 29), .mv, [.t 0], .none, none, (some (28, true))⟩,
           ⟨(some 30), (.bin .leq), [.t 29, .c (.int .u8 57)], .none, none, (some (28, true))⟩,
           ⟨(some 31), .pick, [.t 28, .t 30, .c (.bool false)], .none, none, none⟩,
           ⟨(some 25), .mv, [.t 31], .none, none, none⟩] [26, 27, 28, 29, 30, 31]) <|
        .cond (.t 25) (.seq (.reg false [] [⟨(some 2), .mv, [.c (.int .i64 3)], .none, none, none⟩] []) <|
         .ret)
         (.seq (.reg false [] [
            ⟨(some 33), .mv, [.t 0], .none, none, none⟩,
            ⟨(some 34), (.bin .geq), [.t 33, .c (.int .u8 97)], .none, none, none⟩,
            ⟨(some 35), .mv, [.t 34], .none, none, none⟩,
            ⟨(some 36), .mv, [.t 0], .none, none, (some (35, true))⟩,
            ⟨(some 37), (.bin .leq), [.t 36, .c (.int .u8 122)], .none, none, (some (35, true))⟩,
            ⟨(some 38), .pick, [.t 35, .t 37, .c (.bool false)], .none, none, none⟩,
            ⟨(some 39), .mv, [.t 38], .none, none, none⟩,
            ⟨(some 40), .mv, [.t 0], .none, none, (some (39, false))⟩,
            ⟨(some 41), (.bin .geq), [.t 40, .c (.int .u8 65)], .none, none, (some (39, false))⟩,
            ⟨(some 42), .mv, [.t 41], .none, none, (some (39, false))⟩,
            ⟨(some 43), .mv, [.t 0], .none, none, (some (42, true))⟩,
            ⟨(some 44), (.bin .leq), [.t 43, .c (.int .u8 90)], .none, none, (some (42, true))⟩,
            ⟨(some 45), .pick, [.t 42, .t 44, .c (.bool false)], .none, none, (some (39, false))⟩,
            ⟨(some 46), .pick, [.t 39, .c (.bool true), .t 45], .none, none, none⟩,
            ⟨(some 47), .mv, [.t 46], .none, none, none⟩,
            ⟨(some 48), .mv, [.t 0], .none, none, (some (47, false))⟩,
            ⟨(some 49), (.bin .geq), [.t 48, .c (.int .u8 128)], .none, none, (some (47, false))⟩,
            ⟨(some 50), .pick, [.t 47, .c (.bool true), .t 49], .none, none, none⟩,
            ⟨(some 32), .mv, [.t 50], .none, none, none⟩] [33, 34, 35, 36, 37, 38, 39, 40, 41, 42, 43, 44, 45, 46, 47, 48, 49, 50, 0]) <|
         .cond (.t 32) (.seq (.reg false [] [⟨(some 2), .mv, [.c (.int .i64 4)], .none, none, none⟩] []) <|
          .ret)
          (.skip)))))) <|
    .seq (.reg false [] [⟨(some 2), .mv, [.c (.int .i64 5)], .none, none, none⟩] []) <|
    .ret }

/- bitext/token.joined -/
def L76_0 : ACode :=
  .loop [8, 9, 10, 11, 14, 15, 16, 17, 18, 13, 19, 20, 22, 23, 24, 25, 26, 27, 28, 29, 30, 31, 32, 33, 34, 35, 36, 37, 38, 39, 40, 41, 42, 43, 44, 45, 46, 47, 48, 49, 50, 21, 51, 52, 12, 6] (.seq (.seq (.reg false [] [
        ⟨(some 8), .mv, [.t 7], .none, none, none⟩,
        ⟨(some 9), .mv, [.t 0], .none, none, none⟩,
        ⟨(some 10), (.len true), [.t 9], .none, none, none⟩,
        ⟨(some 11), (.bin .lss), [.t 8, .t 10], .none, none, none⟩] [8, 9, 10]) <|
     .cond (.t 11) (.skip)
      (.exit 0)) <|
    .block 1 (.block 2 (.seq (.reg false [] [
         ⟨(some 14), .mv, [.t 2], .none, none, none⟩,
         ⟨(some 15), .mv, [.t 0], .none, none, none⟩,
         ⟨(some 16), .mv, [.t 7], .none, none, none⟩,
         ⟨(some 17), .ixs, [.t 15, .t 16], .none, none, none⟩,
         ⟨(some 18), .callv, [.t 14, .t 17], .none, none, none⟩,
         ⟨(some 13), .mv, [.t 18], .none, none, none⟩] [14, 15, 16, 17, 18]) <|
      .cond (.t 13) (.reg false [] [
         ⟨(some 19), .mv, [.t 7], .none, none, none⟩,
         ⟨(some 20), (.bin .add), [.t 19, .c (.int .i64 1)], .none, none, none⟩,
         ⟨(some 7), .mv, [.t 20], .none, none, none⟩] [19, 20])
       (.seq (.reg true [] [
          ⟨(some 22), .mv, [.t 0], .none, none, none⟩,
          ⟨(some 23), .mv, [.t 7], .none, none, none⟩,
          ⟨(some 24), .ixs, [.t 22, .t 23], .none, none, none⟩,
          ⟨(some 25), .mv, [.t 1], .none, none, none⟩,
          ⟨(some 26), .ixs, [.t 25, .c (.int .i64 0)], .none, none, none⟩,
          ⟨(some 27), (.bin .eql), [.t 24, .t 26], .none, none, none⟩,
          ⟨(some 28), .mv, [.t 27], .none, none, none⟩,
          ⟨(some 29), .mv, [.t 0], .none, none, (some (28, false))⟩,
          ⟨(some 30), .mv, [.t 7], .none, none, (some (28, false))⟩,
          ⟨(some 31), .ixs, [.t 29, .t 30], .none, none, (some (28, false))⟩,
          ⟨(some 32), .mv, [.t 1], .none, none, (some (28, false))⟩,
          ⟨(some 33), .ixs, [.t 32, .c (.int .i64 1)], .none, none, (some (28, false))⟩,
          ⟨(some 34), (.bin .eql), [.t 31, .t 33], .none, none, (some (28, false))⟩,
          ⟨(some 35), .pick, [.t 28, .c (.bool true), .t 34], .none, none, none⟩,
          ⟨(some 36), .mv, [.t 35], .none, none, none⟩,
          ⟨(some 37), .mv, [.t 7], .none, none, (some (36, true))⟩,
          ⟨(some 38), (.bin .add), [.t 37, .c (.int .i64 1)], .none, none, (some (36, true))⟩,
          ⟨(some 39), .mv, [.t 0], .none, none, (some (36, true))⟩,
          ⟨(some 40), (.len true), [.t 39], .none, none, (some (36, true))⟩,
          ⟨(some 41), (.bin .lss), [.t 38, .t 40], .none, none, (some (36, true))⟩,
          ⟨(some 42), .pick, [.t 36, .t 41, .c (.bool false)], .none, none, none⟩,
          ⟨(some 43), .mv, [.t 42], .none, none, none⟩,
          ⟨(some 44), .mv, [.t 2], .none, none, (some (43, true))⟩,
          ⟨(some 45), .mv, [.t 0], .none, none, (some (43, true))⟩,
          ⟨(some 46), .mv, [.t 7], .none, none, (some (43, true))⟩,
          ⟨(some 47), (.bin .add), [.t 46, .c (.int .i64 1)], .none, none, (some (43, true))⟩,
          ⟨(some 48), .ixs, [.t 45, .t 47], .none, none, (some (43, true))⟩,
          ⟨(some 49), .callv, [.t 44, .t 48], .none, none, (some (43, true))⟩,
          ⟨(some 50), .pick, [.t 43, .t 49, .c (.bool false)], .none, none, none⟩,
          ⟨(some 21), .mv, [.t 50], .none, none, none⟩] [22, 23, 24, 25, 26, 27, 28, 29, 30, 31, 32, 33, 34, 35, 36, 37, 38, 39, 40, 41, 42, 43, 44, 45, 46, 47, 48, 49, 50]) <|
       .cond (.t 21) (.reg false [] [
          ⟨(some 51), .mv, [.t 7], .none, none, none⟩,
          ⟨(some 52), (.bin .add), [.t 51, .c (.int .i64 2)], .none, none, none⟩,
          ⟨(some 7), .mv, [.t 52], .none, none, none⟩] [51, 52])
        (.seq (.reg false [] [
           ⟨(some 12), .mv, [.t 7], .none, none, none⟩,
           ⟨(some 6), .mv, [.t 12], .none, none, none⟩] [12, 7]) <|
        .ret)))))
def F76 : AFun :=
  { nargs := 3, keep := false, res := [.tmp 6], body :=
    .seq (.reg false [] [⟨(some 6), .mv, [.c (.int .i64 0)], .none, none, none⟩] [6]) <|
    .seq (.reg false [] [⟨(some 7), .mv, [.c (.int .i64 1)], .none, none, none⟩] []) <|
    .seq (.block 0 (L76_0)) <|
    .seq (.reg false [] [
       ⟨(some 53), .mv, [.t 7], .none, none, none⟩,
       ⟨(some 6), .mv, [.t 53], .none, none, none⟩] [53, 7]) <|
    .ret }

/- bitext/token.wordly -/
def F77 : AFun :=
  { nargs := 1, keep := false, res := [.tmp 2], body :=
    .seq (.reg false [] [⟨(some 2), .mv, [.c (.bool false)], .none, none, none⟩] [2]) <|
    .seq (.reg false [] [
       ⟨(some 4), .mv, [.t 0], .none, none, none⟩,
       ⟨(some 5), (.call 75), [.t 4], .none, none, none⟩,
       ⟨(some 3), .mv, [.t 5], .none, none, none⟩] [4, 5, 0]) <|
    .seq (.reg false [] [
       ⟨(some 6), .mv, [.t 3], .none, none, none⟩,
       ⟨(some 7), (.bin .eql), [.t 6, .c (.int .i64 4)], .none, none, none⟩,
       ⟨(some 8), .mv, [.t 7], .none, none, none⟩,
       ⟨(some 9), .mv, [.t 3], .none, none, (some (8, false))⟩,
       ⟨(some 10), (.bin .eql), [.t 9, .c (.int .i64 3)], .none, none, (some (8, false))⟩,
       ⟨(some 11), .pick, [.t 8, .c (.bool true), .t 10], .none, none, none⟩,
       ⟨(some 2), .mv, [.t 11], .none, none, none⟩] [6, 7, 8, 9, 10, 11, 3]) <|
    .ret }

/- bitext/token.digit -/
def F78 : AFun :=
  { nargs := 1, keep := false, res := [.tmp 2], body :=
    .seq (.reg false [] [⟨(some 2), .mv, [.c (.bool false)], .none, none, none⟩] [2]) <|
    .seq (.reg false [] [
       ⟨(some 3), .mv, [.t 0], .none, none, none⟩,
       ⟨(some 4), (.call 75), [.t 3], .none, none, none⟩,
       ⟨(some 5), (.bin .eql), [.t 4, .c (.int .i64 3)], .none, none, none⟩,
       ⟨(some 2), .mv, [.t 5], .none, none, none⟩] [3, 4, 5, 0]) <|
    .ret }

/- bitext/bitextref1.Class -/
def F79 : AFun :=
  { nargs := 1, keep := false, res := [.tmp 2], body :=
    .seq (.reg false [] [⟨(some 2), .mv, [.c (.int .i64 0)], .none, none, none⟩] [2]) <|
    .seq (.block 0 (.seq (.reg false [] [
         ⟨(some 4), .mv, [.t 0], .none, none, none⟩,
         ⟨(some 5), (.bin .eql), [.t 4, .c (.int .u8 9)], .none, none, none⟩,
         ⟨(some 6), .mv, [.t 5], .none, none, none⟩,
         ⟨(some 7), .mv, [.t 0], .none, none, (some (6, false))⟩,
         ⟨(some 8), (.bin .eql), [.t 7, .c (.int .u8 10)], .none, none, (some (6, false))⟩,
         ⟨(some 9), .pick, [.t 6, .c (.bool true), .t 8], .none, none, none⟩,
         ⟨(some 10), .mv, [.t 9], .none, none, none⟩,
         ⟨(some 11), .mv, [.t 0], .none, none, (some (10, false))⟩,
         ⟨(some 12), (.bin .eql), [.t 11, .c (.int .u8 13)], .none, none, (some (10, false))⟩,
         ⟨(some 13), .pick, [.t 10, .c (.bool true), .t 12], .none, none, none⟩,
         ⟨(some 14), .mv, [.t 13], .none, none, none⟩,
         ⟨(some 15), .mv, [.t 0], .none, none, (some (14, false))⟩,
         ⟨(some 16), (.bin .eql), [.t 15, .c (.int .u8 32)], .none, none, (some (14, false))⟩,
         ⟨(some 17), .pick, [.t 14, .c (.bool true), .t 16], .none, none, none⟩,
         ⟨(some 3), .mv, [.t 17], .none, none, none⟩] [4, 5, 6, 7, 8, 9, 10, 11, 12, 13, 14, 15, 16, 17]) <|
      .cond (.t 3) (.seq (.reg false [] [⟨(some 2), .mv, [.c (.int .i64 2)], .none, none, none⟩] []) <|
       .ret)
       (.seq (.reg false [] [
          ⟨(some 19), .mv, [.t 0], .none, none, none⟩,
          ⟨(some 20), (.bin .lss), [.t 19, .c (.int .u8 32)], .none, none, none⟩,
          ⟨(some 21), .mv, [.t 20], .none, none, none⟩,
          ⟨(some 22), .mv, [.t 0], .none, none, (some (21, false))⟩,
          ⟨(some 23), (.bin .eql), [.t 22, .c (.int .u8 127)], .none, none, (some (21, false))⟩,
          ⟨(some 24), .pick, [.t 21, .c (.bool true), .t 23], .none, none, none⟩,
          ⟨(some 18), .mv, [.t 24], .none, none, none⟩] [19, 20, 21, 22, 23, 24]) <|
       .cond (.t 18) (.seq (.reg false [] [⟨(some 2), .mv, [.c (.int .i64 1)], .none, none, none⟩] []) <|
        .ret)
        (.seq (.reg false [] [
           ⟨(some 26), .mv, [.t 0], .none, none, none⟩,
           ⟨(some 27), (.bin .geq), [.t 26, .c (.int .u8 48)], .none, none, none⟩,
           ⟨(some 28), .mv, [.t 27], .none, none, none⟩,
           ⟨(some 29), .mv, [.t 0], .none, none, (some (28, true))⟩,
           ⟨(some 30), (.bin .leq), [.t 29, .c (.int .u8 57)], .none, none, (some (28, true))⟩,
           ⟨(some 31), .pick, [.t 28, .t 30, .c (.bool false)], .none, none, none⟩,
           ⟨(some 25), .mv, [.t 31], .none, none, none⟩] [26, 27, 28, 29, 30, 31]) <|
        .cond (.t 25) (.seq (.reg false [] [⟨(some 2), .mv, [.c (.int .i64 3)], .none, none, none⟩] []) <|
         .ret)
         (.seq (.reg false [] [
            ⟨(some 33), .mv, [.t 0], .none, none, none⟩,
            ⟨(some 34), (.bin .geq), [.t 33, .c (.int .u8 65)], .none, none, none⟩,
            ⟨(some 35), .mv, [.t 34], .none, none, none⟩,
            ⟨(some 36), .mv, [.t 0], .none, none, (some (35, true))⟩,
            ⟨(some 37), (.bin .leq), [.t 36, .c (.int .u8 90)], .none, none, (some (35, true))⟩,
            ⟨(some 38), .pick, [.t 35, .t 37, .c (.bool false)], .none, none, none⟩,
            ⟨(some 39), .mv, [.t 38], .none, none, none⟩,
            ⟨(some 40), .mv, [.t 0], .none, none, (some (39, false))⟩,
            ⟨(some 41), (.bin .geq), [.t 40, .c (.int .u8 97)], .none, none, (some (39, false))⟩,
            ⟨(some 42), .mv, [.t 41], .none, none, (some (39, false))⟩,
            ⟨(some 43), .mv, [.t 0], .none, none, (some (42, true))⟩,
            ⟨(some 44), (.bin .leq), [.t 43, .c (.int .u8 122)], .none, none, (some (42, true))⟩,
            ⟨(some 45), .pick, [.t 42, .t 44, .c (.bool false)], .none, none, (some (39, false))⟩,
            ⟨(some 46), .pick, [.t 39, .c (.bool true), .t 45], .none, none, none⟩,
            ⟨(some 47), .mv, [.t 46], .none, none, none⟩,
            ⟨(some 48), .mv, [.t 0], .none, none, (some (47, false))⟩,
            ⟨(some 49), (.bin .geq), [.t 48, .c (.int .u8 128)], .none, none, (some (47, false))⟩,
            ⟨(some 50), .pick, [.t 47, .c (.bool true), .t 49], .none, none, none⟩,
            ⟨(some 32), .mv, [.t 50], .none, none, none⟩] [33, 34, 35, 36, 37, 38, 39, 40, 41, 42, 43, 44, 45, 46, 47, 48, 49, 50, 0]) <|
         .cond (.t 32) (.seq (.reg false [] [⟨(some 2), .mv, [.c (.int .i64 4)], .none, none, none⟩] []) <|
          .ret)
          (.skip)))))) <|
    .seq (.reg false [] [⟨(some 2), .mv, [.c (.int .i64 5)], .none, none, none⟩] []) <|
    .ret }

/- bitext/bitextref3.Normalize -/
def L80_0 : ACode :=
  .loop [10, 11, 4, 12, 13, 14, 15, 5, 16, 17, 18, 19, 20, 21, 22, 23, 24, 25, 26, 27, 6, 28, 29, 30, 31, 32, 33, 34, 35, 36, 37, 38, 39, 40, 41, 42, 43, 44, 45, 46, 47, 48, 49, 50, 51, 52, 53, 54, 55, 56, 57, 58, 59] (.seq (.reg false [] [⟨(some 10), (.bin .lss), [.t 9, .t 8], .none, none, none⟩] []) <|
    .seq (.cond (.t 10) (.skip)
      (.exit 0)) <|
    .seq (.block 1 (.seq (.reg false [] [
         ⟨(some 11), .mv, [.t 9], .none, none, none⟩,
         ⟨(some 4), .mv, [.t 11], .none, none, none⟩] [11]) <|
      .seq (.reg false [5] [
         ⟨(some 12), .mv, [.t 0], .none, none, none⟩,
         ⟨(some 13), .mv, [.t 4], .none, none, none⟩,
         ⟨(some 14), (.ia 3), [.t 12, .t 13], .none, none, none⟩,
         ⟨(some 15), (.ld true 3), [.t 14], .none, none, none⟩,
         ⟨(some 5), (.alloc [.int .i64 0, .str [], .int .i64 0]), [], (.lo 5), none, none⟩,
         ⟨none, (.st 3), [.t 5, .t 15], (.lo 5), none, none⟩] [12, 13, 14, 15, 4]) <|
      .seq (.seq (.reg false [] [
          ⟨(some 16), (.fa 0), [.t 5], .none, none, none⟩,
          ⟨(some 17), (.ld false 1), [.t 16], (.lo 5), none, none⟩,
          ⟨(some 18), (.bin .neq), [.t 17, .c (.int .i64 1)], .none, none, none⟩] [16, 17]) <|
       .cond (.t 18) (.seq (.reg false [] [
           ⟨(some 19), .mvo, [.t 3], .none, (some 3), none⟩,
           ⟨(some 20), (.ld true 3), [.t 5], (.lo 5), none, none⟩,
           ⟨(some 21), (.mks 3 [.int .i64 0, .str [], .int .i64 0] 1 [0]), [.t 20], .none, none, none⟩,
           ⟨(some 22), (.appS false 3 32), [.t 19, .t 21], .sh, none, none⟩,
           ⟨(some 3), .mvo, [.t 22], .none, (some 22), none⟩] [19, 20, 21, 22, 5]) <|
        .exit 1)
        (.skip)) <|
      .seq (.seq (.reg false [] [
          ⟨(some 23), (.fa 1), [.t 5], .none, none, none⟩,
          ⟨(some 24), (.ld false 1), [.t 23], (.lo 5), none, none⟩,
          ⟨(some 25), (.bin .eql), [.t 24, .c (.str [])], .none, none, none⟩] [23, 24]) <|
       .cond (.t 25) (.exit 1)
        (.skip)) <|
      .seq (.reg false [] [
         ⟨(some 26), .mv, [.t 3], .none, none, none⟩,
         ⟨(some 27), (.len false), [.t 26], .none, none, none⟩,
         ⟨(some 6), .mv, [.t 27], .none, none, none⟩] [26, 27]) <|
      .seq (.reg false [] [
         ⟨(some 28), .mv, [.t 6], .none, none, none⟩,
         ⟨(some 29), (.bin .gtr), [.t 28, .c (.int .i64 0)], .none, none, none⟩,
         ⟨(some 30), .mv, [.t 29], .none, none, none⟩,
         ⟨(some 31), .mv, [.t 3], .none, none, (some (30, true))⟩,
         ⟨(some 32), .mv, [.t 6], .none, none, (some (30, true))⟩,
         ⟨(some 33), (.bin .sub), [.t 32, .c (.int .i64 1)], .none, none, (some (30, true))⟩,
         ⟨(some 34), (.ia 3), [.t 31, .t 33], .none, none, (some (30, true))⟩,
         ⟨(some 35), (.fa 0), [.t 34], .none, none, (some (30, true))⟩,
         ⟨(some 36), (.ld false 1), [.t 35], .sh, none, (some (30, true))⟩,
         ⟨(some 37), (.bin .eql), [.t 36, .c (.int .i64 1)], .none, none, (some (30, true))⟩,
         ⟨(some 38), .pick, [.t 30, .t 37, .c (.bool false)], .none, none, none⟩] [28, 29, 30, 31, 32, 33, 34, 35, 36, 37]) <|
      .cond (.t 38) (.reg true [] [
         ⟨(some 39), .mv, [.t 3], .none, none, none⟩,
         ⟨(some 40), .mv, [.t 6], .none, none, none⟩,
         ⟨(some 41), (.bin .sub), [.t 40, .c (.int .i64 1)], .none, none, none⟩,
         ⟨(some 42), .mv, [.t 3], .none, none, none⟩,
         ⟨(some 43), .mv, [.t 6], .none, none, none⟩,
         ⟨(some 44), (.bin .sub), [.t 43, .c (.int .i64 1)], .none, none, none⟩,
         ⟨(some 45), (.ia 3), [.t 42, .t 44], .none, none, none⟩,
         ⟨(some 46), (.fa 1), [.t 45], .none, none, none⟩,
         ⟨(some 47), (.ld false 1), [.t 46], .sh, none, none⟩,
         ⟨(some 48), (.fa 1), [.t 5], .none, none, none⟩,
         ⟨(some 49), (.ld false 1), [.t 48], (.lo 5), none, none⟩,
         ⟨(some 50), (.bin .add), [.t 47, .t 49], .none, none, none⟩,
         ⟨(some 51), (.build [.int .i64 0, .str [], .int .i64 0] [(0, 1), (1, 1)]), [.c (.int .i64 1), .t 50], .none, none, none⟩,
         ⟨(some 52), (.ia 3), [.t 39, .t 41], .none, none, none⟩,
         ⟨none, (.st 3), [.t 52, .t 51], .sh, none, none⟩] [39, 40, 41, 42, 43, 44, 45, 46, 47, 48, 49, 50, 51, 52, 6, 5])
       (.reg false [] [
         ⟨(some 53), .mvo, [.t 3], .none, (some 3), none⟩,
         ⟨(some 54), (.fa 1), [.t 5], .none, none, none⟩,
         ⟨(some 55), (.ld false 1), [.t 54], (.lo 5), none, none⟩,
         ⟨(some 56), (.build [.int .i64 0, .str [], .int .i64 0] [(0, 1), (1, 1)]), [.c (.int .i64 1), .t 55], .none, none, none⟩,
         ⟨(some 57), (.mks 3 [.int .i64 0, .str [], .int .i64 0] 1 [0]), [.t 56], .none, none, none⟩,
         ⟨(some 58), (.appS false 3 32), [.t 53, .t 57], .sh, none, none⟩,
         ⟨(some 3), .mvo, [.t 58], .none, (some 58), none⟩] [53, 54, 55, 56, 57, 58, 5]))) <|
    .reg false [] [
      ⟨(some 59), (.bin .add), [.t 9, .c (.int .i64 1)], .none, none, none⟩,
      ⟨(some 9), .mv, [.t 59], .none, none, none⟩] [59])
def F80 : AFun :=
  { nargs := 1, keep := false, res := [.tmp 2], body :=
    .seq (.reg false [] [⟨(some 2), .mv, [.c (.sl .full 3 [])], .none, none, none⟩] [2]) <|
    .seq (.reg false [] [⟨(some 3), .mv, [.c (.sl .full 3 [])], .none, none, none⟩] []) <|
    .seq (.seq (.reg false [] [
        ⟨(some 7), .mv, [.t 0], .none, none, none⟩,
        ⟨(some 8), (.len false), [.t 7], .none, none, none⟩,
        ⟨(some 9), .mv, [.c (.int .i64 0)], .none, none, none⟩] [7]) <|
     .block 0 (L80_0)) <|
    .seq (.reg false [] [
       ⟨(some 60), .mv, [.t 3], .none, none, none⟩,
       ⟨(some 2), .mvo, [.t 60], .none, (some 60), none⟩] [60, 3]) <|
    .ret }

theorem ok3 : okFun Try.prog 3 F3 = true := by kernel_rfl
theorem ok4 : okFun Try.prog 4 F4 = true := by kernel_rfl
theorem ok5 : okFun Try.prog 5 F5 = true := by kernel_rfl
theorem ok6 : okFun Try.prog 6 F6 = true := by kernel_rfl
theorem ok14 : okFun Try.prog 14 F14 = true := by kernel_rfl
theorem ok15 : okFun Try.prog 15 F15 = true := by kernel_rfl
theorem ok16 : okFun Try.prog 16 F16 = true := by kernel_rfl
theorem ok17 : okFun Try.prog 17 F17 = true := by kernel_rfl
theorem ok18 : okFun Try.prog 18 F18 = true := by kernel_rfl
theorem ok19 : okFun Try.prog 19 F19 = true := by kernel_rfl
theorem ok20 : okFun Try.prog 20 F20 = true := by kernel_rfl
theorem ok21 : okFun Try.prog 21 F21 = true := by kernel_rfl
theorem ok22 : okFun Try.prog 22 F22 = true := by kernel_rfl
theorem ok23 : okFun Try.prog 23 F23 = true := by kernel_rfl
theorem ok24 : okFun Try.prog 24 F24 = true := by kernel_rfl
theorem ok42 : okFun Try.prog 42 F42 = true := by kernel_rfl
theorem ok43 : okFun Try.prog 43 F43 = true := by kernel_rfl
theorem ok44 : okFun Try.prog 44 F44 = true := by kernel_rfl
theorem ok45 : okFun Try.prog 45 F45 = true := by kernel_rfl
theorem ok46 : okFun Try.prog 46 F46 = true := by kernel_rfl
theorem ok47 : okFun Try.prog 47 F47 = true := by kernel_rfl
theorem ok36 : okFun Try.prog 36 F36 = true := by kernel_rfl
theorem ok48 : okFun Try.prog 48 F48 = true := by kernel_rfl
theorem ok49 : okFun Try.prog 49 F49 = true := by kernel_rfl
theorem ok50 : okFun Try.prog 50 F50 = true := by kernel_rfl
theorem ok51 : okFun Try.prog 51 F51 = true := by kernel_rfl
theorem ok61 : okFun Try.prog 61 F61 = true := by kernel_rfl
theorem ok62 : okFun Try.prog 62 F62 = true := by kernel_rfl
theorem ok63 : okFun Try.prog 63 F63 = true := by kernel_rfl
theorem ok64 : okFun Try.prog 64 F64 = true := by kernel_rfl
theorem ok65 : okFun Try.prog 65 F65 = true := by kernel_rfl
theorem ok66 : okFun Try.prog 66 F66 = true := by kernel_rfl
theorem ok67 : okFun Try.prog 67 F67 = true := by kernel_rfl
theorem ok68 : okFun Try.prog 68 F68 = true := by kernel_rfl
theorem ok75 : okFun Try.prog 75 F75 = true := by kernel_rfl
theorem ok76 : okFun Try.prog 76 F76 = true := by kernel_rfl
theorem ok77 : okFun Try.prog 77 F77 = true := by kernel_rfl
theorem ok78 : okFun Try.prog 78 F78 = true := by kernel_rfl
theorem ok79 : okFun Try.prog 79 F79 = true := by kernel_rfl
theorem ok80 : okFun Try.prog 80 F80 = true := by kernel_rfl
theorem mix : Try.prog.follows .mixedOrders = true := by kernel_rfl
def T0 : FuncId → Option AFun
  | 3 => some F3
  | 4 => some F4
  | 5 => some F5
  | 6 => some F6
  | 14 => some F14
  | 15 => some F15
  | 16 => some F16
  | 17 => some F17
  | 18 => some F18
  | 19 => some F19
  | 20 => some F20
  | 21 => some F21
  | 22 => some F22
  | 23 => some F23
  | 24 => some F24
  | 42 => some F42
  | 43 => some F43
  | 44 => some F44
  | 45 => some F45
  | 46 => some F46
  | 47 => some F47
  | 36 => some F36
  | 48 => some F48
  | 49 => some F49
  | 50 => some F50
  | 51 => some F51
  | 61 => some F61
  | 62 => some F62
  | 63 => some F63
  | 64 => some F64
  | 65 => some F65
  | 66 => some F66
  | 67 => some F67
  | 68 => some F68
  | 75 => some F75
  | 76 => some F76
  | 77 => some F77
  | 78 => some F78
  | 79 => some F79
  | 80 => some F80
  | _ => none
theorem T0_ok : ∀ f F, T0 f = some F → okFun Try.prog f F = true := by
  intro f F h
  unfold T0 at h
  split at h
  · cases h; exact ok3
  · cases h; exact ok4
  · cases h; exact ok5
  · cases h; exact ok6
  · cases h; exact ok14
  · cases h; exact ok15
  · cases h; exact ok16
  · cases h; exact ok17
  · cases h; exact ok18
  · cases h; exact ok19
  · cases h; exact ok20
  · cases h; exact ok21
  · cases h; exact ok22
  · cases h; exact ok23
  · cases h; exact ok24
  · cases h; exact ok42
  · cases h; exact ok43
  · cases h; exact ok44
  · cases h; exact ok45
  · cases h; exact ok46
  · cases h; exact ok47
  · cases h; exact ok36
  · cases h; exact ok48
  · cases h; exact ok49
  · cases h; exact ok50
  · cases h; exact ok51
  · cases h; exact ok61
  · cases h; exact ok62
  · cases h; exact ok63
  · cases h; exact ok64
  · cases h; exact ok65
  · cases h; exact ok66
  · cases h; exact ok67
  · cases h; exact ok68
  · cases h; exact ok75
  · cases h; exact ok76
  · cases h; exact ok77
  · cases h; exact ok78
  · cases h; exact ok79
  · cases h; exact ok80
  · cases h
def B0 : Calls' := fun _ _ _ => none
theorem B0_good : Good Try.prog B0 := fun _ _ _ _ _ h => by cases h
noncomputable abbrev G0 : Calls' := Gx B0 T0
theorem G0_good : Good Try.prog G0 := Gx_good mix B0_good T0_ok
end Go.Av
