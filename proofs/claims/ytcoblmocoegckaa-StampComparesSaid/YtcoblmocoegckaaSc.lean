/- The functions' bodies as abstract code, held against the program by the kernel. -/
import Derived.Test.YtcoblmocoegckaaProg
import Derived.Test.YtcoblmocoegckaaAv19
import Derived.KernelRfl
set_option linter.unusedSimpArgs false
set_option linter.unusedVariables false
namespace Go.Av
open Go.Proofs
/- bitext/bitextlaw36.StampCompares -/
def L3_0 : ACode :=
  .loop [36, 37, 38, 11, 39, 40, 41, 42, 43, 44, 12, 13, 14, 45, 46, 47, 15, 48, 49, 50, 51, 52, 53, 54, 55, 56, 57, 58, 59, 60, 61, 62, 63, 64, 65, 66, 67, 68, 69, 70, 71, 72, 73, 74, 75, 76, 77, 78, 79, 80, 81, 82, 83, 84, 8, 85] (.seq (.reg false [] [⟨(some 36), (.bin .lss), [.t 35, .t 34], .none, none, none⟩] []) <|
    .seq (.cond (.t 36) (.skip)
      (.exit 0)) <|
    .seq (.block 1 (.seq (.reg false [11] [
         ⟨(some 37), (.ia 9), [.t 33, .t 35], .none, none, none⟩,
         ⟨(some 38), (.ld true 9), [.t 37], .none, none, none⟩,
         ⟨(some 11), (.alloc [.int .i64 0, .int .i64 0, .int .i64 0, .int .i64 0, .int .i64 0, .int .i64 0, .int .i64 0, .int .i64 0, .int .i64 0]), [], (.lo 11), none, none⟩,
         ⟨none, (.st 9), [.t 11, .t 38], (.lo 11), none, none⟩] [37, 38]) <|
      .seq (.reg true [12, 13, 14] [
         ⟨(some 39), (.iaA 3 3), [.t 11, .c (.int .i64 0)], .none, none, none⟩,
         ⟨(some 40), (.ld true 3), [.t 39], (.lo 11), none, none⟩,
         ⟨(some 41), (.iaA 3 3), [.t 11, .c (.int .i64 1)], .none, none, none⟩,
         ⟨(some 42), (.ld true 3), [.t 41], (.lo 11), none, none⟩,
         ⟨(some 43), (.iaA 3 3), [.t 11, .c (.int .i64 2)], .none, none, none⟩,
         ⟨(some 44), (.ld true 3), [.t 43], (.lo 11), none, none⟩,
         ⟨(some 12), (.alloc [.int .i64 0, .int .i64 0, .int .i64 0]), [], (.lo 12), none, none⟩,
         ⟨(some 13), (.alloc [.int .i64 0, .int .i64 0, .int .i64 0]), [], (.lo 13), none, none⟩,
         ⟨(some 14), (.alloc [.int .i64 0, .int .i64 0, .int .i64 0]), [], (.lo 14), none, none⟩,
         ⟨none, (.st 3), [.t 12, .t 40], (.lo 12), none, none⟩,
         ⟨none, (.st 3), [.t 13, .t 42], (.lo 13), none, none⟩,
         ⟨none, (.st 3), [.t 14, .t 44], (.lo 14), none, none⟩] [39, 40, 41, 42, 43, 44, 11]) <|
      .seq (.reg false [] [
         ⟨(some 45), (.ld true 3), [.t 12], (.lo 12), none, none⟩,
         ⟨(some 46), (.ld true 3), [.t 13], (.lo 13), none, none⟩,
         ⟨(some 47), (.call 12), [.t 45, .t 46], .none, none, none⟩,
         ⟨(some 15), .mv, [.t 47], .none, none, none⟩] [45, 46, 47]) <|
      .seq (.reg false [] [
         ⟨(some 48), .mv, [.t 15], .none, none, none⟩,
         ⟨(some 49), (.ld true 3), [.t 12], (.lo 12), none, none⟩,
         ⟨(some 50), (.ld true 3), [.t 13], (.lo 13), none, none⟩,
         ⟨(some 51), (.call 13), [.t 49, .t 50], .none, none, none⟩,
         ⟨(some 52), (.bin .neq), [.t 48, .t 51], .none, none, none⟩,
         ⟨(some 53), .mv, [.t 52], .none, none, none⟩,
         ⟨(some 54), (.ld true 3), [.t 13], (.lo 13), none, (some (53, false))⟩,
         ⟨(some 55), (.ld true 3), [.t 12], (.lo 12), none, (some (53, false))⟩,
         ⟨(some 56), (.call 12), [.t 54, .t 55], .none, none, (some (53, false))⟩,
         ⟨(some 57), .mv, [.t 15], .none, none, (some (53, false))⟩,
         ⟨(some 58), (.un .neg), [.t 57], .none, none, (some (53, false))⟩,
         ⟨(some 59), (.bin .neq), [.t 56, .t 58], .none, none, (some (53, false))⟩,
         ⟨(some 60), .pick, [.t 53, .c (.bool true), .t 59], .none, none, none⟩,
         ⟨(some 61), .mv, [.t 60], .none, none, none⟩,
         ⟨(some 62), .mv, [.t 15], .none, none, (some (61, false))⟩,
         ⟨(some 63), (.bin .eql), [.t 62, .c (.int .i64 0)], .none, none, (some (61, false))⟩,
         ⟨(some 64), (.ld true 3), [.t 12], (.lo 12), none, (some (61, false))⟩,
         ⟨(some 65), (.ld true 3), [.t 13], (.lo 13), none, (some (61, false))⟩,
         ⟨(some 66), (.seq false [0, 0, 0]), [.t 64, .t 65], .none, none, (some (61, false))⟩,
         ⟨(some 67), (.beq true), [.t 63, .t 66], .none, none, (some (61, false))⟩,
         ⟨(some 68), .pick, [.t 61, .c (.bool true), .t 67], .none, none, none⟩,
         ⟨(some 69), .mv, [.t 68], .none, none, none⟩,
         ⟨(some 70), .mv, [.t 15], .none, none, (some (69, false))⟩,
         ⟨(some 71), (.bin .leq), [.t 70, .c (.int .i64 0)], .none, none, (some (69, false))⟩,
         ⟨(some 72), .mv, [.t 71], .none, none, (some (69, false))⟩,
         ⟨(some 73), (.ld true 3), [.t 13], (.lo 13), none, (some (72, true))⟩,
         ⟨(some 74), (.ld true 3), [.t 14], (.lo 14), none, (some (72, true))⟩,
         ⟨(some 75), (.call 12), [.t 73, .t 74], .none, none, (some (72, true))⟩,
         ⟨(some 76), (.bin .leq), [.t 75, .c (.int .i64 0)], .none, none, (some (72, true))⟩,
         ⟨(some 77), .pick, [.t 72, .t 76, .c (.bool false)], .none, none, (some (69, false))⟩,
         ⟨(some 78), .mv, [.t 77], .none, none, (some (69, false))⟩,
         ⟨(some 79), (.ld true 3), [.t 12], (.lo 12), none, (some (78, true))⟩,
         ⟨(some 80), (.ld true 3), [.t 14], (.lo 14), none, (some (78, true))⟩,
         ⟨(some 81), (.call 12), [.t 79, .t 80], .none, none, (some (78, true))⟩,
         ⟨(some 82), (.bin .gtr), [.t 81, .c (.int .i64 0)], .none, none, (some (78, true))⟩,
         ⟨(some 83), .pick, [.t 78, .t 82, .c (.bool false)], .none, none, (some (69, false))⟩,
         ⟨(some 84), .pick, [.t 69, .c (.bool true), .t 83], .none, none, none⟩] [48, 49, 50, 51, 52, 53, 54, 55, 56, 57, 58, 59, 60, 61, 62, 63, 64, 65, 66, 67, 68, 69, 70, 71, 72, 73, 74, 75, 76, 77, 78, 79, 80, 81, 82, 83, 15, 12, 13, 14]) <|
      .cond (.t 84) (.seq (.reg false [] [⟨(some 8), .mv, [.c (.bool false)], .none, none, none⟩] []) <|
       .ret)
       (.skip))) <|
    .reg false [] [
      ⟨(some 85), (.bin .add), [.t 35, .c (.int .i64 1)], .none, none, none⟩,
      ⟨(some 35), .mv, [.t 85], .none, none, none⟩] [85])
def F3 : AFun :=
  { nargs := 4, keep := false, res := [.tmp 8], body :=
    .seq (.reg false [4, 5, 6] [
       ⟨(some 4), (.box 3), [.t 0], (.lo 4), none, none⟩,
       ⟨(some 5), (.box 3), [.t 1], (.lo 5), none, none⟩,
       ⟨(some 6), (.box 3), [.t 2], (.lo 6), none, none⟩,
       ⟨(some 8), .mv, [.c (.bool false)], .none, none, none⟩] [8, 0, 1, 2]) <|
    .seq (.seq (.reg false [] [
        ⟨(some 16), .mv, [.t 3], .none, none, none⟩,
        ⟨(some 17), (.mks 1 [.sl .no 1 []] 1 [0]), [.t 16], .none, none, none⟩,
        ⟨(some 18), (.call 8), [.t 17], .none, none, none⟩] [16, 17]) <|
     .cond (.t 18) (.seq (.reg false [] [
         ⟨(some 19), (.call 9), [], .none, none, none⟩,
         ⟨(some 8), .mv, [.t 19], .none, none, none⟩] [19]) <|
      .ret)
      (.skip)) <|
    .seq (.reg false [] [
       ⟨(some 20), .mv, [.t 3], .none, none, none⟩,
       ⟨(some 21), (.call 10), [.t 20], .sh, none, none⟩,
       ⟨(some 9), .mv, [.t 21], .none, none, none⟩] [20, 21, 3]) <|
    .seq (.seq (.reg true [] [
        ⟨(some 22), (.ld true 3), [.t 4], (.lo 4), none, none⟩,
        ⟨(some 23), (.ld true 3), [.t 5], (.lo 5), none, none⟩,
        ⟨(some 24), (.ld true 3), [.t 6], (.lo 6), none, none⟩,
        ⟨(some 25), (.build [.int .i64 0, .int .i64 0, .int .i64 0, .int .i64 0, .int .i64 0, .int .i64 0, .int .i64 0, .int .i64 0, .int .i64 0] [(0, 3), (3, 3), (6, 3)]), [.t 22, .t 23, .t 24], .none, none, none⟩,
        ⟨(some 26), .mv, [.t 9], .none, none, none⟩,
        ⟨(some 27), (.call 11), [.t 26], .sh, none, none⟩,
        ⟨(some 28), .mv, [.t 9], .none, none, none⟩,
        ⟨(some 29), (.call 11), [.t 28], .sh, none, none⟩,
        ⟨(some 30), .mv, [.t 9], .none, none, none⟩,
        ⟨(some 31), (.call 11), [.t 30], .sh, none, none⟩,
        ⟨(some 32), (.build [.int .i64 0, .int .i64 0, .int .i64 0, .int .i64 0, .int .i64 0, .int .i64 0, .int .i64 0, .int .i64 0, .int .i64 0] [(0, 3), (3, 3), (6, 3)]), [.t 27, .t 29, .t 31], .none, none, none⟩,
        ⟨(some 33), (.mks 9 [.int .i64 0, .int .i64 0, .int .i64 0, .int .i64 0, .int .i64 0, .int .i64 0, .int .i64 0, .int .i64 0, .int .i64 0] 2 [0, 1]), [.t 25, .t 32], .none, none, none⟩,
        ⟨(some 34), (.len false), [.t 33], .none, none, none⟩,
        ⟨(some 35), .mv, [.c (.int .i64 0)], .none, none, none⟩] [22, 23, 24, 25, 26, 27, 28, 29, 30, 31, 32, 4, 5, 6, 9]) <|
     .block 0 (L3_0)) <|
    .seq (.reg false [] [
       ⟨(some 86), (.call 9), [], .none, none, none⟩,
       ⟨(some 8), .mv, [.t 86], .none, none, none⟩] [86]) <|
    .ret }

/- bitext/bitextlaw36.StampValidates -/
def F4 : AFun :=
  { nargs := 2, keep := false, res := [.tmp 4], body :=
    .seq (.reg false [2] [
       ⟨(some 2), (.box 3), [.t 0], (.lo 2), none, none⟩,
       ⟨(some 4), .mv, [.c (.bool false)], .none, none, none⟩] [4, 0]) <|
    .seq (.seq (.reg false [] [
        ⟨(some 7), .mv, [.t 1], .none, none, none⟩,
        ⟨(some 8), (.mks 1 [.sl .no 1 []] 1 [0]), [.t 7], .none, none, none⟩,
        ⟨(some 9), (.call 8), [.t 8], .none, none, none⟩] [7, 8]) <|
     .cond (.t 9) (.seq (.reg false [] [
         ⟨(some 10), (.call 9), [], .none, none, none⟩,
         ⟨(some 4), .mv, [.t 10], .none, none, none⟩] [10]) <|
      .ret)
      (.skip)) <|
    .seq (.reg false [] [
       ⟨(some 11), .mv, [.t 1], .none, none, none⟩,
       ⟨(some 12), (.call 10), [.t 11], .sh, none, none⟩,
       ⟨(some 5), .mv, [.t 12], .none, none, none⟩] [11, 12, 1]) <|
    .seq (.reg true [6] [
       ⟨(some 13), (.mks 1 [.int .i64 0] 4 [0, 1, 2, 3]), [.c (.int .i64 0), .c (.int .i64 1), .c (.int .i64 1073741824), .c (.int .i64 1073741825)], .none, none, none⟩,
       ⟨(some 14), .mv, [.t 5], .none, none, none⟩,
       ⟨(some 15), (.call 14), [.t 14, .c (.int .i64 4)], .sh, none, none⟩,
       ⟨(some 16), (.ia 1), [.t 13, .t 15], .none, none, none⟩,
       ⟨(some 17), (.ld false 1), [.t 16], .none, none, none⟩,
       ⟨(some 18), (.mks 1 [.int .i64 0] 4 [0, 1, 2, 3]), [.c (.int .i64 (-1)), .c (.int .i64 0), .c (.int .i64 7), .c (.int .i64 8)], .none, none, none⟩,
       ⟨(some 19), .mv, [.t 5], .none, none, none⟩,
       ⟨(some 20), (.call 14), [.t 19, .c (.int .i64 4)], .sh, none, none⟩,
       ⟨(some 21), (.ia 1), [.t 18, .t 20], .none, none, none⟩,
       ⟨(some 22), (.ld false 1), [.t 21], .none, none, none⟩,
       ⟨(some 23), (.mks 1 [.int .i64 0] 4 [0, 1, 2, 3]), [.c (.int .i64 0), .c (.int .i64 1), .c (.int .i64 128), .c (.int .i64 129)], .none, none, none⟩,
       ⟨(some 24), .mv, [.t 5], .none, none, none⟩,
       ⟨(some 25), (.call 14), [.t 24, .c (.int .i64 4)], .sh, none, none⟩,
       ⟨(some 26), (.ia 1), [.t 23, .t 25], .none, none, none⟩,
       ⟨(some 27), (.ld false 1), [.t 26], .none, none, none⟩,
       ⟨(some 28), (.build [.int .i64 0, .int .i64 0, .int .i64 0] [(0, 1), (1, 1), (2, 1)]), [.t 17, .t 22, .t 27], .none, none, none⟩,
       ⟨(some 6), (.alloc [.int .i64 0, .int .i64 0, .int .i64 0]), [], (.lo 6), none, none⟩,
       ⟨none, (.st 3), [.t 6, .t 28], (.lo 6), none, none⟩] [13, 14, 15, 16, 17, 18, 19, 20, 21, 22, 23, 24, 25, 26, 27, 28, 5]) <|
    .seq (.reg true [] [
       ⟨(some 29), (.ld true 3), [.t 2], (.lo 2), none, none⟩,
       ⟨(some 30), (.call 15), [.t 29], .none, none, none⟩,
       ⟨(some 31), (.ld true 3), [.t 2], (.lo 2), none, none⟩,
       ⟨(some 32), (.call 16), [.t 31], .none, none, none⟩,
       ⟨(some 33), (.bin .eql), [.t 30, .t 32], .none, none, none⟩,
       ⟨(some 34), .mv, [.t 33], .none, none, none⟩,
       ⟨(some 35), (.ld true 3), [.t 6], (.lo 6), none, (some (34, true))⟩,
       ⟨(some 36), (.call 15), [.t 35], .none, none, (some (34, true))⟩,
       ⟨(some 37), (.ld true 3), [.t 6], (.lo 6), none, (some (34, true))⟩,
       ⟨(some 38), (.call 16), [.t 37], .none, none, (some (34, true))⟩,
       ⟨(some 39), (.bin .eql), [.t 36, .t 38], .none, none, (some (34, true))⟩,
       ⟨(some 40), .pick, [.t 34, .t 39, .c (.bool false)], .none, none, none⟩,
       ⟨(some 41), .mv, [.t 40], .none, none, none⟩,
       ⟨(some 42), (.call 9), [], .none, none, (some (41, true))⟩,
       ⟨(some 43), .pick, [.t 41, .t 42, .c (.bool false)], .none, none, none⟩,
       ⟨(some 4), .mv, [.t 43], .none, none, none⟩] [29, 30, 31, 32, 33, 34, 35, 36, 37, 38, 39, 40, 41, 42, 43, 2, 6]) <|
    .ret }

/- bitext/bitextlaw36.StampVectors -/
def L5_0 : ACode :=
  .loop [98, 99, 102, 103, 104, 105, 106, 107, 108, 109, 110, 111, 112, 113, 114, 115, 116, 117, 118, 10, 100, 101] (.seq (.seq (.reg false [] [
        ⟨(some 98), .mv, [.t 17], .none, none, none⟩,
        ⟨(some 99), (.bin .lss), [.t 98, .c (.int .i64 12)], .none, none, none⟩] [98]) <|
     .cond (.t 99) (.skip)
      (.exit 2)) <|
    .seq (.block 3 (.seq (.reg false [] [
         ⟨(some 102), .mv, [.t 14], .none, none, none⟩,
         ⟨(some 103), .mv, [.t 17], .none, none, none⟩,
         ⟨(some 104), (.call 25), [.t 102, .t 103], .none, none, none⟩,
         ⟨(some 105), .mv, [.t 14], .none, none, none⟩,
         ⟨(some 106), .mv, [.t 17], .none, none, none⟩,
         ⟨(some 107), (.call 26), [.t 105, .t 106], .none, none, none⟩,
         ⟨(some 108), (.bin .neq), [.t 104, .t 107], .none, none, none⟩,
         ⟨(some 109), .mv, [.t 108], .none, none, none⟩,
         ⟨(some 110), .mv, [.t 14], .none, none, (some (109, false))⟩,
         ⟨(some 111), (.call 19), [.t 110], .none, none, (some (109, false))⟩,
         ⟨(some 112), .mv, [.t 17], .none, none, (some (109, false))⟩,
         ⟨(some 113), (.call 25), [.t 111, .t 112], .none, none, (some (109, false))⟩,
         ⟨(some 114), .mv, [.t 14], .none, none, (some (109, false))⟩,
         ⟨(some 115), .mv, [.t 17], .none, none, (some (109, false))⟩,
         ⟨(some 116), (.call 25), [.t 114, .t 115], .none, none, (some (109, false))⟩,
         ⟨(some 117), (.bin .neq), [.t 113, .t 116], .none, none, (some (109, false))⟩,
         ⟨(some 118), .pick, [.t 109, .c (.bool true), .t 117], .none, none, none⟩] [102, 103, 104, 105, 106, 107, 108, 109, 110, 111, 112, 113, 114, 115, 116, 117]) <|
      .cond (.t 118) (.seq (.reg false [] [⟨(some 10), .mv, [.c (.bool false)], .none, none, none⟩] []) <|
       .ret)
       (.skip))) <|
    .reg false [] [
      ⟨(some 100), .mv, [.t 17], .none, none, none⟩,
      ⟨(some 101), (.bin .add), [.t 100, .c (.int .i64 1)], .none, none, none⟩,
      ⟨(some 17), .mv, [.t 101], .none, none, none⟩] [100, 101])
def L5_1 : ACode :=
  .loop [37, 38, 39, 13, 40, 41, 42, 43, 14, 15, 44, 45, 16, 46, 47, 48, 49, 50, 51, 52, 53, 54, 55, 56, 57, 58, 59, 60, 61, 62, 63, 64, 65, 66, 67, 68, 69, 70, 71, 72, 73, 74, 75, 76, 77, 78, 79, 80, 81, 82, 83, 84, 85, 86, 87, 88, 89, 90, 91, 92, 93, 94, 95, 96, 97, 10, 17, 98, 99, 102, 103, 104, 105, 106, 107, 108, 109, 110, 111, 112, 113, 114, 115, 116, 117, 118, 100, 101, 119] (.seq (.reg false [] [⟨(some 37), (.bin .lss), [.t 36, .t 35], .none, none, none⟩] []) <|
    .seq (.cond (.t 37) (.skip)
      (.exit 0)) <|
    .seq (.block 1 (.seq (.reg false [13] [
         ⟨(some 38), (.ia 2), [.t 34, .t 36], .none, none, none⟩,
         ⟨(some 39), (.ld true 2), [.t 38], .none, none, none⟩,
         ⟨(some 13), (.alloc [.sl .no 1 [], .sl .no 1 []]), [], (.lo 13), none, none⟩,
         ⟨none, (.st 2), [.t 13, .t 39], (.lo 13), none, none⟩] [38, 39]) <|
      .seq (.reg true [] [
         ⟨(some 40), (.iaA 1 2), [.t 13, .c (.int .i64 0)], .none, none, none⟩,
         ⟨(some 41), (.ld false 1), [.t 40], (.lo 13), none, none⟩,
         ⟨(some 42), (.iaA 1 2), [.t 13, .c (.int .i64 1)], .none, none, none⟩,
         ⟨(some 43), (.ld false 1), [.t 42], (.lo 13), none, none⟩,
         ⟨(some 14), .mvo, [.t 41], .none, (some 41), none⟩,
         ⟨(some 15), .mvo, [.t 43], .none, (some 43), none⟩] [40, 41, 42, 43, 13]) <|
      .seq (.reg false [16] [
         ⟨(some 44), .mv, [.t 11], .none, none, none⟩,
         ⟨(some 45), (.call 11), [.t 44], .sh, none, none⟩,
         ⟨(some 16), (.alloc [.int .i64 0, .int .i64 0, .int .i64 0]), [], (.lo 16), none, none⟩,
         ⟨none, (.st 3), [.t 16, .t 45], (.lo 16), none, none⟩] [44, 45]) <|
      .seq (.seq (.reg true [] [
          ⟨(some 46), .mv, [.t 14], .none, none, none⟩,
          ⟨(some 47), (.call 19), [.t 46], .none, none, none⟩,
          ⟨(some 48), .mv, [.t 14], .none, none, none⟩,
          ⟨(some 49), (.call 20), [.t 48], .none, none, none⟩,
          ⟨(some 50), (.call 18), [.t 47, .t 49], .none, none, none⟩,
          ⟨(some 51), (.un .not), [.t 50], .none, none, none⟩,
          ⟨(some 52), .mv, [.t 51], .none, none, none⟩,
          ⟨(some 53), .mv, [.t 14], .none, none, (some (52, false))⟩,
          ⟨(some 54), .mv, [.t 15], .none, none, (some (52, false))⟩,
          ⟨(some 55), (.call 21), [.t 53, .t 54], .none, none, (some (52, false))⟩,
          ⟨(some 56), .mv, [.t 14], .none, none, (some (52, false))⟩,
          ⟨(some 57), .mv, [.t 15], .none, none, (some (52, false))⟩,
          ⟨(some 58), (.call 22), [.t 56, .t 57], .none, none, (some (52, false))⟩,
          ⟨(some 59), (.call 18), [.t 55, .t 58], .none, none, (some (52, false))⟩,
          ⟨(some 60), (.un .not), [.t 59], .none, none, (some (52, false))⟩,
          ⟨(some 61), .pick, [.t 52, .c (.bool true), .t 60], .none, none, none⟩,
          ⟨(some 62), .mv, [.t 61], .none, none, none⟩,
          ⟨(some 63), .mv, [.t 14], .none, none, (some (62, false))⟩,
          ⟨(some 64), .mv, [.t 15], .none, none, (some (62, false))⟩,
          ⟨(some 65), (.call 23), [.t 63, .t 64], .none, none, (some (62, false))⟩,
          ⟨(some 66), .mv, [.t 14], .none, none, (some (62, false))⟩,
          ⟨(some 67), .mv, [.t 15], .none, none, (some (62, false))⟩,
          ⟨(some 68), (.call 24), [.t 66, .t 67], .none, none, (some (62, false))⟩,
          ⟨(some 69), (.beq true), [.t 65, .t 68], .none, none, (some (62, false))⟩,
          ⟨(some 70), .pick, [.t 62, .c (.bool true), .t 69], .none, none, none⟩,
          ⟨(some 71), .mv, [.t 70], .none, none, none⟩,
          ⟨(some 72), .mv, [.t 14], .none, none, (some (71, false))⟩,
          ⟨(some 73), .mv, [.t 3], .none, none, (some (71, false))⟩,
          ⟨(some 74), (.call 25), [.t 72, .t 73], .none, none, (some (71, false))⟩,
          ⟨(some 75), .mv, [.t 14], .none, none, (some (71, false))⟩,
          ⟨(some 76), .mv, [.t 3], .none, none, (some (71, false))⟩,
          ⟨(some 77), (.call 26), [.t 75, .t 76], .none, none, (some (71, false))⟩,
          ⟨(some 78), (.bin .neq), [.t 74, .t 77], .none, none, (some (71, false))⟩,
          ⟨(some 79), .pick, [.t 71, .c (.bool true), .t 78], .none, none, none⟩,
          ⟨(some 80), .mv, [.t 79], .none, none, none⟩,
          ⟨(some 81), .mv, [.t 14], .none, none, (some (80, false))⟩,
          ⟨(some 82), (.ld true 3), [.t 7], (.lo 7), none, (some (80, false))⟩,
          ⟨(some 83), (.call 27), [.t 81, .t 82], .none, none, (some (80, false))⟩,
          ⟨(some 84), .mv, [.t 14], .none, none, (some (80, false))⟩,
          ⟨(some 85), (.ld true 3), [.t 7], (.lo 7), none, (some (80, false))⟩,
          ⟨(some 86), (.call 28), [.t 84, .t 85], .none, none, (some (80, false))⟩,
          ⟨(some 87), (.beq true), [.t 83, .t 86], .none, none, (some (80, false))⟩,
          ⟨(some 88), .pick, [.t 80, .c (.bool true), .t 87], .none, none, none⟩,
          ⟨(some 89), .mv, [.t 88], .none, none, none⟩,
          ⟨(some 90), .mv, [.t 14], .none, none, (some (89, false))⟩,
          ⟨(some 91), (.ld true 3), [.t 16], (.lo 16), none, (some (89, false))⟩,
          ⟨(some 92), (.call 27), [.t 90, .t 91], .none, none, (some (89, false))⟩,
          ⟨(some 93), .mv, [.t 14], .none, none, (some (89, false))⟩,
          ⟨(some 94), (.ld true 3), [.t 16], (.lo 16), none, (some (89, false))⟩,
          ⟨(some 95), (.call 28), [.t 93, .t 94], .none, none, (some (89, false))⟩,
          ⟨(some 96), (.beq true), [.t 92, .t 95], .none, none, (some (89, false))⟩,
          ⟨(some 97), .pick, [.t 89, .c (.bool true), .t 96], .none, none, none⟩] [46, 47, 48, 49, 50, 51, 52, 53, 54, 55, 56, 57, 58, 59, 60, 61, 62, 63, 64, 65, 66, 67, 68, 69, 70, 71, 72, 73, 74, 75, 76, 77, 78, 79, 80, 81, 82, 83, 84, 85, 86, 87, 88, 89, 90, 91, 92, 93, 94, 95, 96, 15, 16]) <|
       .cond (.t 97) (.seq (.reg false [] [⟨(some 10), .mv, [.c (.bool false)], .none, none, none⟩] []) <|
        .ret)
        (.skip)) <|
      .seq (.reg false [] [⟨(some 17), .mv, [.c (.int .i64 (-1))], .none, none, none⟩] []) <|
      .block 2 (L5_0))) <|
    .reg false [] [
      ⟨(some 119), (.bin .add), [.t 36, .c (.int .i64 1)], .none, none, none⟩,
      ⟨(some 36), .mv, [.t 119], .none, none, none⟩] [119])
def F5 : AFun :=
  { nargs := 5, keep := false, res := [.tmp 10], body :=
    .seq (.reg false [7] [
       ⟨(some 7), (.box 3), [.t 2], (.lo 7), none, none⟩,
       ⟨(some 10), .mv, [.c (.bool false)], .none, none, none⟩] [10, 2]) <|
    .seq (.seq (.reg false [] [
        ⟨(some 18), .mv, [.t 0], .none, none, none⟩,
        ⟨(some 19), .mv, [.t 1], .none, none, none⟩,
        ⟨(some 20), .mv, [.t 4], .none, none, none⟩,
        ⟨(some 21), (.mks 1 [.sl .no 1 []] 3 [0, 1, 2]), [.t 18, .t 19, .t 20], .none, none, none⟩,
        ⟨(some 22), (.call 8), [.t 21], .none, none, none⟩] [18, 19, 20, 21]) <|
     .cond (.t 22) (.seq (.reg false [] [
         ⟨(some 23), (.call 9), [], .none, none, none⟩,
         ⟨(some 10), .mv, [.t 23], .none, none, none⟩] [23]) <|
      .ret)
      (.skip)) <|
    .seq (.reg false [] [
       ⟨(some 24), .mv, [.t 4], .none, none, none⟩,
       ⟨(some 25), (.call 10), [.t 24], .sh, none, none⟩,
       ⟨(some 11), .mv, [.t 25], .none, none, none⟩] [24, 25, 4]) <|
    .seq (.seq (.reg false [] [
        ⟨(some 26), .mv, [.t 0], .none, none, none⟩,
        ⟨(some 27), .mv, [.t 1], .none, none, none⟩,
        ⟨(some 28), (.build [.sl .no 1 [], .sl .no 1 []] [(0, 1), (1, 1)]), [.t 26, .t 27], .none, none, none⟩,
        ⟨(some 29), .mv, [.t 11], .none, none, none⟩,
        ⟨(some 30), (.call 17), [.t 29], .sh, none, none⟩,
        ⟨(some 31), .mv, [.t 11], .none, none, none⟩,
        ⟨(some 32), (.call 17), [.t 31], .sh, none, none⟩,
        ⟨(some 33), (.build [.sl .no 1 [], .sl .no 1 []] [(0, 1), (1, 1)]), [.t 30, .t 32], .none, none, none⟩,
        ⟨(some 34), (.mks 2 [.sl .no 1 [], .sl .no 1 []] 2 [0, 1]), [.t 28, .t 33], .none, none, none⟩,
        ⟨(some 35), (.len false), [.t 34], .none, none, none⟩,
        ⟨(some 36), .mv, [.c (.int .i64 0)], .none, none, none⟩] [26, 27, 28, 29, 30, 31, 32, 33, 0, 1]) <|
     .block 0 (L5_1)) <|
    .seq (.reg false [] [
       ⟨(some 120), (.call 9), [], .none, none, none⟩,
       ⟨(some 10), .mv, [.t 120], .none, none, none⟩] [120]) <|
    .ret }

/- bitext/bitextlaw36.StampJoins -/
def F6 : AFun :=
  { nargs := 1, keep := false, res := [.tmp 2], body :=
    .seq (.reg false [] [⟨(some 2), .mv, [.c (.bool false)], .none, none, none⟩] [2]) <|
    .seq (.seq (.reg false [] [
        ⟨(some 8), .mv, [.t 0], .none, none, none⟩,
        ⟨(some 9), (.mks 1 [.sl .no 1 []] 1 [0]), [.t 8], .none, none, none⟩,
        ⟨(some 10), (.call 8), [.t 9], .none, none, none⟩] [8, 9]) <|
     .cond (.t 10) (.seq (.reg false [] [
         ⟨(some 11), (.call 9), [], .none, none, none⟩,
         ⟨(some 2), .mv, [.t 11], .none, none, none⟩] [11]) <|
      .ret)
      (.skip)) <|
    .seq (.reg false [] [
       ⟨(some 12), .mv, [.t 0], .none, none, none⟩,
       ⟨(some 13), (.call 10), [.t 12], .sh, none, none⟩,
       ⟨(some 3), .mv, [.t 13], .none, none, none⟩] [12, 13, 0]) <|
    .seq (.reg false [] [
       ⟨(some 14), .mv, [.t 3], .none, none, none⟩,
       ⟨(some 15), (.call 17), [.t 14], .sh, none, none⟩,
       ⟨(some 16), .mv, [.t 3], .none, none, none⟩,
       ⟨(some 17), (.call 17), [.t 16], .sh, none, none⟩,
       ⟨(some 18), .mv, [.t 3], .none, none, none⟩,
       ⟨(some 19), (.call 17), [.t 18], .sh, none, none⟩,
       ⟨(some 4), .mvo, [.t 15], .none, (some 15), none⟩,
       ⟨(some 5), .mvo, [.t 17], .none, (some 17), none⟩,
       ⟨(some 6), .mvo, [.t 19], .none, (some 19), none⟩] [14, 15, 16, 17, 18, 19, 3]) <|
    .seq (.reg false [] [
       ⟨(some 20), .mv, [.t 4], .none, none, none⟩,
       ⟨(some 21), .mv, [.t 5], .none, none, none⟩,
       ⟨(some 22), (.call 21), [.t 20, .t 21], .none, none, none⟩,
       ⟨(some 7), .mvo, [.t 22], .none, (some 22), none⟩] [20, 21, 22]) <|
    .seq (.reg false [] [
       ⟨(some 23), .mv, [.t 7], .none, none, none⟩,
       ⟨(some 24), .mv, [.t 5], .none, none, none⟩,
       ⟨(some 25), .mv, [.t 4], .none, none, none⟩,
       ⟨(some 26), (.call 21), [.t 24, .t 25], .none, none, none⟩,
       ⟨(some 27), (.call 18), [.t 23, .t 26], .none, none, none⟩,
       ⟨(some 28), .mv, [.t 27], .none, none, none⟩,
       ⟨(some 29), .mv, [.t 7], .none, none, (some (28, true))⟩,
       ⟨(some 30), .mv, [.t 6], .none, none, (some (28, true))⟩,
       ⟨(some 31), (.call 21), [.t 29, .t 30], .none, none, (some (28, true))⟩,
       ⟨(some 32), .mv, [.t 4], .none, none, (some (28, true))⟩,
       ⟨(some 33), .mv, [.t 5], .none, none, (some (28, true))⟩,
       ⟨(some 34), .mv, [.t 6], .none, none, (some (28, true))⟩,
       ⟨(some 35), (.call 21), [.t 33, .t 34], .none, none, (some (28, true))⟩,
       ⟨(some 36), (.call 21), [.t 32, .t 35], .none, none, (some (28, true))⟩,
       ⟨(some 37), (.call 18), [.t 31, .t 36], .none, none, (some (28, true))⟩,
       ⟨(some 38), .pick, [.t 28, .t 37, .c (.bool false)], .none, none, none⟩,
       ⟨(some 39), .mv, [.t 38], .none, none, none⟩,
       ⟨(some 40), .mv, [.t 4], .none, none, (some (39, true))⟩,
       ⟨(some 41), .mv, [.t 4], .none, none, (some (39, true))⟩,
       ⟨(some 42), (.call 21), [.t 40, .t 41], .none, none, (some (39, true))⟩,
       ⟨(some 43), .mv, [.t 4], .none, none, (some (39, true))⟩,
       ⟨(some 44), (.call 19), [.t 43], .none, none, (some (39, true))⟩,
       ⟨(some 45), (.call 18), [.t 42, .t 44], .none, none, (some (39, true))⟩,
       ⟨(some 46), .pick, [.t 39, .t 45, .c (.bool false)], .none, none, none⟩,
       ⟨(some 47), .mv, [.t 46], .none, none, none⟩,
       ⟨(some 48), .mv, [.t 7], .none, none, (some (47, true))⟩,
       ⟨(some 49), .mv, [.t 4], .none, none, (some (47, true))⟩,
       ⟨(some 50), (.call 23), [.t 48, .t 49], .none, none, (some (47, true))⟩,
       ⟨(some 51), .pick, [.t 47, .t 50, .c (.bool false)], .none, none, none⟩,
       ⟨(some 52), .mv, [.t 51], .none, none, none⟩,
       ⟨(some 53), .mv, [.t 7], .none, none, (some (52, true))⟩,
       ⟨(some 54), .mv, [.t 5], .none, none, (some (52, true))⟩,
       ⟨(some 55), (.call 23), [.t 53, .t 54], .none, none, (some (52, true))⟩,
       ⟨(some 56), .pick, [.t 52, .t 55, .c (.bool false)], .none, none, none⟩,
       ⟨(some 57), .mv, [.t 56], .none, none, none⟩,
       ⟨(some 58), .mv, [.t 6], .none, none, (some (57, true))⟩,
       ⟨(some 59), .mv, [.t 7], .none, none, (some (57, true))⟩,
       ⟨(some 60), (.call 23), [.t 58, .t 59], .none, none, (some (57, true))⟩,
       ⟨(some 61), .mv, [.t 6], .none, none, (some (57, true))⟩,
       ⟨(some 62), .mv, [.t 4], .none, none, (some (57, true))⟩,
       ⟨(some 63), (.call 23), [.t 61, .t 62], .none, none, (some (57, true))⟩,
       ⟨(some 64), .mv, [.t 63], .none, none, (some (57, true))⟩,
       ⟨(some 65), .mv, [.t 6], .none, none, (some (64, true))⟩,
       ⟨(some 66), .mv, [.t 5], .none, none, (some (64, true))⟩,
       ⟨(some 67), (.call 23), [.t 65, .t 66], .none, none, (some (64, true))⟩,
       ⟨(some 68), .pick, [.t 64, .t 67, .c (.bool false)], .none, none, (some (57, true))⟩,
       ⟨(some 69), (.beq false), [.t 60, .t 68], .none, none, (some (57, true))⟩,
       ⟨(some 70), .pick, [.t 57, .t 69, .c (.bool false)], .none, none, none⟩,
       ⟨(some 71), .mv, [.t 70], .none, none, none⟩,
       ⟨(some 72), (.call 9), [], .none, none, (some (71, true))⟩,
       ⟨(some 73), .pick, [.t 71, .t 72, .c (.bool false)], .none, none, none⟩,
       ⟨(some 2), .mv, [.t 73], .none, none, none⟩] [23, 24, 25, 26, 27, 28, 29, 30, 31, 32, 33, 34, 35, 36, 37, 38, 39, 40, 41, 42, 43, 44, 45, 46, 47, 48, 49, 50, 51, 52, 53, 54, 55, 56, 57, 58, 59, 60, 61, 62, 63, 64, 65, 66, 67, 68, 69, 70, 71, 72, 73, 7, 5, 4, 6]) <|
    .ret }

/- bitext/bitextlaw36.StampContains -/
def L7_0 : ACode :=
  .loop [60, 61, 64, 65, 66, 67, 68, 9, 69, 70, 71, 72, 73, 74, 75, 76, 77, 78, 79, 62, 63] (.seq (.seq (.reg false [] [
        ⟨(some 60), .mv, [.t 8], .none, none, none⟩,
        ⟨(some 61), (.bin .lss), [.t 60, .c (.int .i64 8)], .none, none, none⟩] [60]) <|
     .cond (.t 61) (.skip)
      (.exit 0)) <|
    .seq (.block 1 (.seq (.reg false [9] [
         ⟨(some 64), .mv, [.t 8], .none, none, none⟩,
         ⟨(some 65), .mv, [.t 5], .none, none, none⟩,
         ⟨(some 66), .mv, [.t 8], .none, none, none⟩,
         ⟨(some 67), (.call 25), [.t 65, .t 66], .none, none, none⟩,
         ⟨(some 68), (.build [.int .i64 0, .int .i64 0, .int .i64 0] [(0, 1), (1, 1), (2, 1)]), [.c (.int .i64 1), .t 64, .t 67], .none, none, none⟩,
         ⟨(some 9), (.alloc [.int .i64 0, .int .i64 0, .int .i64 0]), [], (.lo 9), none, none⟩,
         ⟨none, (.st 3), [.t 9, .t 68], (.lo 9), none, none⟩] [64, 65, 66, 67, 68]) <|
      .reg false [] [
        ⟨(some 69), .mv, [.t 7], .none, none, none⟩,
        ⟨(some 70), .mv, [.t 69], .none, none, none⟩,
        ⟨(some 71), (.fa 2), [.t 9], .none, none, (some (70, true))⟩,
        ⟨(some 72), (.ld false 1), [.t 71], (.lo 9), none, (some (70, true))⟩,
        ⟨(some 73), (.bin .eql), [.t 72, .c (.int .i64 0)], .none, none, (some (70, true))⟩,
        ⟨(some 74), .mv, [.t 73], .none, none, (some (70, true))⟩,
        ⟨(some 75), .mv, [.t 4], .none, none, (some (74, false))⟩,
        ⟨(some 76), (.ld true 3), [.t 9], (.lo 9), none, (some (74, false))⟩,
        ⟨(some 77), (.call 27), [.t 75, .t 76], .none, none, (some (74, false))⟩,
        ⟨(some 78), .pick, [.t 74, .c (.bool true), .t 77], .none, none, (some (70, true))⟩,
        ⟨(some 79), .pick, [.t 70, .t 78, .c (.bool false)], .none, none, none⟩,
        ⟨(some 7), .mv, [.t 79], .none, none, none⟩] [69, 70, 71, 72, 73, 74, 75, 76, 77, 78, 79, 9])) <|
    .reg false [] [
      ⟨(some 62), .mv, [.t 8], .none, none, none⟩,
      ⟨(some 63), (.bin .add), [.t 62, .c (.int .i64 1)], .none, none, none⟩,
      ⟨(some 8), .mv, [.t 63], .none, none, none⟩] [62, 63])
def F7 : AFun :=
  { nargs := 1, keep := false, res := [.tmp 2], body :=
    .seq (.reg false [] [⟨(some 2), .mv, [.c (.bool false)], .none, none, none⟩] [2]) <|
    .seq (.seq (.reg false [] [
        ⟨(some 10), .mv, [.t 0], .none, none, none⟩,
        ⟨(some 11), (.mks 1 [.sl .no 1 []] 1 [0]), [.t 10], .none, none, none⟩,
        ⟨(some 12), (.call 8), [.t 11], .none, none, none⟩] [10, 11]) <|
     .cond (.t 12) (.seq (.reg false [] [
         ⟨(some 13), (.call 9), [], .none, none, none⟩,
         ⟨(some 2), .mv, [.t 13], .none, none, none⟩] [13]) <|
      .ret)
      (.skip)) <|
    .seq (.reg false [] [
       ⟨(some 14), .mv, [.t 0], .none, none, none⟩,
       ⟨(some 15), (.call 10), [.t 14], .sh, none, none⟩,
       ⟨(some 3), .mv, [.t 15], .none, none, none⟩] [14, 15, 0]) <|
    .seq (.reg false [] [
       ⟨(some 16), .mv, [.t 3], .none, none, none⟩,
       ⟨(some 17), (.call 17), [.t 16], .sh, none, none⟩,
       ⟨(some 18), .mv, [.t 3], .none, none, none⟩,
       ⟨(some 19), (.call 17), [.t 18], .sh, none, none⟩,
       ⟨(some 20), .mv, [.t 3], .none, none, none⟩,
       ⟨(some 21), (.call 17), [.t 20], .sh, none, none⟩,
       ⟨(some 4), .mvo, [.t 17], .none, (some 17), none⟩,
       ⟨(some 5), .mvo, [.t 19], .none, (some 19), none⟩,
       ⟨(some 6), .mvo, [.t 21], .none, (some 21), none⟩] [16, 17, 18, 19, 20, 21, 3]) <|
    .seq (.seq (.reg false [] [
        ⟨(some 22), .mv, [.t 4], .none, none, none⟩,
        ⟨(some 23), .mv, [.t 4], .none, none, none⟩,
        ⟨(some 24), (.call 23), [.t 22, .t 23], .none, none, none⟩,
        ⟨(some 25), (.un .not), [.t 24], .none, none, none⟩,
        ⟨(some 26), .mv, [.t 25], .none, none, none⟩,
        ⟨(some 27), .mv, [.t 4], .none, none, (some (26, false))⟩,
        ⟨(some 28), .mv, [.t 5], .none, none, (some (26, false))⟩,
        ⟨(some 29), (.call 23), [.t 27, .t 28], .none, none, (some (26, false))⟩,
        ⟨(some 30), .mv, [.t 29], .none, none, (some (26, false))⟩,
        ⟨(some 31), .mv, [.t 5], .none, none, (some (30, true))⟩,
        ⟨(some 32), .mv, [.t 6], .none, none, (some (30, true))⟩,
        ⟨(some 33), (.call 23), [.t 31, .t 32], .none, none, (some (30, true))⟩,
        ⟨(some 34), .pick, [.t 30, .t 33, .c (.bool false)], .none, none, (some (26, false))⟩,
        ⟨(some 35), .mv, [.t 34], .none, none, (some (26, false))⟩,
        ⟨(some 36), .mv, [.t 4], .none, none, (some (35, true))⟩,
        ⟨(some 37), .mv, [.t 6], .none, none, (some (35, true))⟩,
        ⟨(some 38), (.call 23), [.t 36, .t 37], .none, none, (some (35, true))⟩,
        ⟨(some 39), (.un .not), [.t 38], .none, none, (some (35, true))⟩,
        ⟨(some 40), .pick, [.t 35, .t 39, .c (.bool false)], .none, none, (some (26, false))⟩,
        ⟨(some 41), .pick, [.t 26, .c (.bool true), .t 40], .none, none, none⟩,
        ⟨(some 42), .mv, [.t 41], .none, none, none⟩,
        ⟨(some 43), .mv, [.t 4], .none, none, (some (42, false))⟩,
        ⟨(some 44), .mv, [.t 5], .none, none, (some (42, false))⟩,
        ⟨(some 45), (.call 23), [.t 43, .t 44], .none, none, (some (42, false))⟩,
        ⟨(some 46), .mv, [.t 45], .none, none, (some (42, false))⟩,
        ⟨(some 47), .mv, [.t 5], .none, none, (some (46, true))⟩,
        ⟨(some 48), .mv, [.t 4], .none, none, (some (46, true))⟩,
        ⟨(some 49), (.call 23), [.t 47, .t 48], .none, none, (some (46, true))⟩,
        ⟨(some 50), .pick, [.t 46, .t 49, .c (.bool false)], .none, none, (some (42, false))⟩,
        ⟨(some 51), .mv, [.t 50], .none, none, (some (42, false))⟩,
        ⟨(some 52), .mv, [.t 4], .none, none, (some (51, true))⟩,
        ⟨(some 53), (.call 19), [.t 52], .none, none, (some (51, true))⟩,
        ⟨(some 54), .mv, [.t 5], .none, none, (some (51, true))⟩,
        ⟨(some 55), (.call 19), [.t 54], .none, none, (some (51, true))⟩,
        ⟨(some 56), (.call 18), [.t 53, .t 55], .none, none, (some (51, true))⟩,
        ⟨(some 57), (.un .not), [.t 56], .none, none, (some (51, true))⟩,
        ⟨(some 58), .pick, [.t 51, .t 57, .c (.bool false)], .none, none, (some (42, false))⟩,
        ⟨(some 59), .pick, [.t 42, .c (.bool true), .t 58], .none, none, none⟩] [22, 23, 24, 25, 26, 27, 28, 29, 30, 31, 32, 33, 34, 35, 36, 37, 38, 39, 40, 41, 42, 43, 44, 45, 46, 47, 48, 49, 50, 51, 52, 53, 54, 55, 56, 57, 58, 6]) <|
     .cond (.t 59) (.seq (.reg false [] [⟨(some 2), .mv, [.c (.bool false)], .none, none, none⟩] []) <|
      .ret)
      (.skip)) <|
    .seq (.reg false [] [⟨(some 7), .mv, [.c (.bool true)], .none, none, none⟩] []) <|
    .seq (.seq (.reg false [] [⟨(some 8), .mv, [.c (.int .i64 0)], .none, none, none⟩] []) <|
     .block 0 (L7_0)) <|
    .seq (.reg false [] [
       ⟨(some 80), .mv, [.t 7], .none, none, none⟩,
       ⟨(some 81), .mv, [.t 4], .none, none, none⟩,
       ⟨(some 82), .mv, [.t 5], .none, none, none⟩,
       ⟨(some 83), (.call 23), [.t 81, .t 82], .none, none, none⟩,
       ⟨(some 84), (.beq false), [.t 80, .t 83], .none, none, none⟩,
       ⟨(some 85), .mv, [.t 84], .none, none, none⟩,
       ⟨(some 86), (.call 9), [], .none, none, (some (85, true))⟩,
       ⟨(some 87), .pick, [.t 85, .t 86, .c (.bool false)], .none, none, none⟩,
       ⟨(some 2), .mv, [.t 87], .none, none, none⟩] [80, 81, 82, 83, 84, 85, 86, 87, 7, 4, 5]) <|
    .ret }

/- bitext/bitextlaw36.long -/
def L8_0 : ACode :=
  .loop [9, 10, 11, 5, 12, 13, 14, 15, 16] (.seq (.reg false [] [⟨(some 9), (.bin .lss), [.t 8, .t 7], .none, none, none⟩] []) <|
    .seq (.cond (.t 9) (.skip)
      (.exit 0)) <|
    .seq (.block 1 (.seq (.reg false [] [
         ⟨(some 10), (.ia 1), [.t 6, .t 8], .none, none, none⟩,
         ⟨(some 11), (.ld false 1), [.t 10], .none, none, none⟩,
         ⟨(some 5), .mvo, [.t 11], .none, (some 11), none⟩] [10, 11]) <|
      .reg false [] [
        ⟨(some 12), .mv, [.t 3], .none, none, none⟩,
        ⟨(some 13), .mv, [.t 5], .none, none, none⟩,
        ⟨(some 14), (.len false), [.t 13], .none, none, none⟩,
        ⟨(some 15), (.bin .add), [.t 12, .t 14], .none, none, none⟩,
        ⟨(some 3), .mv, [.t 15], .none, none, none⟩] [12, 13, 14, 15, 5])) <|
    .reg false [] [
      ⟨(some 16), (.bin .add), [.t 8, .c (.int .i64 1)], .none, none, none⟩,
      ⟨(some 8), .mv, [.t 16], .none, none, none⟩] [16])
def F8 : AFun :=
  { nargs := 1, keep := false, res := [.tmp 2], body :=
    .seq (.reg false [] [⟨(some 2), .mv, [.c (.bool false)], .none, none, none⟩] [2]) <|
    .seq (.reg false [] [⟨(some 3), .mv, [.c (.int .i64 0)], .none, none, none⟩] []) <|
    .seq (.seq (.reg false [] [
        ⟨(some 6), .mv, [.t 0], .none, none, none⟩,
        ⟨(some 7), (.len false), [.t 6], .none, none, none⟩,
        ⟨(some 8), .mv, [.c (.int .i64 0)], .none, none, none⟩] [0]) <|
     .block 0 (L8_0)) <|
    .seq (.reg false [] [
       ⟨(some 17), .mv, [.t 3], .none, none, none⟩,
       ⟨(some 18), (.bin .gtr), [.t 17, .c (.int .i64 160)], .none, none, none⟩,
       ⟨(some 2), .mv, [.t 18], .none, none, none⟩] [17, 18, 3]) <|
    .ret }

/- bitext/bitextlaw36.known -/
def F9 : AFun :=
  { nargs := 0, keep := false, res := [.tmp 0], body :=
    .seq (.reg false [] [⟨(some 0), .mv, [.c (.bool false)], .none, none, none⟩] [0]) <|
    .seq (.reg false [] [
       ⟨(some 1), (.mks 1 [.int .i64 0] 3 [0, 1, 2]), [.c (.int .i64 1), .c (.int .i64 (-2)), .c (.int .i64 0)], .none, none, none⟩,
       ⟨(some 2), (.call 19), [.t 1], .none, none, none⟩,
       ⟨(some 3), (.mks 1 [.int .i64 0] 1 [0]), [.c (.int .i64 1)], .none, none, none⟩,
       ⟨(some 4), (.call 18), [.t 2, .t 3], .none, none, none⟩,
       ⟨(some 5), .mv, [.t 4], .none, none, none⟩,
       ⟨(some 6), (.mks 1 [.int .i64 0] 2 [0, 1]), [.c (.int .i64 1), .c (.int .i64 2)], .none, none, (some (5, true))⟩,
       ⟨(some 7), (.mks 1 [.int .i64 0] 3 [0, 1, 2]), [.c (.int .i64 0), .c (.int .i64 3), .c (.int .i64 1)], .none, none, (some (5, true))⟩,
       ⟨(some 8), (.call 21), [.t 6, .t 7], .none, none, (some (5, true))⟩,
       ⟨(some 9), (.mks 1 [.int .i64 0] 3 [0, 1, 2]), [.c (.int .i64 1), .c (.int .i64 3), .c (.int .i64 1)], .none, none, (some (5, true))⟩,
       ⟨(some 10), (.call 18), [.t 8, .t 9], .none, none, (some (5, true))⟩,
       ⟨(some 11), .pick, [.t 5, .t 10, .c (.bool false)], .none, none, none⟩,
       ⟨(some 12), .mv, [.t 11], .none, none, none⟩,
       ⟨(some 13), (.mks 1 [.int .i64 0] 2 [0, 1]), [.c (.int .i64 0), .c (.int .i64 2)], .none, none, (some (12, true))⟩,
       ⟨(some 14), (.build [.int .i64 0, .int .i64 0, .int .i64 0] [(1, 1), (2, 1)]), [.c (.int .i64 1), .c (.int .i64 2)], .none, none, (some (12, true))⟩,
       ⟨(some 15), (.call 27), [.t 13, .t 14], .none, none, (some (12, true))⟩,
       ⟨(some 16), .pick, [.t 12, .t 15, .c (.bool false)], .none, none, none⟩,
       ⟨(some 17), .mv, [.t 16], .none, none, none⟩,
       ⟨(some 18), (.mks 1 [.int .i64 0] 2 [0, 1]), [.c (.int .i64 0), .c (.int .i64 2)], .none, none, (some (17, true))⟩,
       ⟨(some 19), (.build [.int .i64 0, .int .i64 0, .int .i64 0] [(1, 1), (2, 1)]), [.c (.int .i64 1), .c (.int .i64 3)], .none, none, (some (17, true))⟩,
       ⟨(some 20), (.call 27), [.t 18, .t 19], .none, none, (some (17, true))⟩,
       ⟨(some 21), (.un .not), [.t 20], .none, none, (some (17, true))⟩,
       ⟨(some 22), .pick, [.t 17, .t 21, .c (.bool false)], .none, none, none⟩,
       ⟨(some 23), .mv, [.t 22], .none, none, none⟩,
       ⟨(some 24), (.build [.int .i64 0, .int .i64 0, .int .i64 0] [(0, 1), (1, 1)]), [.c (.int .i64 1), .c (.int .i64 2)], .none, none, (some (23, true))⟩,
       ⟨(some 25), (.build [.int .i64 0, .int .i64 0, .int .i64 0] [(0, 1)]), [.c (.int .i64 2)], .none, none, (some (23, true))⟩,
       ⟨(some 26), (.call 12), [.t 24, .t 25], .none, none, (some (23, true))⟩,
       ⟨(some 27), (.bin .eql), [.t 26, .c (.int .i64 (-1))], .none, none, (some (23, true))⟩,
       ⟨(some 28), .pick, [.t 23, .t 27, .c (.bool false)], .none, none, none⟩,
       ⟨(some 0), .mv, [.t 28], .none, none, none⟩] [1, 2, 3, 4, 5, 6, 7, 8, 9, 10, 11, 12, 13, 14, 15, 16, 17, 18, 19, 20, 21, 22, 23, 24, 25, 26, 27, 28]) <|
    .ret }

/- bitext/bitextlaw36.from -/
def F10 : AFun :=
  { nargs := 1, keep := true, res := [.tmp 2], body :=
    .seq (.reg false [] [⟨(some 2), .mv, [.c (.nilp)], .none, none, none⟩] [2]) <|
    .seq (.reg false [] [
       ⟨(some 3), .mv, [.t 0], .none, none, none⟩,
       ⟨(some 4), (.build [.sl .no 1 [], .int .i64 0] [(0, 1)]), [.t 3], .none, none, none⟩,
       ⟨(some 5), (.boxS 2), [.t 4], .sh, none, none⟩,
       ⟨(some 2), .mv, [.t 5], .none, none, none⟩] [3, 4, 5, 0]) <|
    .ret }

/- bitext/bitextlaw36.stampOf -/
def F11 : AFun :=
  { nargs := 1, keep := false, res := [.cell 2 true 3], body :=
    .seq (.reg false [2] [⟨(some 2), (.alloc [.int .i64 0, .int .i64 0, .int .i64 0]), [], (.lo 2), none, none⟩] []) <|
    .seq (.reg false [] [
       ⟨(some 3), .mv, [.t 0], .none, none, none⟩,
       ⟨(some 4), (.call 14), [.t 3, .c (.int .i64 4)], .sh, none, none⟩,
       ⟨(some 5), .mv, [.t 0], .none, none, none⟩,
       ⟨(some 6), (.call 14), [.t 5, .c (.int .i64 10)], .sh, none, none⟩,
       ⟨(some 7), (.bin .sub), [.t 6, .c (.int .i64 1)], .none, none, none⟩,
       ⟨(some 8), .mv, [.t 0], .none, none, none⟩,
       ⟨(some 9), (.call 14), [.t 8, .c (.int .i64 5)], .sh, none, none⟩,
       ⟨(some 10), (.bin .sub), [.t 9, .c (.int .i64 1)], .none, none, none⟩,
       ⟨(some 11), (.build [.int .i64 0, .int .i64 0, .int .i64 0] [(0, 1), (1, 1), (2, 1)]), [.t 4, .t 7, .t 10], .none, none, none⟩,
       ⟨none, (.st 3), [.t 2, .t 11], (.lo 2), none, none⟩] [3, 4, 5, 6, 7, 8, 9, 10, 11, 0]) <|
    .ret }

/- bitext/stamp.Compare -/
def F12 : AFun :=
  { nargs := 2, keep := false, res := [.tmp 4], body :=
    .seq (.reg false [2, 3] [
       ⟨(some 2), (.box 3), [.t 0], (.lo 2), none, none⟩,
       ⟨(some 3), (.box 3), [.t 1], (.lo 3), none, none⟩,
       ⟨(some 4), .mv, [.c (.int .i64 0)], .none, none, none⟩] [4, 0, 1]) <|
    .seq (.reg true [] [
       ⟨(some 5), (.fa 0), [.t 2], .none, none, none⟩,
       ⟨(some 6), (.ld false 1), [.t 5], (.lo 2), none, none⟩,
       ⟨(some 7), (.fa 0), [.t 3], .none, none, none⟩,
       ⟨(some 8), (.ld false 1), [.t 7], (.lo 3), none, none⟩,
       ⟨(some 9), (.call 30), [.t 6, .t 8], .none, none, none⟩,
       ⟨(some 10), (.fa 1), [.t 2], .none, none, none⟩,
       ⟨(some 11), (.ld false 1), [.t 10], (.lo 2), none, none⟩,
       ⟨(some 12), (.fa 1), [.t 3], .none, none, none⟩,
       ⟨(some 13), (.ld false 1), [.t 12], (.lo 3), none, none⟩,
       ⟨(some 14), (.call 30), [.t 11, .t 13], .none, none, none⟩,
       ⟨(some 15), (.fa 2), [.t 2], .none, none, none⟩,
       ⟨(some 16), (.ld false 1), [.t 15], (.lo 2), none, none⟩,
       ⟨(some 17), (.fa 2), [.t 3], .none, none, none⟩,
       ⟨(some 18), (.ld false 1), [.t 17], (.lo 3), none, none⟩,
       ⟨(some 19), (.call 30), [.t 16, .t 18], .none, none, none⟩,
       ⟨(some 20), (.mks 1 [.int .i64 0] 3 [0, 1, 2]), [.t 9, .t 14, .t 19], .none, none, none⟩,
       ⟨(some 21), (.call 29), [.t 20], .none, none, none⟩,
       ⟨(some 4), .mv, [.t 21], .none, none, none⟩] [5, 6, 7, 8, 9, 10, 11, 12, 13, 14, 15, 16, 17, 18, 19, 20, 21, 2, 3]) <|
    .ret }

/- bitext/bitextref36.CompareStamps -/
def F13 : AFun :=
  { nargs := 2, keep := false, res := [.tmp 4], body :=
    .seq (.reg false [2, 3] [
       ⟨(some 2), (.box 3), [.t 0], (.lo 2), none, none⟩,
       ⟨(some 3), (.box 3), [.t 1], (.lo 3), none, none⟩,
       ⟨(some 4), .mv, [.c (.int .i64 0)], .none, none, none⟩] [4, 0, 1]) <|
    .seq (.seq (.reg false [] [
        ⟨(some 7), (.fa 0), [.t 2], .none, none, none⟩,
        ⟨(some 8), (.ld false 1), [.t 7], (.lo 2), none, none⟩,
        ⟨(some 9), (.fa 0), [.t 3], .none, none, none⟩,
        ⟨(some 10), (.ld false 1), [.t 9], (.lo 3), none, none⟩,
        ⟨(some 11), (.call 31), [.t 8, .t 10], .none, none, none⟩,
        ⟨(some 5), .mv, [.t 11], .none, none, none⟩] [7, 8, 9, 10, 11]) <|
     .seq (.reg false [] [
        ⟨(some 12), .mv, [.t 5], .none, none, none⟩,
        ⟨(some 13), (.bin .neq), [.t 12, .c (.int .i64 0)], .none, none, none⟩] [12]) <|
     .cond (.t 13) (.seq (.reg false [] [
         ⟨(some 14), .mv, [.t 5], .none, none, none⟩,
         ⟨(some 4), .mv, [.t 14], .none, none, none⟩] [14, 5]) <|
      .ret)
      (.skip)) <|
    .seq (.seq (.reg false [] [
        ⟨(some 15), (.fa 1), [.t 2], .none, none, none⟩,
        ⟨(some 16), (.ld false 1), [.t 15], (.lo 2), none, none⟩,
        ⟨(some 17), (.fa 1), [.t 3], .none, none, none⟩,
        ⟨(some 18), (.ld false 1), [.t 17], (.lo 3), none, none⟩,
        ⟨(some 19), (.call 31), [.t 16, .t 18], .none, none, none⟩,
        ⟨(some 6), .mv, [.t 19], .none, none, none⟩] [15, 16, 17, 18, 19]) <|
     .seq (.reg false [] [
        ⟨(some 20), .mv, [.t 6], .none, none, none⟩,
        ⟨(some 21), (.bin .neq), [.t 20, .c (.int .i64 0)], .none, none, none⟩] [20]) <|
     .cond (.t 21) (.seq (.reg false [] [
         ⟨(some 22), .mv, [.t 6], .none, none, none⟩,
         ⟨(some 4), .mv, [.t 22], .none, none, none⟩] [22, 6]) <|
      .ret)
      (.skip)) <|
    .seq (.reg false [] [
       ⟨(some 23), (.fa 2), [.t 2], .none, none, none⟩,
       ⟨(some 24), (.ld false 1), [.t 23], (.lo 2), none, none⟩,
       ⟨(some 25), (.fa 2), [.t 3], .none, none, none⟩,
       ⟨(some 26), (.ld false 1), [.t 25], (.lo 3), none, none⟩,
       ⟨(some 27), (.call 31), [.t 24, .t 26], .none, none, none⟩,
       ⟨(some 4), .mv, [.t 27], .none, none, none⟩] [23, 24, 25, 26, 27, 2, 3]) <|
    .ret }

/- (*bitext/bitextmake.Numbers).Next -/
def F14 : AFun :=
  { nargs := 2, keep := false, res := [.tmp 4], body :=
    .seq (.reg false [] [⟨(some 4), .mv, [.c (.int .i64 0)], .none, none, none⟩] [4]) <|
    .seq (.reg false [] [⟨(some 5), .mv, [.c (.int .i64 0)], .none, none, none⟩] []) <|
    .seq (.seq (.reg true [] [
        ⟨(some 6), .mv, [.t 0], .none, none, none⟩,
        ⟨(some 7), .nilc, [.t 6], .none, none, none⟩,
        ⟨(some 8), (.fa 1), [.t 7], .none, none, none⟩,
        ⟨(some 9), (.ld false 1), [.t 8], .sh, none, none⟩,
        ⟨(some 10), .mv, [.t 0], .none, none, none⟩,
        ⟨(some 11), .nilc, [.t 10], .none, none, none⟩,
        ⟨(some 12), (.fa 0), [.t 11], .none, none, none⟩,
        ⟨(some 13), (.ld false 1), [.t 12], .sh, none, none⟩,
        ⟨(some 14), (.len false), [.t 13], .none, none, none⟩,
        ⟨(some 15), (.bin .lss), [.t 9, .t 14], .none, none, none⟩] [6, 7, 8, 9, 10, 11, 12, 13, 14]) <|
     .cond (.t 15) (.reg true [] [
        ⟨(some 16), .mv, [.t 0], .none, none, none⟩,
        ⟨(some 17), .nilc, [.t 16], .none, none, none⟩,
        ⟨(some 18), (.fa 0), [.t 17], .none, none, none⟩,
        ⟨(some 19), (.ld false 1), [.t 18], .sh, none, none⟩,
        ⟨(some 20), .mv, [.t 0], .none, none, none⟩,
        ⟨(some 21), .nilc, [.t 20], .none, none, none⟩,
        ⟨(some 22), (.fa 1), [.t 21], .none, none, none⟩,
        ⟨(some 23), (.ld false 1), [.t 22], .sh, none, none⟩,
        ⟨(some 24), (.ia 1), [.t 19, .t 23], .none, none, none⟩,
        ⟨(some 25), (.ld false 1), [.t 24], .none, none, none⟩,
        ⟨(some 5), .mv, [.t 25], .none, none, none⟩] [16, 17, 18, 19, 20, 21, 22, 23, 24, 25])
      (.skip)) <|
    .seq (.reg false [] [
       ⟨(some 26), .mv, [.t 0], .none, none, none⟩,
       ⟨(some 27), .nilc, [.t 26], .none, none, none⟩,
       ⟨(some 28), (.fa 1), [.t 27], .none, none, none⟩,
       ⟨(some 29), (.ld false 1), [.t 28], .sh, none, none⟩,
       ⟨(some 30), (.bin .add), [.t 29, .c (.int .i64 1)], .none, none, none⟩,
       ⟨(some 31), .nilc, [.t 26], .none, none, none⟩,
       ⟨(some 32), (.fa 1), [.t 31], .none, none, none⟩,
       ⟨none, (.st 1), [.t 32, .t 30], .sh, none, none⟩] [26, 27, 28, 29, 30, 31, 32, 0]) <|
    .seq (.reg false [] [
       ⟨(some 33), .mv, [.t 5], .none, none, none⟩,
       ⟨(some 34), .mv, [.t 1], .none, none, none⟩,
       ⟨(some 35), (.call 32), [.t 33, .t 34], .none, none, none⟩,
       ⟨(some 4), .mv, [.t 35], .none, none, none⟩] [33, 34, 35, 5, 1]) <|
    .ret }

/- bitext/stamp.Validate -/
def F15 : AFun :=
  { nargs := 1, keep := false, res := [.tmp 2], body :=
    .seq (.reg false [1] [
       ⟨(some 1), (.box 3), [.t 0], (.lo 1), none, none⟩,
       ⟨(some 2), .mv, [.c (.int .i64 0)], .none, none, none⟩] [2, 0]) <|
    .seq (.seq (.reg false [] [
        ⟨(some 3), (.fa 0), [.t 1], .none, none, none⟩,
        ⟨(some 4), (.ld false 1), [.t 3], (.lo 1), none, none⟩,
        ⟨(some 5), (.bin .lss), [.t 4, .c (.int .i64 1)], .none, none, none⟩,
        ⟨(some 6), .mv, [.t 5], .none, none, none⟩,
        ⟨(some 7), (.fa 0), [.t 1], .none, none, (some (6, false))⟩,
        ⟨(some 8), (.ld false 1), [.t 7], (.lo 1), none, (some (6, false))⟩,
        ⟨(some 9), (.bin .gtr), [.t 8, .c (.int .i64 1073741824)], .none, none, (some (6, false))⟩,
        ⟨(some 10), .pick, [.t 6, .c (.bool true), .t 9], .none, none, none⟩,
        ⟨(some 11), .mv, [.t 10], .none, none, none⟩,
        ⟨(some 12), (.fa 1), [.t 1], .none, none, (some (11, false))⟩,
        ⟨(some 13), (.ld false 1), [.t 12], (.lo 1), none, (some (11, false))⟩,
        ⟨(some 14), (.bin .lss), [.t 13, .c (.int .i64 0)], .none, none, (some (11, false))⟩,
        ⟨(some 15), .pick, [.t 11, .c (.bool true), .t 14], .none, none, none⟩,
        ⟨(some 16), .mv, [.t 15], .none, none, none⟩,
        ⟨(some 17), (.fa 1), [.t 1], .none, none, (some (16, false))⟩,
        ⟨(some 18), (.ld false 1), [.t 17], (.lo 1), none, (some (16, false))⟩,
        ⟨(some 19), (.bin .geq), [.t 18, .c (.int .i64 8)], .none, none, (some (16, false))⟩,
        ⟨(some 20), .pick, [.t 16, .c (.bool true), .t 19], .none, none, none⟩,
        ⟨(some 21), .mv, [.t 20], .none, none, none⟩,
        ⟨(some 22), (.fa 2), [.t 1], .none, none, (some (21, false))⟩,
        ⟨(some 23), (.ld false 1), [.t 22], (.lo 1), none, (some (21, false))⟩,
        ⟨(some 24), (.bin .lss), [.t 23, .c (.int .i64 1)], .none, none, (some (21, false))⟩,
        ⟨(some 25), .pick, [.t 21, .c (.bool true), .t 24], .none, none, none⟩,
        ⟨(some 26), .mv, [.t 25], .none, none, none⟩,
        ⟨(some 27), (.fa 2), [.t 1], .none, none, (some (26, false))⟩,
        ⟨(some 28), (.ld false 1), [.t 27], (.lo 1), none, (some (26, false))⟩,
        ⟨(some 29), (.bin .gtr), [.t 28, .c (.int .i64 128)], .none, none, (some (26, false))⟩,
        ⟨(some 30), .pick, [.t 26, .c (.bool true), .t 29], .none, none, none⟩] [3, 4, 5, 6, 7, 8, 9, 10, 11, 12, 13, 14, 15, 16, 17, 18, 19, 20, 21, 22, 23, 24, 25, 26, 27, 28, 29, 1]) <|
     .cond (.t 30) (.seq (.reg false [] [⟨(some 2), .mv, [.c (.int .i64 1)], .none, none, none⟩] []) <|
      .ret)
      (.skip)) <|
    .seq (.reg false [] [⟨(some 2), .mv, [.c (.int .i64 0)], .none, none, none⟩] []) <|
    .ret }

/- bitext/bitextref36.ValidateStamp -/
def F16 : AFun :=
  { nargs := 1, keep := false, res := [.tmp 2], body :=
    .seq (.reg false [1] [
       ⟨(some 1), (.box 3), [.t 0], (.lo 1), none, none⟩,
       ⟨(some 2), .mv, [.c (.int .i64 0)], .none, none, none⟩] [2, 0]) <|
    .seq (.seq (.reg false [] [
        ⟨(some 3), (.fa 0), [.t 1], .none, none, none⟩,
        ⟨(some 4), (.ld false 1), [.t 3], (.lo 1), none, none⟩,
        ⟨(some 5), (.bin .lss), [.t 4, .c (.int .i64 1)], .none, none, none⟩,
        ⟨(some 6), .mv, [.t 5], .none, none, none⟩,
        ⟨(some 7), (.fa 0), [.t 1], .none, none, (some (6, false))⟩,
        ⟨(some 8), (.ld false 1), [.t 7], (.lo 1), none, (some (6, false))⟩,
        ⟨(some 9), (.bin .gtr), [.t 8, .c (.int .i64 1073741824)], .none, none, (some (6, false))⟩,
        ⟨(some 10), .pick, [.t 6, .c (.bool true), .t 9], .none, none, none⟩,
        ⟨(some 11), .mv, [.t 10], .none, none, none⟩,
        ⟨(some 12), (.fa 1), [.t 1], .none, none, (some (11, false))⟩,
        ⟨(some 13), (.ld false 1), [.t 12], (.lo 1), none, (some (11, false))⟩,
        ⟨(some 14), (.bin .lss), [.t 13, .c (.int .i64 0)], .none, none, (some (11, false))⟩,
        ⟨(some 15), .pick, [.t 11, .c (.bool true), .t 14], .none, none, none⟩,
        ⟨(some 16), .mv, [.t 15], .none, none, none⟩,
        ⟨(some 17), (.fa 1), [.t 1], .none, none, (some (16, false))⟩,
        ⟨(some 18), (.ld false 1), [.t 17], (.lo 1), none, (some (16, false))⟩,
        ⟨(some 19), (.bin .geq), [.t 18, .c (.int .i64 8)], .none, none, (some (16, false))⟩,
        ⟨(some 20), .pick, [.t 16, .c (.bool true), .t 19], .none, none, none⟩,
        ⟨(some 21), .mv, [.t 20], .none, none, none⟩,
        ⟨(some 22), (.fa 2), [.t 1], .none, none, (some (21, false))⟩,
        ⟨(some 23), (.ld false 1), [.t 22], (.lo 1), none, (some (21, false))⟩,
        ⟨(some 24), (.bin .lss), [.t 23, .c (.int .i64 1)], .none, none, (some (21, false))⟩,
        ⟨(some 25), .pick, [.t 21, .c (.bool true), .t 24], .none, none, none⟩,
        ⟨(some 26), .mv, [.t 25], .none, none, none⟩,
        ⟨(some 27), (.fa 2), [.t 1], .none, none, (some (26, false))⟩,
        ⟨(some 28), (.ld false 1), [.t 27], (.lo 1), none, (some (26, false))⟩,
        ⟨(some 29), (.bin .gtr), [.t 28, .c (.int .i64 128)], .none, none, (some (26, false))⟩,
        ⟨(some 30), .pick, [.t 26, .c (.bool true), .t 29], .none, none, none⟩] [3, 4, 5, 6, 7, 8, 9, 10, 11, 12, 13, 14, 15, 16, 17, 18, 19, 20, 21, 22, 23, 24, 25, 26, 27, 28, 29, 1]) <|
     .cond (.t 30) (.seq (.reg false [] [⟨(some 2), .mv, [.c (.int .i64 1)], .none, none, none⟩] []) <|
      .ret)
      (.skip)) <|
    .seq (.reg false [] [⟨(some 2), .mv, [.c (.int .i64 0)], .none, none, none⟩] []) <|
    .ret }

/- bitext/bitextlaw36.vector -/
def L17_0 : ACode :=
  .loop [7, 8, 11, 12, 13, 14, 15, 16, 17, 18, 9, 10] (.seq (.seq (.reg false [] [
        ⟨(some 7), .mv, [.t 4], .none, none, none⟩,
        ⟨(some 8), (.bin .gtr), [.t 7, .c (.int .i64 0)], .none, none, none⟩] [7]) <|
     .cond (.t 8) (.skip)
      (.exit 0)) <|
    .seq (.block 1 (.reg false [] [
        ⟨(some 11), .mvo, [.t 3], .none, (some 3), none⟩,
        ⟨(some 12), (.mks 1 [.int .i64 0] 10 [0, 1, 2, 3, 4, 5, 6, 7, 8, 9]), [.c (.int .i64 0), .c (.int .i64 0), .c (.int .i64 1), .c (.int .i64 2), .c (.int .i64 3), .c (.int .i64 (-1)), .c (.int .i64 127), .c (.int .i64 128), .c (.int .i64 129), .c (.int .i64 5)], .none, none, none⟩,
        ⟨(some 13), .mv, [.t 0], .none, none, none⟩,
        ⟨(some 14), (.call 14), [.t 13, .c (.int .i64 10)], .sh, none, none⟩,
        ⟨(some 15), (.ia 1), [.t 12, .t 14], .none, none, none⟩,
        ⟨(some 16), (.ld false 1), [.t 15], .none, none, none⟩,
        ⟨(some 17), (.mks 1 [.int .i64 0] 1 [0]), [.t 16], .none, none, none⟩,
        ⟨(some 18), (.app false 1 8), [.t 11, .t 17], .none, (some 11), none⟩,
        ⟨(some 3), .mvo, [.t 18], .none, (some 18), none⟩] [11, 12, 13, 14, 15, 16, 17, 18])) <|
    .reg false [] [
      ⟨(some 9), .mv, [.t 4], .none, none, none⟩,
      ⟨(some 10), (.bin .sub), [.t 9, .c (.int .i64 1)], .none, none, none⟩,
      ⟨(some 4), .mv, [.t 10], .none, none, none⟩] [9, 10])
def F17 : AFun :=
  { nargs := 1, keep := false, res := [.tmp 2], body :=
    .seq (.reg false [] [⟨(some 2), .mv, [.c (.sl .full 1 [])], .none, none, none⟩] [2]) <|
    .seq (.reg false [] [⟨(some 3), .mv, [.c (.sl .full 1 [])], .none, none, none⟩] []) <|
    .seq (.seq (.reg false [] [
        ⟨(some 5), .mv, [.t 0], .none, none, none⟩,
        ⟨(some 6), (.call 14), [.t 5, .c (.int .i64 11)], .sh, none, none⟩,
        ⟨(some 4), .mv, [.t 6], .none, none, none⟩] [5, 6]) <|
     .block 0 (L17_0)) <|
    .seq (.reg false [] [
       ⟨(some 19), .mv, [.t 3], .none, none, none⟩,
       ⟨(some 2), .mvo, [.t 19], .none, (some 19), none⟩] [19, 3]) <|
    .ret }

/- bitext/bitextref3.SameInts -/
def L18_0 : ACode :=
  .loop [14, 15, 5, 16, 17, 18, 19, 20, 21, 22, 23, 24, 4, 25] (.seq (.reg false [] [⟨(some 14), (.bin .lss), [.t 13, .t 12], .none, none, none⟩] []) <|
    .seq (.cond (.t 14) (.skip)
      (.exit 0)) <|
    .seq (.block 1 (.seq (.reg false [] [
         ⟨(some 15), .mv, [.t 13], .none, none, none⟩,
         ⟨(some 5), .mv, [.t 15], .none, none, none⟩] [15]) <|
      .seq (.reg true [] [
         ⟨(some 16), .mv, [.t 0], .none, none, none⟩,
         ⟨(some 17), .mv, [.t 5], .none, none, none⟩,
         ⟨(some 18), (.ia 1), [.t 16, .t 17], .none, none, none⟩,
         ⟨(some 19), (.ld false 1), [.t 18], .none, none, none⟩,
         ⟨(some 20), .mv, [.t 1], .none, none, none⟩,
         ⟨(some 21), .mv, [.t 5], .none, none, none⟩,
         ⟨(some 22), (.ia 1), [.t 20, .t 21], .none, none, none⟩,
         ⟨(some 23), (.ld false 1), [.t 22], .none, none, none⟩,
         ⟨(some 24), (.bin .neq), [.t 19, .t 23], .none, none, none⟩] [16, 17, 18, 19, 20, 21, 22, 23, 5]) <|
      .cond (.t 24) (.seq (.reg false [] [⟨(some 4), .mv, [.c (.bool false)], .none, none, none⟩] []) <|
       .ret)
       (.skip))) <|
    .reg false [] [
      ⟨(some 25), (.bin .add), [.t 13, .c (.int .i64 1)], .none, none, none⟩,
      ⟨(some 13), .mv, [.t 25], .none, none, none⟩] [25])
def F18 : AFun :=
  { nargs := 2, keep := false, res := [.tmp 4], body :=
    .seq (.reg false [] [⟨(some 4), .mv, [.c (.bool false)], .none, none, none⟩] [4]) <|
    .seq (.seq (.reg false [] [
        ⟨(some 6), .mv, [.t 0], .none, none, none⟩,
        ⟨(some 7), (.len false), [.t 6], .none, none, none⟩,
        ⟨(some 8), .mv, [.t 1], .none, none, none⟩,
        ⟨(some 9), (.len false), [.t 8], .none, none, none⟩,
        ⟨(some 10), (.bin .neq), [.t 7, .t 9], .none, none, none⟩] [6, 7, 8, 9]) <|
     .cond (.t 10) (.seq (.reg false [] [⟨(some 4), .mv, [.c (.bool false)], .none, none, none⟩] []) <|
      .ret)
      (.skip)) <|
    .seq (.seq (.reg false [] [
        ⟨(some 11), .mv, [.t 0], .none, none, none⟩,
        ⟨(some 12), (.len false), [.t 11], .none, none, none⟩,
        ⟨(some 13), .mv, [.c (.int .i64 0)], .none, none, none⟩] [11]) <|
     .block 0 (L18_0)) <|
    .seq (.reg false [] [⟨(some 4), .mv, [.c (.bool true)], .none, none, none⟩] []) <|
    .ret }

/- bitext/stamp.Trim -/
def F19 : AFun :=
  { nargs := 1, keep := false, res := [.tmp 2], body :=
    .seq (.reg false [] [⟨(some 2), .mv, [.c (.sl .full 1 [])], .none, none, none⟩] [2]) <|
    .seq (.reg false [] [
       ⟨(some 3), .mv, [.t 0], .none, none, none⟩,
       ⟨(some 4), (.call 21), [.t 3, .c (.sl .full 1 [])], .none, none, none⟩,
       ⟨(some 2), .mvo, [.t 4], .none, (some 4), none⟩] [3, 4, 0]) <|
    .ret }

/- bitext/bitextref36.Trim -/
def L20_0 : ACode :=
  .loop [13, 14, 15, 16, 17, 18, 19, 20, 21, 22, 23] (.seq (.seq (.reg false [] [
        ⟨(some 13), .mv, [.t 3], .none, none, none⟩,
        ⟨(some 14), (.len false), [.t 13], .none, none, none⟩,
        ⟨(some 15), .mv, [.t 4], .none, none, none⟩,
        ⟨(some 16), (.bin .lss), [.t 14, .t 15], .none, none, none⟩] [13, 14, 15]) <|
     .cond (.t 16) (.skip)
      (.exit 2)) <|
    .block 3 (.reg false [] [
       ⟨(some 17), .mvo, [.t 3], .none, (some 3), none⟩,
       ⟨(some 18), .mv, [.t 0], .none, none, none⟩,
       ⟨(some 19), .mv, [.t 3], .none, none, none⟩,
       ⟨(some 20), (.len false), [.t 19], .none, none, none⟩,
       ⟨(some 21), (.call 26), [.t 18, .t 20], .none, none, none⟩,
       ⟨(some 22), (.mks 1 [.int .i64 0] 1 [0]), [.t 21], .none, none, none⟩,
       ⟨(some 23), (.app false 1 8), [.t 17, .t 22], .none, (some 17), none⟩,
       ⟨(some 3), .mvo, [.t 23], .none, (some 23), none⟩] [17, 18, 19, 20, 21, 22, 23]))
def L20_1 : ACode :=
  .loop [5, 6, 9, 10, 11, 12, 13, 14, 15, 16, 17, 18, 19, 20, 21, 22, 23, 24, 25, 26, 27, 28, 29, 7, 8] (.seq (.seq (.reg false [] [
        ⟨(some 5), .mv, [.t 4], .none, none, none⟩,
        ⟨(some 6), (.bin .lss), [.t 5, .c (.int .i64 8)], .none, none, none⟩] [5]) <|
     .cond (.t 6) (.skip)
      (.exit 0)) <|
    .seq (.block 1 (.seq (.reg false [] [
         ⟨(some 9), .mv, [.t 0], .none, none, none⟩,
         ⟨(some 10), .mv, [.t 4], .none, none, none⟩,
         ⟨(some 11), (.call 26), [.t 9, .t 10], .none, none, none⟩,
         ⟨(some 12), (.bin .gtr), [.t 11, .c (.int .i64 0)], .none, none, none⟩] [9, 10, 11]) <|
      .cond (.t 12) (.seq (.block 2 (L20_0)) <|
       .reg false [] [
         ⟨(some 24), .mvo, [.t 3], .none, (some 3), none⟩,
         ⟨(some 25), .mv, [.t 0], .none, none, none⟩,
         ⟨(some 26), .mv, [.t 4], .none, none, none⟩,
         ⟨(some 27), (.call 26), [.t 25, .t 26], .none, none, none⟩,
         ⟨(some 28), (.mks 1 [.int .i64 0] 1 [0]), [.t 27], .none, none, none⟩,
         ⟨(some 29), (.app false 1 8), [.t 24, .t 28], .none, (some 24), none⟩,
         ⟨(some 3), .mvo, [.t 29], .none, (some 29), none⟩] [24, 25, 26, 27, 28, 29])
       (.skip))) <|
    .reg false [] [
      ⟨(some 7), .mv, [.t 4], .none, none, none⟩,
      ⟨(some 8), (.bin .add), [.t 7, .c (.int .i64 1)], .none, none, none⟩,
      ⟨(some 4), .mv, [.t 8], .none, none, none⟩] [7, 8])
def F20 : AFun :=
  { nargs := 1, keep := false, res := [.tmp 2], body :=
    .seq (.reg false [] [⟨(some 2), .mv, [.c (.sl .full 1 [])], .none, none, none⟩] [2]) <|
    .seq (.reg false [] [⟨(some 3), .mv, [.c (.sl .full 1 [])], .none, none, none⟩] []) <|
    .seq (.seq (.reg false [] [⟨(some 4), .mv, [.c (.int .i64 0)], .none, none, none⟩] []) <|
     .block 0 (L20_1)) <|
    .seq (.reg false [] [
       ⟨(some 30), .mv, [.t 3], .none, none, none⟩,
       ⟨(some 2), .mvo, [.t 30], .none, (some 30), none⟩] [30, 3]) <|
    .ret }

/- bitext/stamp.Join -/
def L21_0 : ACode :=
  .loop [9, 10, 6, 11, 12, 13, 14, 15, 16, 17, 7, 18, 19, 20, 21, 22, 23, 24, 25, 26] (.seq (.reg false [] [⟨(some 9), (.bin .lss), [.t 8, .c (.int .i64 8)], .none, none, none⟩] []) <|
    .seq (.cond (.t 9) (.skip)
      (.exit 0)) <|
    .seq (.block 1 (.seq (.reg false [] [
         ⟨(some 10), .mv, [.t 8], .none, none, none⟩,
         ⟨(some 6), .mv, [.t 10], .none, none, none⟩] [10]) <|
      .seq (.reg false [] [
         ⟨(some 11), .mv, [.t 0], .none, none, none⟩,
         ⟨(some 12), .mv, [.t 6], .none, none, none⟩,
         ⟨(some 13), (.call 25), [.t 11, .t 12], .none, none, none⟩,
         ⟨(some 14), .mv, [.t 1], .none, none, none⟩,
         ⟨(some 15), .mv, [.t 6], .none, none, none⟩,
         ⟨(some 16), (.call 25), [.t 14, .t 15], .none, none, none⟩,
         ⟨(some 17), (.mm true), [.t 13, .t 16], .none, none, none⟩,
         ⟨(some 7), .mv, [.t 17], .none, none, none⟩] [11, 12, 13, 14, 15, 16, 17]) <|
      .seq (.reg false [] [
         ⟨(some 18), .mvo, [.t 4], .none, (some 4), none⟩,
         ⟨(some 19), .mv, [.t 7], .none, none, none⟩,
         ⟨(some 20), (.mks 1 [.int .i64 0] 1 [0]), [.t 19], .none, none, none⟩,
         ⟨(some 21), (.app false 1 8), [.t 18, .t 20], .none, (some 18), none⟩,
         ⟨(some 4), .mvo, [.t 21], .none, (some 21), none⟩] [18, 19, 20, 21]) <|
      .seq (.reg false [] [
         ⟨(some 22), .mv, [.t 7], .none, none, none⟩,
         ⟨(some 23), (.bin .neq), [.t 22, .c (.int .i64 0)], .none, none, none⟩] [22, 7]) <|
      .cond (.t 23) (.reg false [] [
         ⟨(some 24), .mv, [.t 6], .none, none, none⟩,
         ⟨(some 25), (.bin .add), [.t 24, .c (.int .i64 1)], .none, none, none⟩,
         ⟨(some 5), .mv, [.t 25], .none, none, none⟩] [24, 25, 6])
       (.skip))) <|
    .reg false [] [
      ⟨(some 26), (.bin .add), [.t 8, .c (.int .i64 1)], .none, none, none⟩,
      ⟨(some 8), .mv, [.t 26], .none, none, none⟩] [26])
def F21 : AFun :=
  { nargs := 2, keep := false, res := [.tmp 4], body :=
    .seq (.reg false [] [⟨(some 4), .mv, [.c (.sl .full 1 [])], .none, none, none⟩] []) <|
    .seq (.reg false [] [⟨(some 5), .mv, [.c (.int .i64 0)], .none, none, none⟩] []) <|
    .seq (.seq (.reg false [] [⟨(some 8), .mv, [.c (.int .i64 0)], .none, none, none⟩] []) <|
     .block 0 (L21_0)) <|
    .seq (.reg false [] [
       ⟨(some 27), .mv, [.t 4], .none, none, none⟩,
       ⟨(some 28), .mv, [.t 5], .none, none, none⟩,
       ⟨(some 29), (.slc false 1 false true), [.t 27, .t 28], .none, none, none⟩,
       ⟨(some 4), .mvo, [.t 29], .none, (some 29), none⟩] [27, 28, 29, 5]) <|
    .ret }

/- bitext/bitextref36.Join -/
def L22_0 : ACode :=
  .loop [7, 8, 11, 12, 13, 14, 15, 16, 17, 18, 19, 20, 9, 10] (.seq (.seq (.reg false [] [
        ⟨(some 7), .mv, [.t 6], .none, none, none⟩,
        ⟨(some 8), (.bin .lss), [.t 7, .c (.int .i64 8)], .none, none, none⟩] [7]) <|
     .cond (.t 8) (.skip)
      (.exit 0)) <|
    .seq (.block 1 (.reg false [] [
        ⟨(some 11), .mvo, [.t 5], .none, (some 5), none⟩,
        ⟨(some 12), .mv, [.t 0], .none, none, none⟩,
        ⟨(some 13), .mv, [.t 6], .none, none, none⟩,
        ⟨(some 14), (.call 26), [.t 12, .t 13], .none, none, none⟩,
        ⟨(some 15), .mv, [.t 1], .none, none, none⟩,
        ⟨(some 16), .mv, [.t 6], .none, none, none⟩,
        ⟨(some 17), (.call 26), [.t 15, .t 16], .none, none, none⟩,
        ⟨(some 18), (.mm true), [.t 14, .t 17], .none, none, none⟩,
        ⟨(some 19), (.mks 1 [.int .i64 0] 1 [0]), [.t 18], .none, none, none⟩,
        ⟨(some 20), (.app false 1 8), [.t 11, .t 19], .none, (some 11), none⟩,
        ⟨(some 5), .mvo, [.t 20], .none, (some 20), none⟩] [11, 12, 13, 14, 15, 16, 17, 18, 19, 20])) <|
    .reg false [] [
      ⟨(some 9), .mv, [.t 6], .none, none, none⟩,
      ⟨(some 10), (.bin .add), [.t 9, .c (.int .i64 1)], .none, none, none⟩,
      ⟨(some 6), .mv, [.t 10], .none, none, none⟩] [9, 10])
def F22 : AFun :=
  { nargs := 2, keep := false, res := [.tmp 4], body :=
    .seq (.reg false [] [⟨(some 4), .mv, [.c (.sl .full 1 [])], .none, none, none⟩] [4]) <|
    .seq (.reg false [] [⟨(some 5), .mv, [.c (.sl .full 1 [])], .none, none, none⟩] []) <|
    .seq (.seq (.reg false [] [⟨(some 6), .mv, [.c (.int .i64 0)], .none, none, none⟩] []) <|
     .block 0 (L22_0)) <|
    .seq (.reg false [] [
       ⟨(some 21), .mv, [.t 5], .none, none, none⟩,
       ⟨(some 22), (.call 20), [.t 21], .none, none, none⟩,
       ⟨(some 4), .mvo, [.t 22], .none, (some 22), none⟩] [21, 22, 5]) <|
    .ret }

/- bitext/stamp.Contains -/
def L23_0 : ACode :=
  .loop [10, 11, 5, 12, 13, 14, 15, 16, 17, 18, 4, 19] (.seq (.reg false [] [⟨(some 10), (.bin .lss), [.t 9, .t 8], .none, none, none⟩] []) <|
    .seq (.cond (.t 10) (.skip)
      (.exit 0)) <|
    .seq (.block 1 (.seq (.reg false [] [
         ⟨(some 11), .mv, [.t 9], .none, none, none⟩,
         ⟨(some 5), .mv, [.t 11], .none, none, none⟩] [11]) <|
      .seq (.reg false [] [
         ⟨(some 12), .mv, [.t 0], .none, none, none⟩,
         ⟨(some 13), .mv, [.t 5], .none, none, none⟩,
         ⟨(some 14), (.call 25), [.t 12, .t 13], .none, none, none⟩,
         ⟨(some 15), .mv, [.t 1], .none, none, none⟩,
         ⟨(some 16), .mv, [.t 5], .none, none, none⟩,
         ⟨(some 17), (.call 25), [.t 15, .t 16], .none, none, none⟩,
         ⟨(some 18), (.bin .lss), [.t 14, .t 17], .none, none, none⟩] [12, 13, 14, 15, 16, 17, 5]) <|
      .cond (.t 18) (.seq (.reg false [] [⟨(some 4), .mv, [.c (.bool false)], .none, none, none⟩] []) <|
       .ret)
       (.skip))) <|
    .reg false [] [
      ⟨(some 19), (.bin .add), [.t 9, .c (.int .i64 1)], .none, none, none⟩,
      ⟨(some 9), .mv, [.t 19], .none, none, none⟩] [19])
def F23 : AFun :=
  { nargs := 2, keep := false, res := [.tmp 4], body :=
    .seq (.reg false [] [⟨(some 4), .mv, [.c (.bool false)], .none, none, none⟩] [4]) <|
    .seq (.seq (.reg false [] [
        ⟨(some 6), .mv, [.t 1], .none, none, none⟩,
        ⟨(some 7), (.len false), [.t 6], .none, none, none⟩,
        ⟨(some 8), (.mm false), [.t 7, .c (.int .i64 8)], .none, none, none⟩,
        ⟨(some 9), .mv, [.c (.int .i64 0)], .none, none, none⟩] [6, 7]) <|
     .block 0 (L23_0)) <|
    .seq (.reg false [] [⟨(some 4), .mv, [.c (.bool true)], .none, none, none⟩] []) <|
    .ret }

/- bitext/bitextref36.Contains -/
def L24_0 : ACode :=
  .loop [6, 7, 10, 11, 12, 13, 14, 15, 16, 4, 8, 9] (.seq (.seq (.reg false [] [
        ⟨(some 6), .mv, [.t 5], .none, none, none⟩,
        ⟨(some 7), (.bin .lss), [.t 6, .c (.int .i64 8)], .none, none, none⟩] [6]) <|
     .cond (.t 7) (.skip)
      (.exit 0)) <|
    .seq (.block 1 (.seq (.reg false [] [
         ⟨(some 10), .mv, [.t 0], .none, none, none⟩,
         ⟨(some 11), .mv, [.t 5], .none, none, none⟩,
         ⟨(some 12), (.call 26), [.t 10, .t 11], .none, none, none⟩,
         ⟨(some 13), .mv, [.t 1], .none, none, none⟩,
         ⟨(some 14), .mv, [.t 5], .none, none, none⟩,
         ⟨(some 15), (.call 26), [.t 13, .t 14], .none, none, none⟩,
         ⟨(some 16), (.bin .lss), [.t 12, .t 15], .none, none, none⟩] [10, 11, 12, 13, 14, 15]) <|
      .cond (.t 16) (.seq (.reg false [] [⟨(some 4), .mv, [.c (.bool false)], .none, none, none⟩] []) <|
       .ret)
       (.skip))) <|
    .reg false [] [
      ⟨(some 8), .mv, [.t 5], .none, none, none⟩,
      ⟨(some 9), (.bin .add), [.t 8, .c (.int .i64 1)], .none, none, none⟩,
      ⟨(some 5), .mv, [.t 9], .none, none, none⟩] [8, 9])
def F24 : AFun :=
  { nargs := 2, keep := false, res := [.tmp 4], body :=
    .seq (.reg false [] [⟨(some 4), .mv, [.c (.bool false)], .none, none, none⟩] [4]) <|
    .seq (.seq (.reg false [] [⟨(some 5), .mv, [.c (.int .i64 0)], .none, none, none⟩] []) <|
     .block 0 (L24_0)) <|
    .seq (.reg false [] [⟨(some 4), .mv, [.c (.bool true)], .none, none, none⟩] []) <|
    .ret }

/- bitext/stamp.At -/
def F25 : AFun :=
  { nargs := 2, keep := false, res := [.tmp 4], body :=
    .seq (.reg false [] [⟨(some 4), .mv, [.c (.int .i64 0)], .none, none, none⟩] [4]) <|
    .seq (.seq (.reg false [] [
        ⟨(some 5), .mv, [.t 1], .none, none, none⟩,
        ⟨(some 6), (.bin .lss), [.t 5, .c (.int .i64 0)], .none, none, none⟩,
        ⟨(some 7), .mv, [.t 6], .none, none, none⟩,
        ⟨(some 8), .mv, [.t 1], .none, none, (some (7, false))⟩,
        ⟨(some 9), .mv, [.t 0], .none, none, (some (7, false))⟩,
        ⟨(some 10), (.len false), [.t 9], .none, none, (some (7, false))⟩,
        ⟨(some 11), (.bin .geq), [.t 8, .t 10], .none, none, (some (7, false))⟩,
        ⟨(some 12), .pick, [.t 7, .c (.bool true), .t 11], .none, none, none⟩,
        ⟨(some 13), .mv, [.t 12], .none, none, none⟩,
        ⟨(some 14), .mv, [.t 1], .none, none, (some (13, false))⟩,
        ⟨(some 15), (.bin .geq), [.t 14, .c (.int .i64 8)], .none, none, (some (13, false))⟩,
        ⟨(some 16), .pick, [.t 13, .c (.bool true), .t 15], .none, none, none⟩] [5, 6, 7, 8, 9, 10, 11, 12, 13, 14, 15]) <|
     .cond (.t 16) (.seq (.reg false [] [⟨(some 4), .mv, [.c (.int .i64 0)], .none, none, none⟩] []) <|
      .ret)
      (.skip)) <|
    .seq (.reg false [] [
       ⟨(some 17), .mv, [.t 0], .none, none, none⟩,
       ⟨(some 18), .mv, [.t 1], .none, none, none⟩,
       ⟨(some 19), (.ia 1), [.t 17, .t 18], .none, none, none⟩,
       ⟨(some 20), (.ld false 1), [.t 19], .none, none, none⟩,
       ⟨(some 21), (.mm true), [.t 20, .c (.int .i64 0)], .none, none, none⟩,
       ⟨(some 4), .mv, [.t 21], .none, none, none⟩] [17, 18, 19, 20, 21, 0, 1]) <|
    .ret }

/- bitext/bitextref36.At -/
def F26 : AFun :=
  { nargs := 2, keep := false, res := [.tmp 4], body :=
    .seq (.reg false [] [⟨(some 4), .mv, [.c (.int .i64 0)], .none, none, none⟩] [4]) <|
    .seq (.seq (.reg false [] [
        ⟨(some 5), .mv, [.t 1], .none, none, none⟩,
        ⟨(some 6), (.bin .lss), [.t 5, .c (.int .i64 0)], .none, none, none⟩,
        ⟨(some 7), .mv, [.t 6], .none, none, none⟩,
        ⟨(some 8), .mv, [.t 1], .none, none, (some (7, false))⟩,
        ⟨(some 9), .mv, [.t 0], .none, none, (some (7, false))⟩,
        ⟨(some 10), (.len false), [.t 9], .none, none, (some (7, false))⟩,
        ⟨(some 11), (.bin .geq), [.t 8, .t 10], .none, none, (some (7, false))⟩,
        ⟨(some 12), .pick, [.t 7, .c (.bool true), .t 11], .none, none, none⟩,
        ⟨(some 13), .mv, [.t 12], .none, none, none⟩,
        ⟨(some 14), .mv, [.t 1], .none, none, (some (13, false))⟩,
        ⟨(some 15), (.bin .geq), [.t 14, .c (.int .i64 8)], .none, none, (some (13, false))⟩,
        ⟨(some 16), .pick, [.t 13, .c (.bool true), .t 15], .none, none, none⟩] [5, 6, 7, 8, 9, 10, 11, 12, 13, 14, 15]) <|
     .cond (.t 16) (.seq (.reg false [] [⟨(some 4), .mv, [.c (.int .i64 0)], .none, none, none⟩] []) <|
      .ret)
      (.skip)) <|
    .seq (.reg false [] [
       ⟨(some 17), .mv, [.t 0], .none, none, none⟩,
       ⟨(some 18), .mv, [.t 1], .none, none, none⟩,
       ⟨(some 19), (.ia 1), [.t 17, .t 18], .none, none, none⟩,
       ⟨(some 20), (.ld false 1), [.t 19], .none, none, none⟩,
       ⟨(some 21), (.mm true), [.t 20, .c (.int .i64 0)], .none, none, none⟩,
       ⟨(some 4), .mv, [.t 21], .none, none, none⟩] [17, 18, 19, 20, 21, 0, 1]) <|
    .ret }

/- bitext/stamp.Covers -/
def F27 : AFun :=
  { nargs := 2, keep := false, res := [.tmp 4], body :=
    .seq (.reg false [3] [
       ⟨(some 3), (.box 3), [.t 1], (.lo 3), none, none⟩,
       ⟨(some 4), .mv, [.c (.bool false)], .none, none, none⟩] [4, 1]) <|
    .seq (.reg true [] [
       ⟨(some 5), (.fa 2), [.t 3], .none, none, none⟩,
       ⟨(some 6), (.ld false 1), [.t 5], (.lo 3), none, none⟩,
       ⟨(some 7), (.bin .geq), [.t 6, .c (.int .i64 1)], .none, none, none⟩,
       ⟨(some 8), .mv, [.t 7], .none, none, none⟩,
       ⟨(some 9), (.fa 2), [.t 3], .none, none, (some (8, true))⟩,
       ⟨(some 10), (.ld false 1), [.t 9], (.lo 3), none, (some (8, true))⟩,
       ⟨(some 11), .mv, [.t 0], .none, none, (some (8, true))⟩,
       ⟨(some 12), (.fa 1), [.t 3], .none, none, (some (8, true))⟩,
       ⟨(some 13), (.ld false 1), [.t 12], (.lo 3), none, (some (8, true))⟩,
       ⟨(some 14), (.call 25), [.t 11, .t 13], .none, none, (some (8, true))⟩,
       ⟨(some 15), (.bin .leq), [.t 10, .t 14], .none, none, (some (8, true))⟩,
       ⟨(some 16), .pick, [.t 8, .t 15, .c (.bool false)], .none, none, none⟩,
       ⟨(some 4), .mv, [.t 16], .none, none, none⟩] [5, 6, 7, 8, 9, 10, 11, 12, 13, 14, 15, 16, 3, 0]) <|
    .ret }

/- bitext/bitextref36.Covers -/
def F28 : AFun :=
  { nargs := 2, keep := false, res := [.tmp 4], body :=
    .seq (.reg false [3] [
       ⟨(some 3), (.box 3), [.t 1], (.lo 3), none, none⟩,
       ⟨(some 4), .mv, [.c (.bool false)], .none, none, none⟩] [4, 1]) <|
    .seq (.reg true [] [
       ⟨(some 5), (.fa 2), [.t 3], .none, none, none⟩,
       ⟨(some 6), (.ld false 1), [.t 5], (.lo 3), none, none⟩,
       ⟨(some 7), (.bin .geq), [.t 6, .c (.int .i64 1)], .none, none, none⟩,
       ⟨(some 8), .mv, [.t 7], .none, none, none⟩,
       ⟨(some 9), (.fa 2), [.t 3], .none, none, (some (8, true))⟩,
       ⟨(some 10), (.ld false 1), [.t 9], (.lo 3), none, (some (8, true))⟩,
       ⟨(some 11), .mv, [.t 0], .none, none, (some (8, true))⟩,
       ⟨(some 12), (.fa 1), [.t 3], .none, none, (some (8, true))⟩,
       ⟨(some 13), (.ld false 1), [.t 12], (.lo 3), none, (some (8, true))⟩,
       ⟨(some 14), (.call 26), [.t 11, .t 13], .none, none, (some (8, true))⟩,
       ⟨(some 15), (.bin .leq), [.t 10, .t 14], .none, none, (some (8, true))⟩,
       ⟨(some 16), .pick, [.t 8, .t 15, .c (.bool false)], .none, none, none⟩,
       ⟨(some 4), .mv, [.t 16], .none, none, none⟩] [5, 6, 7, 8, 9, 10, 11, 12, 13, 14, 15, 16, 3, 0]) <|
    .ret }

/- cmp.Or[int] -/
def L29_0 : ACode :=
  .loop [9, 10, 11, 5, 12, 13, 14, 15, 2, 16] (.seq (.reg false [] [⟨(some 9), (.bin .lss), [.t 8, .t 7], .none, none, none⟩] []) <|
    .seq (.cond (.t 9) (.skip)
      (.exit 0)) <|
    .seq (.block 1 (.seq (.reg false [] [
         ⟨(some 10), (.ia 1), [.t 6, .t 8], .none, none, none⟩,
         ⟨(some 11), (.ld false 1), [.t 10], .none, none, none⟩,
         ⟨(some 5), .mv, [.t 11], .none, none, none⟩] [10, 11]) <|
      .seq (.reg false [] [
         ⟨(some 12), .mv, [.t 5], .none, none, none⟩,
         ⟨(some 13), .mv, [.t 3], .none, none, none⟩,
         ⟨(some 14), (.bin .neq), [.t 12, .t 13], .none, none, none⟩] [12, 13]) <|
      .cond (.t 14) (.seq (.reg false [] [
          ⟨(some 15), .mv, [.t 5], .none, none, none⟩,
          ⟨(some 2), .mv, [.t 15], .none, none, none⟩] [15, 5]) <|
       .ret)
       (.skip))) <|
    .reg false [] [
      ⟨(some 16), (.bin .add), [.t 8, .c (.int .i64 1)], .none, none, none⟩,
      ⟨(some 8), .mv, [.t 16], .none, none, none⟩] [16])
def F29 : AFun :=
  { nargs := 1, keep := false, res := [.tmp 2], body :=
    .seq (.reg false [] [⟨(some 2), .mv, [.c (.int .i64 0)], .none, none, none⟩] [2]) <|
    .seq (.reg false [] [⟨(some 3), .mv, [.c (.int .i64 0)], .none, none, none⟩] []) <|
    .seq (.seq (.reg false [] [
        ⟨(some 6), .mv, [.t 0], .none, none, none⟩,
        ⟨(some 7), (.len false), [.t 6], .none, none, none⟩,
        ⟨(some 8), .mv, [.c (.int .i64 0)], .none, none, none⟩] [0]) <|
     .block 0 (L29_0)) <|
    .seq (.reg false [] [
       ⟨(some 17), .mv, [.t 3], .none, none, none⟩,
       ⟨(some 2), .mv, [.t 17], .none, none, none⟩] [17, 3]) <|
    .ret }

/- cmp.Compare[int] -/
def F30 : AFun :=
  { nargs := 2, keep := false, res := [.tmp 4], body :=
    .seq (.reg false [] [⟨(some 4), .mv, [.c (.int .i64 0)], .none, none, none⟩] [4]) <|
    .seq (.reg false [] [
       ⟨(some 7), .mv, [.t 0], .none, none, none⟩,
       ⟨(some 8), (.call 33), [.t 7], .none, none, none⟩,
       ⟨(some 5), .mv, [.t 8], .none, none, none⟩] [7, 8]) <|
    .seq (.reg false [] [
       ⟨(some 9), .mv, [.t 1], .none, none, none⟩,
       ⟨(some 10), (.call 33), [.t 9], .none, none, none⟩,
       ⟨(some 6), .mv, [.t 10], .none, none, none⟩] [9, 10]) <|
    .seq (.seq (.reg false [] [⟨(some 11), .mv, [.t 5], .none, none, none⟩] [5]) <|
     .cond (.t 11) (.seq (.seq (.reg false [] [⟨(some 12), .mv, [.t 6], .none, none, none⟩] [6]) <|
       .cond (.t 12) (.seq (.reg false [] [⟨(some 4), .mv, [.c (.int .i64 0)], .none, none, none⟩] []) <|
        .ret)
        (.skip)) <|
      .seq (.reg false [] [⟨(some 4), .mv, [.c (.int .i64 (-1))], .none, none, none⟩] []) <|
      .ret)
      (.skip)) <|
    .seq (.seq (.reg false [] [⟨(some 13), .mv, [.t 6], .none, none, none⟩] [6]) <|
     .cond (.t 13) (.seq (.reg false [] [⟨(some 4), .mv, [.c (.int .i64 1)], .none, none, none⟩] []) <|
      .ret)
      (.skip)) <|
    .seq (.seq (.reg false [] [
        ⟨(some 14), .mv, [.t 0], .none, none, none⟩,
        ⟨(some 15), .mv, [.t 1], .none, none, none⟩,
        ⟨(some 16), (.bin .lss), [.t 14, .t 15], .none, none, none⟩] [14, 15]) <|
     .cond (.t 16) (.seq (.reg false [] [⟨(some 4), .mv, [.c (.int .i64 (-1))], .none, none, none⟩] []) <|
      .ret)
      (.skip)) <|
    .seq (.seq (.reg false [] [
        ⟨(some 17), .mv, [.t 0], .none, none, none⟩,
        ⟨(some 18), .mv, [.t 1], .none, none, none⟩,
        ⟨(some 19), (.bin .gtr), [.t 17, .t 18], .none, none, none⟩] [17, 18, 0, 1]) <|
     .cond (.t 19) (.seq (.reg false [] [⟨(some 4), .mv, [.c (.int .i64 1)], .none, none, none⟩] []) <|
      .ret)
      (.skip)) <|
    .seq (.reg false [] [⟨(some 4), .mv, [.c (.int .i64 0)], .none, none, none⟩] []) <|
    .ret }

/- bitext/bitextref36.order -/
def F31 : AFun :=
  { nargs := 2, keep := false, res := [.tmp 4], body :=
    .seq (.reg false [] [⟨(some 4), .mv, [.c (.int .i64 0)], .none, none, none⟩] [4]) <|
    .seq (.seq (.reg false [] [
        ⟨(some 5), .mv, [.t 0], .none, none, none⟩,
        ⟨(some 6), .mv, [.t 1], .none, none, none⟩,
        ⟨(some 7), (.bin .lss), [.t 5, .t 6], .none, none, none⟩] [5, 6]) <|
     .cond (.t 7) (.seq (.reg false [] [⟨(some 4), .mv, [.c (.int .i64 (-1))], .none, none, none⟩] []) <|
      .ret)
      (.skip)) <|
    .seq (.seq (.reg false [] [
        ⟨(some 8), .mv, [.t 0], .none, none, none⟩,
        ⟨(some 9), .mv, [.t 1], .none, none, none⟩,
        ⟨(some 10), (.bin .gtr), [.t 8, .t 9], .none, none, none⟩] [8, 9, 0, 1]) <|
     .cond (.t 10) (.seq (.reg false [] [⟨(some 4), .mv, [.c (.int .i64 1)], .none, none, none⟩] []) <|
      .ret)
      (.skip)) <|
    .seq (.reg false [] [⟨(some 4), .mv, [.c (.int .i64 0)], .none, none, none⟩] []) <|
    .ret }

/- bitext/bitextmake.Place -/
def F32 : AFun :=
  { nargs := 2, keep := false, res := [.tmp 4], body :=
    .seq (.reg false [] [⟨(some 4), .mv, [.c (.int .i64 0)], .none, none, none⟩] [4]) <|
    .seq (.reg false [] [
       ⟨(some 5), .mv, [.t 0], .none, none, none⟩,
       ⟨(some 6), .mv, [.t 1], .none, none, none⟩,
       ⟨(some 7), (.bin .rem), [.t 5, .t 6], .none, none, none⟩,
       ⟨(some 0), .mv, [.t 7], .none, none, none⟩] [5, 6, 7]) <|
    .seq (.seq (.reg false [] [
        ⟨(some 8), .mv, [.t 0], .none, none, none⟩,
        ⟨(some 9), (.bin .lss), [.t 8, .c (.int .i64 0)], .none, none, none⟩] [8]) <|
     .cond (.t 9) (.reg false [] [
        ⟨(some 10), .mv, [.t 0], .none, none, none⟩,
        ⟨(some 11), .mv, [.t 1], .none, none, none⟩,
        ⟨(some 12), (.bin .add), [.t 10, .t 11], .none, none, none⟩,
        ⟨(some 0), .mv, [.t 12], .none, none, none⟩] [10, 11, 12, 1])
      (.skip)) <|
    .seq (.reg false [] [
       ⟨(some 13), .mv, [.t 0], .none, none, none⟩,
       ⟨(some 4), .mv, [.t 13], .none, none, none⟩] [13, 0]) <|
    .ret }

/- cmp.isNaN[int] -/
def F33 : AFun :=
  { nargs := 1, keep := false, res := [.tmp 2], body :=
    .seq (.reg false [] [⟨(some 2), .mv, [.c (.bool false)], .none, none, none⟩] [2]) <|
    .seq (.reg false [] [
       ⟨(some 3), .mv, [.t 0], .none, none, none⟩,
       ⟨(some 4), .mv, [.t 0], .none, none, none⟩,
       ⟨(some 5), (.bin .neq), [.t 3, .t 4], .none, none, none⟩,
       ⟨(some 2), .mv, [.t 5], .none, none, none⟩] [3, 4, 5, 0]) <|
    .ret }

theorem ok3 : okFun Try.prog 3 F3 = true := by kernel_rfl
theorem ok4 : okFun Try.prog 4 F4 = true := by kernel_rfl
theorem ok5 : okFun Try.prog 5 F5 = true := by kernel_rfl
theorem ok6 : okFun Try.prog 6 F6 = true := by kernel_rfl
theorem ok7 : okFun Try.prog 7 F7 = true := by kernel_rfl
theorem ok8 : okFun Try.prog 8 F8 = true := by kernel_rfl
theorem ok9 : okFun Try.prog 9 F9 = true := by kernel_rfl
theorem ok10 : okFun Try.prog 10 F10 = true := by kernel_rfl
theorem ok11 : okFun Try.prog 11 F11 = true := by kernel_rfl
theorem ok12 : okFun Try.prog 12 F12 = true := by kernel_rfl
theorem ok13 : okFun Try.prog 13 F13 = true := by kernel_rfl
theorem ok14 : okFun Try.prog 14 F14 = true := by kernel_rfl
theorem ok15 : okFun Try.prog 15 F15 = true := by kernel_rfl
theorem ok16 : okFun Try.prog 16 F16 = true := by kernel_rfl
theorem ok17 : okFun Try.prog 17 F17 = true := by kernel_rfl
theorem ok18 : okFun Try.prog 18 F18 = true := by kernel_rfl
theorem ok19 : okFun Try.prog 19 F19 = true := by kernel_rfl
theorem ok20 : okFun Try.prog 20 F20 = true := by kernel_rfl
theorem ok21 : okFun Try.prog 21 F21 = true := by kernel_rfl
theorem ok22 : okFun Try.prog 22 F22 = true := by kernel_rfl
theorem ok23 : okFun Try.prog 23 F23 = true := by kernel_rfl
theorem ok24 : okFun Try.prog 24 F24 = true := by kernel_rfl
theorem ok25 : okFun Try.prog 25 F25 = true := by kernel_rfl
theorem ok26 : okFun Try.prog 26 F26 = true := by kernel_rfl
theorem ok27 : okFun Try.prog 27 F27 = true := by kernel_rfl
theorem ok28 : okFun Try.prog 28 F28 = true := by kernel_rfl
theorem ok29 : okFun Try.prog 29 F29 = true := by kernel_rfl
theorem ok30 : okFun Try.prog 30 F30 = true := by kernel_rfl
theorem ok31 : okFun Try.prog 31 F31 = true := by kernel_rfl
theorem ok32 : okFun Try.prog 32 F32 = true := by kernel_rfl
theorem ok33 : okFun Try.prog 33 F33 = true := by kernel_rfl
theorem mix : Try.prog.follows .mixedOrders = true := by kernel_rfl
def T0 : FuncId → Option AFun
  | 3 => some F3
  | 4 => some F4
  | 5 => some F5
  | 6 => some F6
  | 7 => some F7
  | 8 => some F8
  | 9 => some F9
  | 10 => some F10
  | 11 => some F11
  | 12 => some F12
  | 13 => some F13
  | 14 => some F14
  | 15 => some F15
  | 16 => some F16
  | 17 => some F17
  | 18 => some F18
  | 19 => some F19
  | 20 => some F20
  | 21 => some F21
  | 22 => some F22
  | 23 => some F23
  | 24 => some F24
  | 25 => some F25
  | 26 => some F26
  | 27 => some F27
  | 28 => some F28
  | 29 => some F29
  | 30 => some F30
  | 31 => some F31
  | 32 => some F32
  | 33 => some F33
  | _ => none
theorem T0_ok : ∀ f F, T0 f = some F → okFun Try.prog f F = true := by
  intro f F h
  unfold T0 at h
  split at h
  · cases h; exact ok3
  · cases h; exact ok4
  · cases h; exact ok5
  · cases h; exact ok6
  · cases h; exact ok7
  · cases h; exact ok8
  · cases h; exact ok9
  · cases h; exact ok10
  · cases h; exact ok11
  · cases h; exact ok12
  · cases h; exact ok13
  · cases h; exact ok14
  · cases h; exact ok15
  · cases h; exact ok16
  · cases h; exact ok17
  · cases h; exact ok18
  · cases h; exact ok19
  · cases h; exact ok20
  · cases h; exact ok21
  · cases h; exact ok22
  · cases h; exact ok23
  · cases h; exact ok24
  · cases h; exact ok25
  · cases h; exact ok26
  · cases h; exact ok27
  · cases h; exact ok28
  · cases h; exact ok29
  · cases h; exact ok30
  · cases h; exact ok31
  · cases h; exact ok32
  · cases h; exact ok33
  · cases h
def B0 : Calls' := fun _ _ _ => none
theorem B0_good : Good Try.prog B0 := fun _ _ _ _ _ h => by cases h
noncomputable abbrev G0 : Calls' := Gx B0 T0
theorem G0_good : Good Try.prog G0 := Gx_good mix B0_good T0_ok
end Go.Av
