/- The code of the functions of this seat, as the engine reads it; printed by program out of the translation, checked by the kernel. -/
import Derived.Test.YthfnaaeddlnckaaEng18
import Derived.Test.YthfnaaeddlnckaaProg
namespace Go.Proofs.Ythfnaaeddlnckaa
open Go.Proofs E
/-- gosem.cut.init -/
def c_gosem_cut_init_2 : EC :=
  .rg [
    ⟨(some 0), none, .call 1, []⟩] false
theorem k_2 : ecF Try.prog 2 = some (1, c_gosem_cut_init_2, []) := by kernel_rfl

/-- tallystone/tallystonelaw58.ShellNames -/
def c_tallystonelaw58_ShellNames_3 : EC :=
  .sq (.rg [
    ⟨(some 2), none, .mv, [.c (.t (.bool false))]⟩] false)
  (.sq (.rg [
    ⟨(some 3), none, .call 10, [.c (.t (.int .i64 0))]⟩,
    ⟨(some 4), none, .bin .eql, [.tmp 3, .c (.t (.str [111, 107]))]⟩,
    ⟨(some 5), none, .mv, [.tmp 4]⟩,
    ⟨(some 6), some (5, true), .mv, [.tmp 0]⟩,
    ⟨(some 7), some (5, true), .call 10, [.tmp 6]⟩,
    ⟨(some 8), some (5, true), .mv, [.tmp 0]⟩,
    ⟨(some 9), some (5, true), .call 11, [.tmp 8]⟩,
    ⟨(some 10), some (5, true), .bin .eql, [.tmp 7, .tmp 9]⟩,
    ⟨(some 11), none, .pick, [.tmp 5, .tmp 10, .c (.t (.bool false))]⟩,
    ⟨(some 2), none, .mv, [.tmp 11]⟩] false)
  (.rt))
theorem k_3 : ecF Try.prog 3 = some (12, c_tallystonelaw58_ShellNames_3, [.tm 2]) := by kernel_rfl

/-- tallystone/tallystonelaw52.NoteMake -/
def c_tallystonelaw52_NoteMake_4 : EC :=
  .sq (.rg [
    ⟨(some 3), none, .box, [.tmp 0]⟩,
    ⟨(some 4), none, .box, [.tmp 1]⟩,
    ⟨(some 6), none, .mv, [.c (.t (.bool false))]⟩] false)
  (.sq (.sq (.rg [
    ⟨(some 11), none, .call 12, []⟩,
    ⟨(some 12), none, .un .not, [.tmp 11]⟩,
    ⟨(some 13), none, .mv, [.tmp 12]⟩,
    ⟨(some 14), some (13, false), .load 21 true, [.tmp 3]⟩,
    ⟨(some 15), some (13, false), .faddr 0, [.tmp 4]⟩,
    ⟨(some 16), some (13, false), .load 4 true, [.tmp 15]⟩,
    ⟨(some 17), some (13, false), .faddr 4, [.tmp 4]⟩,
    ⟨(some 18), some (13, false), .load 4 true, [.tmp 17]⟩,
    ⟨(some 19), some (13, false), .call 13, [.tmp 14, .tmp 16, .tmp 18]⟩,
    ⟨(some 20), some (13, false), .un .not, [.tmp 19]⟩,
    ⟨(some 21), none, .pick, [.tmp 13, .c (.t (.bool true)), .tmp 20]⟩] false)
  (.cd (.tmp 21)
   (.sq (.rg [
     ⟨(some 22), none, .call 12, []⟩,
     ⟨(some 6), none, .mv, [.tmp 22]⟩] false)
   (.rt))
   (.skip)))
  (.sq (.rg [
    ⟨(some 24), none, .load 21 true, [.tmp 3]⟩,
    ⟨(some 25), none, .faddr 0, [.tmp 4]⟩,
    ⟨(some 26), none, .load 4 true, [.tmp 25]⟩,
    ⟨(some 27), none, .faddr 4, [.tmp 4]⟩,
    ⟨(some 28), none, .load 4 true, [.tmp 27]⟩,
    ⟨(some 29), none, .mv, [.tmp 2]⟩,
    ⟨(some 30), none, .call 14, [.tmp 24, .tmp 26, .tmp 28, .tmp 29]⟩,
    ⟨(some 23), none, .mv, [.tmp 30]⟩,
    ⟨(some 31), none, .ext 0, [.tmp 23]⟩,
    ⟨(some 32), none, .ext 1, [.tmp 23]⟩,
    ⟨(some 7), none, .alloc [.t (.int .i64 0), .t (.int .i64 0), .t (.int .i64 0), .t (.int .i64 0), .t (.int .i64 0), .t (.int .i64 0), .t (.int .i64 0), .t (.int .i64 0), .t (.int .i64 0), .t (.int .i64 0), .t (.int .i64 0), .t (.int .i64 0), .t (.int .i64 0), .t (.int .i64 0), .t (.int .i64 0), .t (.int .i64 0)], []⟩,
    ⟨none, none, .store 16, [.tmp 7, .tmp 31]⟩,
    ⟨(some 8), none, .mv, [.tmp 32]⟩] false)
  (.sq (.rg [
    ⟨(some 34), none, .load 21 true, [.tmp 3]⟩,
    ⟨(some 35), none, .faddr 0, [.tmp 4]⟩,
    ⟨(some 36), none, .load 4 true, [.tmp 35]⟩,
    ⟨(some 37), none, .faddr 4, [.tmp 4]⟩,
    ⟨(some 38), none, .load 4 true, [.tmp 37]⟩,
    ⟨(some 39), none, .mv, [.tmp 2]⟩,
    ⟨(some 40), none, .call 15, [.tmp 34, .tmp 36, .tmp 38, .tmp 39]⟩,
    ⟨(some 33), none, .mv, [.tmp 40]⟩,
    ⟨(some 41), none, .ext 0, [.tmp 33]⟩,
    ⟨(some 42), none, .ext 1, [.tmp 33]⟩,
    ⟨(some 9), none, .alloc [.t (.int .i64 0), .t (.int .i64 0), .t (.int .i64 0), .t (.int .i64 0), .t (.int .i64 0), .t (.int .i64 0), .t (.int .i64 0), .t (.int .i64 0), .t (.int .i64 0), .t (.int .i64 0), .t (.int .i64 0), .t (.int .i64 0), .t (.int .i64 0), .t (.int .i64 0), .t (.int .i64 0), .t (.int .i64 0)], []⟩,
    ⟨none, none, .store 16, [.tmp 9, .tmp 41]⟩,
    ⟨(some 10), none, .mv, [.tmp 42]⟩] false)
  (.sq (.rg [
    ⟨(some 43), none, .mv, [.tmp 8]⟩,
    ⟨(some 44), none, .mv, [.tmp 10]⟩,
    ⟨(some 45), none, .bin .eql, [.tmp 43, .tmp 44]⟩,
    ⟨(some 46), none, .mv, [.tmp 45]⟩,
    ⟨(some 47), some (46, true), .load 16 true, [.tmp 7]⟩,
    ⟨(some 48), some (46, true), .load 16 true, [.tmp 9]⟩,
    ⟨(some 49), some (46, true), .eqv false true [1, 1, 1, 1, 1, 1, 1, 1, 1, 1, 1, 1, 1, 1, 1, 1], [.tmp 47, .tmp 48]⟩,
    ⟨(some 50), none, .pick, [.tmp 46, .tmp 49, .c (.t (.bool false))]⟩,
    ⟨(some 51), none, .mv, [.tmp 50]⟩,
    ⟨(some 52), some (51, true), .load 16 true, [.tmp 7]⟩,
    ⟨(some 53), some (51, true), .call 16, [.tmp 52]⟩,
    ⟨(some 54), some (51, true), .load 16 true, [.tmp 9]⟩,
    ⟨(some 55), some (51, true), .call 17, [.tmp 54]⟩,
    ⟨(some 56), some (51, true), .bin .eql, [.tmp 53, .tmp 55]⟩,
    ⟨(some 57), none, .pick, [.tmp 51, .tmp 56, .c (.t (.bool false))]⟩,
    ⟨(some 6), none, .mv, [.tmp 57]⟩] true)
  (.rt)))))
theorem k_4 : ecF Try.prog 4 = some (58, c_tallystonelaw52_NoteMake_4, [.tm 6]) := by kernel_rfl

/-- tallystone/tallystonelaw52.NoteExplains -/
def c_tallystonelaw52_NoteExplains_5 : EC :=
  .sq (.rg [
    ⟨(some 3), none, .box, [.tmp 0]⟩,
    ⟨(some 4), none, .box, [.tmp 1]⟩,
    ⟨(some 6), none, .mv, [.c (.t (.bool false))]⟩] false)
  (.sq (.sq (.rg [
    ⟨(some 11), none, .call 12, []⟩,
    ⟨(some 12), none, .un .not, [.tmp 11]⟩,
    ⟨(some 13), none, .mv, [.tmp 12]⟩,
    ⟨(some 14), some (13, false), .load 21 true, [.tmp 3]⟩,
    ⟨(some 15), some (13, false), .faddr 0, [.tmp 4]⟩,
    ⟨(some 16), some (13, false), .load 4 true, [.tmp 15]⟩,
    ⟨(some 17), some (13, false), .faddr 4, [.tmp 4]⟩,
    ⟨(some 18), some (13, false), .load 4 true, [.tmp 17]⟩,
    ⟨(some 19), some (13, false), .call 13, [.tmp 14, .tmp 16, .tmp 18]⟩,
    ⟨(some 20), some (13, false), .un .not, [.tmp 19]⟩,
    ⟨(some 21), none, .pick, [.tmp 13, .c (.t (.bool true)), .tmp 20]⟩] false)
  (.cd (.tmp 21)
   (.sq (.rg [
     ⟨(some 22), none, .call 12, []⟩,
     ⟨(some 6), none, .mv, [.tmp 22]⟩] false)
   (.rt))
   (.skip)))
  (.sq (.sq (.rg [
    ⟨(some 23), none, .bsl 5, []⟩,
    ⟨(some 24), none, .faddr 0, [.tmp 4]⟩,
    ⟨(some 25), none, .faddr 2, [.tmp 24]⟩,
    ⟨(some 26), none, .load 1 false, [.tmp 25]⟩,
    ⟨(some 27), none, .app 55 5 56, [.tmp 23, .tmp 26]⟩,
    ⟨(some 28), none, .faddr 4, [.tmp 4]⟩,
    ⟨(some 29), none, .faddr 2, [.tmp 28]⟩,
    ⟨(some 30), none, .load 1 false, [.tmp 29]⟩,
    ⟨(some 31), none, .app 55 5 56, [.tmp 27, .tmp 30]⟩,
    ⟨(some 32), none, .lenL, [.tmp 31]⟩,
    ⟨(some 33), none, .mv, [.c (.t (.int .i64 0))]⟩] true)
  (.bk 0 (.lp (.sq (.rg [
     ⟨(some 34), none, .bin .lss, [.tmp 33, .tmp 32]⟩] false)
   (.sq (.cd (.tmp 34)
    (.skip)
    (.ex 0))
   (.sq (.bk 1 (.sq (.rg [
     ⟨(some 35), none, .iaS 5, [.tmp 31, .tmp 33]⟩,
     ⟨(some 36), none, .load 5 true, [.tmp 35]⟩,
     ⟨(some 8), none, .alloc [.t (.int .i64 0), .t (.int .i64 0), .t (.int .i64 0), .t (.int .i64 0), .snil], []⟩,
     ⟨none, none, .store 5, [.tmp 8, .tmp 36]⟩] false)
   (.sq (.rg [
     ⟨(some 37), none, .faddr 0, [.tmp 8]⟩,
     ⟨(some 38), none, .load 1 false, [.tmp 37]⟩,
     ⟨(some 39), none, .bin .lss, [.tmp 38, .c (.t (.int .i64 1))]⟩,
     ⟨(some 40), none, .mv, [.tmp 39]⟩,
     ⟨(some 41), some (40, false), .faddr 0, [.tmp 8]⟩,
     ⟨(some 42), some (40, false), .load 1 false, [.tmp 41]⟩,
     ⟨(some 43), some (40, false), .bin .gtr, [.tmp 42, .c (.t (.int .i64 10))]⟩,
     ⟨(some 44), none, .pick, [.tmp 40, .c (.t (.bool true)), .tmp 43]⟩] false)
   (.cd (.tmp 44)
    (.sq (.rg [
      ⟨(some 6), none, .mv, [.c (.t (.bool true))]⟩] false)
    (.rt))
    (.skip)))))
   (.rg [
     ⟨(some 45), none, .bin .add, [.tmp 33, .c (.t (.int .i64 1))]⟩,
     ⟨(some 33), none, .mv, [.tmp 45]⟩] false)))))))
  (.sq (.rg [
    ⟨(some 47), none, .load 21 true, [.tmp 3]⟩,
    ⟨(some 48), none, .faddr 0, [.tmp 4]⟩,
    ⟨(some 49), none, .load 4 true, [.tmp 48]⟩,
    ⟨(some 50), none, .faddr 4, [.tmp 4]⟩,
    ⟨(some 51), none, .load 4 true, [.tmp 50]⟩,
    ⟨(some 52), none, .mv, [.tmp 2]⟩,
    ⟨(some 53), none, .call 14, [.tmp 47, .tmp 49, .tmp 51, .tmp 52]⟩,
    ⟨(some 46), none, .mv, [.tmp 53]⟩,
    ⟨(some 54), none, .ext 0, [.tmp 46]⟩,
    ⟨(some 55), none, .ext 1, [.tmp 46]⟩,
    ⟨(some 9), none, .alloc [.t (.int .i64 0), .t (.int .i64 0), .t (.int .i64 0), .t (.int .i64 0), .t (.int .i64 0), .t (.int .i64 0), .t (.int .i64 0), .t (.int .i64 0), .t (.int .i64 0), .t (.int .i64 0), .t (.int .i64 0), .t (.int .i64 0), .t (.int .i64 0), .t (.int .i64 0), .t (.int .i64 0), .t (.int .i64 0)], []⟩,
    ⟨none, none, .store 16, [.tmp 9, .tmp 54]⟩,
    ⟨(some 10), none, .mv, [.tmp 55]⟩] false)
  (.sq (.sq (.rg [
    ⟨(some 56), none, .mv, [.tmp 10]⟩,
    ⟨(some 57), none, .bin .neq, [.tmp 56, .c (.t (.int .i64 0))]⟩] false)
  (.cd (.tmp 57)
   (.sq (.rg [
     ⟨(some 58), none, .load 16 true, [.tmp 9]⟩,
     ⟨(some 59), none, .build [.t (.int .i64 0), .t (.int .i64 0), .t (.int .i64 0), .t (.int .i64 0), .t (.int .i64 0), .t (.int .i64 0), .t (.int .i64 0), .t (.int .i64 0), .t (.int .i64 0), .t (.int .i64 0), .t (.int .i64 0), .t (.int .i64 0), .t (.int .i64 0), .t (.int .i64 0), .t (.int .i64 0), .t (.int .i64 0)] [], []⟩,
     ⟨(some 60), none, .eqv false true [1, 1, 1, 1, 1, 1, 1, 1, 1, 1, 1, 1, 1, 1, 1, 1], [.tmp 58, .tmp 59]⟩,
     ⟨(some 6), none, .mv, [.tmp 60]⟩] false)
   (.rt))
   (.skip)))
  (.sq (.rg [
    ⟨(some 61), none, .faddr 1, [.tmp 9]⟩,
    ⟨(some 62), none, .load 1 false, [.tmp 61]⟩,
    ⟨(some 63), none, .faddr 2, [.tmp 9]⟩,
    ⟨(some 64), none, .load 1 false, [.tmp 63]⟩,
    ⟨(some 65), none, .bin .add, [.tmp 62, .tmp 64]⟩,
    ⟨(some 66), none, .load 16 true, [.tmp 9]⟩,
    ⟨(some 67), none, .call 16, [.tmp 66]⟩,
    ⟨(some 68), none, .bin .add, [.tmp 65, .tmp 67]⟩,
    ⟨(some 69), none, .faddr 3, [.tmp 9]⟩,
    ⟨(some 70), none, .load 1 false, [.tmp 69]⟩,
    ⟨(some 71), none, .bin .add, [.tmp 68, .tmp 70]⟩,
    ⟨(some 72), none, .faddr 4, [.tmp 9]⟩,
    ⟨(some 73), none, .load 1 false, [.tmp 72]⟩,
    ⟨(some 74), none, .bin .eql, [.tmp 71, .tmp 73]⟩,
    ⟨(some 6), none, .mv, [.tmp 74]⟩] true)
  (.rt))))))
theorem k_5 : ecF Try.prog 5 = some (75, c_tallystonelaw52_NoteExplains_5, [.tm 6]) := by kernel_rfl

/-- tallystone/tallystonelaw52.NoteAll -/
def c_tallystonelaw52_NoteAll_7 : EC :=
  .sq (.rg [
    ⟨(some 2), none, .box, [.tmp 0]⟩,
    ⟨(some 3), none, .box, [.tmp 1]⟩,
    ⟨(some 4), none, .mv, [.c (.t (.bool false))]⟩] false)
  (.sq (.sq (.rg [
    ⟨(some 9), none, .call 12, []⟩,
    ⟨(some 10), none, .un .not, [.tmp 9]⟩,
    ⟨(some 11), none, .mv, [.tmp 10]⟩,
    ⟨(some 12), some (11, false), .load 21 true, [.tmp 2]⟩,
    ⟨(some 13), some (11, false), .faddr 0, [.tmp 3]⟩,
    ⟨(some 14), some (11, false), .load 4 true, [.tmp 13]⟩,
    ⟨(some 15), some (11, false), .faddr 4, [.tmp 3]⟩,
    ⟨(some 16), some (11, false), .load 4 true, [.tmp 15]⟩,
    ⟨(some 17), some (11, false), .call 13, [.tmp 12, .tmp 14, .tmp 16]⟩,
    ⟨(some 18), some (11, false), .un .not, [.tmp 17]⟩,
    ⟨(some 19), none, .pick, [.tmp 11, .c (.t (.bool true)), .tmp 18]⟩] false)
  (.cd (.tmp 19)
   (.sq (.rg [
     ⟨(some 20), none, .call 12, []⟩,
     ⟨(some 4), none, .mv, [.tmp 20]⟩] false)
   (.rt))
   (.skip)))
  (.sq (.rg [
    ⟨(some 22), none, .load 21 true, [.tmp 2]⟩,
    ⟨(some 23), none, .faddr 0, [.tmp 3]⟩,
    ⟨(some 24), none, .load 4 true, [.tmp 23]⟩,
    ⟨(some 25), none, .faddr 4, [.tmp 3]⟩,
    ⟨(some 26), none, .load 4 true, [.tmp 25]⟩,
    ⟨(some 27), none, .call 21, [.tmp 22, .tmp 24, .tmp 26]⟩,
    ⟨(some 21), none, .mv, [.tmp 27]⟩,
    ⟨(some 28), none, .ext 0, [.tmp 21]⟩,
    ⟨(some 29), none, .ext 1, [.tmp 21]⟩,
    ⟨(some 5), none, .mv, [.tmp 28]⟩,
    ⟨(some 6), none, .mv, [.tmp 29]⟩] false)
  (.sq (.rg [
    ⟨(some 31), none, .load 21 true, [.tmp 2]⟩,
    ⟨(some 32), none, .faddr 0, [.tmp 3]⟩,
    ⟨(some 33), none, .load 4 true, [.tmp 32]⟩,
    ⟨(some 34), none, .faddr 4, [.tmp 3]⟩,
    ⟨(some 35), none, .load 4 true, [.tmp 34]⟩,
    ⟨(some 36), none, .call 22, [.tmp 31, .tmp 33, .tmp 35]⟩,
    ⟨(some 30), none, .mv, [.tmp 36]⟩,
    ⟨(some 37), none, .ext 0, [.tmp 30]⟩,
    ⟨(some 38), none, .ext 1, [.tmp 30]⟩,
    ⟨(some 7), none, .mv, [.tmp 37]⟩,
    ⟨(some 8), none, .mv, [.tmp 38]⟩] false)
  (.sq (.rg [
    ⟨(some 39), none, .mv, [.tmp 6]⟩,
    ⟨(some 40), none, .mv, [.tmp 8]⟩,
    ⟨(some 41), none, .bin .eql, [.tmp 39, .tmp 40]⟩,
    ⟨(some 42), none, .mv, [.tmp 41]⟩,
    ⟨(some 43), some (42, true), .mv, [.tmp 5]⟩,
    ⟨(some 44), some (42, true), .call 24, [.tmp 43]⟩,
    ⟨(some 45), some (42, true), .mv, [.tmp 7]⟩,
    ⟨(some 46), some (42, true), .call 23, [.tmp 44, .tmp 45]⟩,
    ⟨(some 47), none, .pick, [.tmp 42, .tmp 46, .c (.t (.bool false))]⟩,
    ⟨(some 4), none, .mv, [.tmp 47]⟩] false)
  (.rt)))))
theorem k_7 : ecF Try.prog 7 = some (48, c_tallystonelaw52_NoteAll_7, [.tm 4]) := by kernel_rfl

/-- tallystone/tallystonelaw52.NoteBalance -/
def c_tallystonelaw52_NoteBalance_8 : EC :=
  .sq (.rg [
    ⟨(some 2), none, .box, [.tmp 0]⟩,
    ⟨(some 3), none, .box, [.tmp 1]⟩,
    ⟨(some 4), none, .mv, [.c (.t (.bool false))]⟩] false)
  (.sq (.sq (.rg [
    ⟨(some 18), none, .call 12, []⟩,
    ⟨(some 19), none, .un .not, [.tmp 18]⟩,
    ⟨(some 20), none, .mv, [.tmp 19]⟩,
    ⟨(some 21), some (20, false), .load 21 true, [.tmp 2]⟩,
    ⟨(some 22), some (20, false), .faddr 0, [.tmp 3]⟩,
    ⟨(some 23), some (20, false), .load 4 true, [.tmp 22]⟩,
    ⟨(some 24), some (20, false), .faddr 4, [.tmp 3]⟩,
    ⟨(some 25), some (20, false), .load 4 true, [.tmp 24]⟩,
    ⟨(some 26), some (20, false), .call 13, [.tmp 21, .tmp 23, .tmp 25]⟩,
    ⟨(some 27), some (20, false), .un .not, [.tmp 26]⟩,
    ⟨(some 28), none, .pick, [.tmp 20, .c (.t (.bool true)), .tmp 27]⟩,
    ⟨(some 29), none, .mv, [.tmp 28]⟩,
    ⟨(some 30), some (29, false), .load 21 true, [.tmp 2]⟩,
    ⟨(some 31), some (29, false), .call 18, [.tmp 30]⟩,
    ⟨(some 32), some (29, false), .un .not, [.tmp 31]⟩,
    ⟨(some 33), none, .pick, [.tmp 29, .c (.t (.bool true)), .tmp 32]⟩] false)
  (.cd (.tmp 33)
   (.sq (.rg [
     ⟨(some 34), none, .call 12, []⟩,
     ⟨(some 4), none, .mv, [.tmp 34]⟩] false)
   (.rt))
   (.skip)))
  (.sq (.sq (.rg [
    ⟨(some 35), none, .faddr 0, [.tmp 3]⟩,
    ⟨(some 36), none, .load 4 true, [.tmp 35]⟩,
    ⟨(some 37), none, .faddr 4, [.tmp 3]⟩,
    ⟨(some 38), none, .load 4 true, [.tmp 37]⟩,
    ⟨(some 39), none, .bsl 4, [.tmp 36, .tmp 38]⟩,
    ⟨(some 40), none, .lenL, [.tmp 39]⟩,
    ⟨(some 41), none, .mv, [.c (.t (.int .i64 0))]⟩] false)
  (.bk 0 (.lp (.sq (.rg [
     ⟨(some 42), none, .bin .lss, [.tmp 41, .tmp 40]⟩] false)
   (.sq (.cd (.tmp 42)
    (.skip)
    (.ex 0))
   (.sq (.bk 1 (.sq (.rg [
     ⟨(some 43), none, .iaS 4, [.tmp 39, .tmp 41]⟩,
     ⟨(some 44), none, .load 4 true, [.tmp 43]⟩,
     ⟨(some 6), none, .alloc [.t (.int .i64 0), .snil, .snil, .snil], []⟩,
     ⟨none, none, .store 4, [.tmp 6, .tmp 44]⟩] false)
   (.sq (.rg [
     ⟨(some 7), none, .mv, [.c (.t (.int .i64 0))]⟩] false)
   (.sq (.sq (.rg [
     ⟨(some 45), none, .faddr 1, [.tmp 6]⟩,
     ⟨(some 46), none, .load 1 false, [.tmp 45]⟩,
     ⟨(some 47), none, .faddr 2, [.tmp 6]⟩,
     ⟨(some 48), none, .load 1 false, [.tmp 47]⟩,
     ⟨(some 49), none, .call 25, [.tmp 46, .tmp 48]⟩,
     ⟨(some 50), none, .lenL, [.tmp 49]⟩,
     ⟨(some 51), none, .mv, [.c (.t (.int .i64 0))]⟩] false)
   (.bk 2 (.lp (.sq (.rg [
      ⟨(some 52), none, .bin .lss, [.tmp 51, .tmp 50]⟩] false)
    (.sq (.cd (.tmp 52)
     (.skip)
     (.ex 2))
    (.sq (.bk 3 (.sq (.rg [
      ⟨(some 53), none, .iaS 2, [.tmp 49, .tmp 51]⟩,
      ⟨(some 54), none, .load 2 true, [.tmp 53]⟩,
      ⟨(some 9), none, .alloc [.t (.int .i64 0), .t (.int .i64 0)], []⟩,
      ⟨none, none, .store 2, [.tmp 9, .tmp 54]⟩] false)
    (.sq (.sq (.rg [
      ⟨(some 56), none, .load 21 true, [.tmp 2]⟩,
      ⟨(some 57), none, .faddr 0, [.tmp 9]⟩,
      ⟨(some 58), none, .load 1 false, [.tmp 57]⟩,
      ⟨(some 59), none, .call 26, [.tmp 56, .tmp 58]⟩,
      ⟨(some 55), none, .mv, [.tmp 59]⟩,
      ⟨(some 60), none, .ext 0, [.tmp 55]⟩,
      ⟨(some 61), none, .ext 1, [.tmp 55]⟩,
      ⟨(some 10), none, .alloc [.t (.int .i64 0), .t (.int .i64 0), .t (.int .i64 0), .t (.int .i64 0)], []⟩,
      ⟨none, none, .store 4, [.tmp 10, .tmp 60]⟩,
      ⟨(some 11), none, .mv, [.tmp 61]⟩] false)
    (.sq (.rg [
      ⟨(some 62), none, .mv, [.tmp 11]⟩,
      ⟨(some 63), none, .un .not, [.tmp 62]⟩] false)
    (.cd (.tmp 63)
     (.sq (.rg [
       ⟨(some 4), none, .mv, [.c (.t (.bool true))]⟩] false)
     (.rt))
     (.skip))))
    (.rg [
      ⟨(some 64), none, .mv, [.tmp 7]⟩,
      ⟨(some 65), none, .faddr 1, [.tmp 9]⟩,
      ⟨(some 66), none, .load 1 false, [.tmp 65]⟩,
      ⟨(some 67), none, .bin .add, [.tmp 64, .tmp 66]⟩,
      ⟨(some 7), none, .mv, [.tmp 67]⟩] false))))
    (.rg [
      ⟨(some 68), none, .bin .add, [.tmp 51, .c (.t (.int .i64 1))]⟩,
      ⟨(some 51), none, .mv, [.tmp 68]⟩] false)))))))
   (.sq (.rg [
     ⟨(some 69), none, .mv, [.tmp 7]⟩,
     ⟨(some 70), none, .bin .neq, [.tmp 69, .c (.t (.int .i64 0))]⟩] false)
   (.cd (.tmp 70)
    (.sq (.rg [
      ⟨(some 4), none, .mv, [.c (.t (.bool true))]⟩] false)
    (.rt))
    (.skip)))))))
   (.rg [
     ⟨(some 71), none, .bin .add, [.tmp 41, .c (.t (.int .i64 1))]⟩,
     ⟨(some 41), none, .mv, [.tmp 71]⟩] false)))))))
  (.sq (.rg [
    ⟨(some 73), none, .load 21 true, [.tmp 2]⟩,
    ⟨(some 74), none, .faddr 0, [.tmp 3]⟩,
    ⟨(some 75), none, .load 4 true, [.tmp 74]⟩,
    ⟨(some 76), none, .faddr 4, [.tmp 3]⟩,
    ⟨(some 77), none, .load 4 true, [.tmp 76]⟩,
    ⟨(some 78), none, .call 21, [.tmp 73, .tmp 75, .tmp 77]⟩,
    ⟨(some 72), none, .mv, [.tmp 78]⟩,
    ⟨(some 79), none, .ext 0, [.tmp 72]⟩,
    ⟨(some 80), none, .ext 1, [.tmp 72]⟩,
    ⟨(some 12), none, .mv, [.tmp 79]⟩,
    ⟨(some 13), none, .mv, [.tmp 80]⟩] false)
  (.sq (.rg [
    ⟨(some 14), none, .mv, [.c (.t (.int .i64 0))]⟩,
    ⟨(some 15), none, .mv, [.c (.t (.int .i64 0))]⟩] false)
  (.sq (.sq (.rg [
    ⟨(some 81), none, .mv, [.tmp 12]⟩,
    ⟨(some 82), none, .lenL, [.tmp 81]⟩,
    ⟨(some 83), none, .mv, [.c (.t (.int .i64 0))]⟩] false)
  (.bk 4 (.lp (.sq (.rg [
     ⟨(some 84), none, .bin .lss, [.tmp 83, .tmp 82]⟩] false)
   (.sq (.cd (.tmp 84)
    (.skip)
    (.ex 4))
   (.sq (.bk 5 (.sq (.rg [
     ⟨(some 85), none, .iaS 16, [.tmp 81, .tmp 83]⟩,
     ⟨(some 86), none, .load 16 true, [.tmp 85]⟩,
     ⟨(some 17), none, .alloc [.t (.int .i64 0), .t (.int .i64 0), .t (.int .i64 0), .t (.int .i64 0), .t (.int .i64 0), .t (.int .i64 0), .t (.int .i64 0), .t (.int .i64 0), .t (.int .i64 0), .t (.int .i64 0), .t (.int .i64 0), .t (.int .i64 0), .t (.int .i64 0), .t (.int .i64 0), .t (.int .i64 0), .t (.int .i64 0)], []⟩,
     ⟨none, none, .store 16, [.tmp 17, .tmp 86]⟩] false)
   (.rg [
     ⟨(some 87), none, .mv, [.tmp 14]⟩,
     ⟨(some 88), none, .faddr 1, [.tmp 17]⟩,
     ⟨(some 89), none, .load 1 false, [.tmp 88]⟩,
     ⟨(some 90), none, .bin .add, [.tmp 87, .tmp 89]⟩,
     ⟨(some 91), none, .mv, [.tmp 15]⟩,
     ⟨(some 92), none, .faddr 4, [.tmp 17]⟩,
     ⟨(some 93), none, .load 1 false, [.tmp 92]⟩,
     ⟨(some 94), none, .bin .add, [.tmp 91, .tmp 93]⟩,
     ⟨(some 14), none, .mv, [.tmp 90]⟩,
     ⟨(some 15), none, .mv, [.tmp 94]⟩] true)))
   (.rg [
     ⟨(some 95), none, .bin .add, [.tmp 83, .c (.t (.int .i64 1))]⟩,
     ⟨(some 83), none, .mv, [.tmp 95]⟩] false)))))))
  (.sq (.rg [
    ⟨(some 96), none, .mv, [.tmp 13]⟩,
    ⟨(some 97), none, .bin .neq, [.tmp 96, .c (.t (.int .i64 0))]⟩,
    ⟨(some 98), none, .mv, [.tmp 97]⟩,
    ⟨(some 99), some (98, false), .mv, [.tmp 14]⟩,
    ⟨(some 100), some (98, false), .bin .eql, [.tmp 99, .c (.t (.int .i64 0))]⟩,
    ⟨(some 101), some (98, false), .mv, [.tmp 100]⟩,
    ⟨(some 102), some (101, true), .mv, [.tmp 15]⟩,
    ⟨(some 103), some (101, true), .bin .eql, [.tmp 102, .c (.t (.int .i64 0))]⟩,
    ⟨(some 104), some (98, false), .pick, [.tmp 101, .tmp 103, .c (.t (.bool false))]⟩,
    ⟨(some 105), none, .pick, [.tmp 98, .c (.t (.bool true)), .tmp 104]⟩,
    ⟨(some 4), none, .mv, [.tmp 105]⟩] false)
  (.rt)))))))
theorem k_8 : ecF Try.prog 8 = some (106, c_tallystonelaw52_NoteBalance_8, [.tm 4]) := by kernel_rfl

/-- tallystone/tallystonelaw52.NoteOrder -/
def c_tallystonelaw52_NoteOrder_9 : EC :=
  .sq (.rg [
    ⟨(some 2), none, .box, [.tmp 0]⟩,
    ⟨(some 3), none, .box, [.tmp 1]⟩,
    ⟨(some 4), none, .mv, [.c (.t (.bool false))]⟩] false)
  (.sq (.sq (.rg [
    ⟨(some 10), none, .call 12, []⟩,
    ⟨(some 11), none, .un .not, [.tmp 10]⟩,
    ⟨(some 12), none, .mv, [.tmp 11]⟩,
    ⟨(some 13), some (12, false), .load 21 true, [.tmp 2]⟩,
    ⟨(some 14), some (12, false), .faddr 0, [.tmp 3]⟩,
    ⟨(some 15), some (12, false), .load 4 true, [.tmp 14]⟩,
    ⟨(some 16), some (12, false), .faddr 4, [.tmp 3]⟩,
    ⟨(some 17), some (12, false), .load 4 true, [.tmp 16]⟩,
    ⟨(some 18), some (12, false), .call 13, [.tmp 13, .tmp 15, .tmp 17]⟩,
    ⟨(some 19), some (12, false), .un .not, [.tmp 18]⟩,
    ⟨(some 20), none, .pick, [.tmp 12, .c (.t (.bool true)), .tmp 19]⟩] false)
  (.cd (.tmp 20)
   (.sq (.rg [
     ⟨(some 21), none, .call 12, []⟩,
     ⟨(some 4), none, .mv, [.tmp 21]⟩] false)
   (.rt))
   (.skip)))
  (.sq (.rg [
    ⟨(some 5), none, .mv, [.c (.fn (.func 27) [])]⟩] false)
  (.sq (.rg [
    ⟨(some 23), none, .load 21 true, [.tmp 2]⟩,
    ⟨(some 24), none, .faddr 0, [.tmp 3]⟩,
    ⟨(some 25), none, .load 4 true, [.tmp 24]⟩,
    ⟨(some 26), none, .faddr 4, [.tmp 3]⟩,
    ⟨(some 27), none, .load 4 true, [.tmp 26]⟩,
    ⟨(some 28), none, .call 21, [.tmp 23, .tmp 25, .tmp 27]⟩,
    ⟨(some 22), none, .mv, [.tmp 28]⟩,
    ⟨(some 29), none, .ext 0, [.tmp 22]⟩,
    ⟨(some 30), none, .ext 1, [.tmp 22]⟩,
    ⟨(some 6), none, .mv, [.tmp 29]⟩,
    ⟨(some 7), none, .mv, [.tmp 30]⟩] false)
  (.sq (.rg [
    ⟨(some 32), none, .load 21 true, [.tmp 2]⟩,
    ⟨(some 33), none, .mv, [.tmp 5]⟩,
    ⟨(some 34), none, .faddr 0, [.tmp 3]⟩,
    ⟨(some 35), none, .load 4 true, [.tmp 34]⟩,
    ⟨(some 36), none, .callv, [.tmp 33, .tmp 35]⟩,
    ⟨(some 37), none, .mv, [.tmp 5]⟩,
    ⟨(some 38), none, .faddr 4, [.tmp 3]⟩,
    ⟨(some 39), none, .load 4 true, [.tmp 38]⟩,
    ⟨(some 40), none, .callv, [.tmp 37, .tmp 39]⟩,
    ⟨(some 41), none, .call 21, [.tmp 32, .tmp 36, .tmp 40]⟩,
    ⟨(some 31), none, .mv, [.tmp 41]⟩,
    ⟨(some 42), none, .ext 0, [.tmp 31]⟩,
    ⟨(some 43), none, .ext 1, [.tmp 31]⟩,
    ⟨(some 8), none, .mv, [.tmp 42]⟩,
    ⟨(some 9), none, .mv, [.tmp 43]⟩] true)
  (.sq (.rg [
    ⟨(some 44), none, .mv, [.tmp 7]⟩,
    ⟨(some 45), none, .mv, [.tmp 9]⟩,
    ⟨(some 46), none, .bin .eql, [.tmp 44, .tmp 45]⟩,
    ⟨(some 47), none, .mv, [.tmp 46]⟩,
    ⟨(some 48), some (47, true), .mv, [.tmp 6]⟩,
    ⟨(some 49), some (47, true), .call 24, [.tmp 48]⟩,
    ⟨(some 50), some (47, true), .mv, [.tmp 8]⟩,
    ⟨(some 51), some (47, true), .call 24, [.tmp 50]⟩,
    ⟨(some 52), some (47, true), .call 23, [.tmp 49, .tmp 51]⟩,
    ⟨(some 53), none, .pick, [.tmp 47, .tmp 52, .c (.t (.bool false))]⟩,
    ⟨(some 4), none, .mv, [.tmp 53]⟩] false)
  (.rt))))))
theorem k_9 : ecF Try.prog 9 = some (54, c_tallystonelaw52_NoteOrder_9, [.tm 4]) := by kernel_rfl

/-- tallystone/shell.Name -/
def c_shell_Name_10 : EC :=
  .sq (.rg [
    ⟨(some 2), none, .mv, [.c (.t (.str []))]⟩] false)
  (.sq (.rg [
    ⟨(some 4), none, .build [.t (.str []), .t (.str []), .t (.str []), .t (.str []), .t (.str []), .t (.str []), .t (.str []), .t (.str []), .t (.str []), .t (.str []), .t (.str []), .t (.str []), .t (.str []), .t (.str []), .t (.str []), .t (.str []), .t (.str []), .t (.str []), .t (.str []), .t (.str [])] [(0, 1), (1, 1), (2, 1), (3, 1), (4, 1), (5, 1), (6, 1), (7, 1), (8, 1), (9, 1), (10, 1), (11, 1), (12, 1), (13, 1), (14, 1), (15, 1), (16, 1), (17, 1), (18, 1), (19, 1)], [.c (.t (.str [111, 107])), .c (.t (.str [97, 114, 103, 117, 109, 101, 110, 116])), .c (.t (.str [114, 97, 110, 103, 101])), .c (.t (.str [115, 121, 110, 116, 97, 120])), .c (.t (.str [102, 111, 114, 109])), .c (.t (.str [115, 117, 109])), .c (.t (.str [108, 105, 109, 105, 116])), .c (.t (.str [115, 116, 97, 116, 101])), .c (.t (.str [110, 111, 110, 101])), .c (.t (.str [100, 117, 112, 108, 105, 99, 97, 116, 101])), .c (.t (.str [100, 105, 118, 105, 100, 101])), .c (.t (.str [117, 110, 98, 97, 108, 97, 110, 99, 101, 100])), .c (.t (.str [108, 111, 99, 107, 101, 100])), .c (.t (.str [114, 97, 116, 101])), .c (.t (.str [115, 105, 110, 103, 117, 108, 97, 114])), .c (.t (.str [109, 97, 112, 112, 105, 110, 103])), .c (.t (.str [116, 121, 112, 101])), .c (.t (.str [117, 110, 107, 110, 111, 119, 110])), .c (.t (.str [99, 111, 110, 102, 108, 105, 99, 116])), .c (.t (.str [116, 111, 114, 110]))]⟩,
    ⟨(some 3), none, .alloc [.t (.str []), .t (.str []), .t (.str []), .t (.str []), .t (.str []), .t (.str []), .t (.str []), .t (.str []), .t (.str []), .t (.str []), .t (.str []), .t (.str []), .t (.str []), .t (.str []), .t (.str []), .t (.str []), .t (.str []), .t (.str []), .t (.str []), .t (.str [])], []⟩,
    ⟨none, none, .store 20, [.tmp 3, .tmp 4]⟩] false)
  (.sq (.sq (.rg [
    ⟨(some 5), none, .mv, [.tmp 0]⟩,
    ⟨(some 6), none, .bin .lss, [.tmp 5, .c (.t (.int .i64 0))]⟩,
    ⟨(some 7), none, .mv, [.tmp 6]⟩,
    ⟨(some 8), some (7, false), .mv, [.tmp 0]⟩,
    ⟨(some 9), some (7, false), .bin .geq, [.tmp 8, .c (.t (.int .i64 20))]⟩,
    ⟨(some 10), none, .pick, [.tmp 7, .c (.t (.bool true)), .tmp 9]⟩] false)
  (.cd (.tmp 10)
   (.sq (.rg [
     ⟨(some 2), none, .mv, [.c (.t (.str []))]⟩] false)
   (.rt))
   (.skip)))
  (.sq (.rg [
    ⟨(some 11), none, .mv, [.tmp 0]⟩,
    ⟨(some 12), none, .iaA 20 1, [.tmp 3, .tmp 11]⟩,
    ⟨(some 13), none, .load 1 false, [.tmp 12]⟩,
    ⟨(some 2), none, .mv, [.tmp 13]⟩] false)
  (.rt))))
theorem k_10 : ecF Try.prog 10 = some (14, c_shell_Name_10, [.tm 2]) := by kernel_rfl

/-- tallystone/tallystoneref58.Name -/
def c_tallystoneref58_Name_11 : EC :=
  .sq (.rg [
    ⟨(some 2), none, .mv, [.c (.t (.str []))]⟩] false)
  (.sq (.rg [
    ⟨(some 4), none, .bsl 1, [.c (.t (.str [111, 107])), .c (.t (.str [97, 114, 103, 117, 109, 101, 110, 116])), .c (.t (.str [114, 97, 110, 103, 101])), .c (.t (.str [115, 121, 110, 116, 97, 120])), .c (.t (.str [102, 111, 114, 109])), .c (.t (.str [115, 117, 109])), .c (.t (.str [108, 105, 109, 105, 116])), .c (.t (.str [115, 116, 97, 116, 101])), .c (.t (.str [110, 111, 110, 101])), .c (.t (.str [100, 117, 112, 108, 105, 99, 97, 116, 101])), .c (.t (.str [100, 105, 118, 105, 100, 101])), .c (.t (.str [117, 110, 98, 97, 108, 97, 110, 99, 101, 100])), .c (.t (.str [108, 111, 99, 107, 101, 100])), .c (.t (.str [114, 97, 116, 101])), .c (.t (.str [115, 105, 110, 103, 117, 108, 97, 114])), .c (.t (.str [109, 97, 112, 112, 105, 110, 103])), .c (.t (.str [116, 121, 112, 101])), .c (.t (.str [117, 110, 107, 110, 111, 119, 110])), .c (.t (.str [99, 111, 110, 102, 108, 105, 99, 116])), .c (.t (.str [116, 111, 114, 110]))]⟩,
    ⟨(some 3), none, .mv, [.tmp 4]⟩] false)
  (.sq (.sq (.rg [
    ⟨(some 5), none, .mv, [.tmp 0]⟩,
    ⟨(some 6), none, .bin .lss, [.tmp 5, .c (.t (.int .i64 0))]⟩,
    ⟨(some 7), none, .mv, [.tmp 6]⟩,
    ⟨(some 8), some (7, false), .mv, [.tmp 0]⟩,
    ⟨(some 9), some (7, false), .mv, [.tmp 3]⟩,
    ⟨(some 10), some (7, false), .lenL, [.tmp 9]⟩,
    ⟨(some 11), some (7, false), .bin .geq, [.tmp 8, .tmp 10]⟩,
    ⟨(some 12), none, .pick, [.tmp 7, .c (.t (.bool true)), .tmp 11]⟩] false)
  (.cd (.tmp 12)
   (.sq (.rg [
     ⟨(some 2), none, .mv, [.c (.t (.str []))]⟩] false)
   (.rt))
   (.skip)))
  (.sq (.rg [
    ⟨(some 13), none, .mv, [.tmp 3]⟩,
    ⟨(some 14), none, .mv, [.tmp 0]⟩,
    ⟨(some 15), none, .iaS 1, [.tmp 13, .tmp 14]⟩,
    ⟨(some 16), none, .load 1 false, [.tmp 15]⟩,
    ⟨(some 2), none, .mv, [.tmp 16]⟩] false)
  (.rt))))
theorem k_11 : ecF Try.prog 11 = some (17, c_tallystoneref58_Name_11, [.tm 2]) := by kernel_rfl

/-- tallystone/tallystonelaw52.few -/
def c_tallystonelaw52_few_13 : EC :=
  .sq (.rg [
    ⟨(some 3), none, .box, [.tmp 0]⟩,
    ⟨(some 4), none, .box, [.tmp 1]⟩,
    ⟨(some 5), none, .box, [.tmp 2]⟩,
    ⟨(some 6), none, .mv, [.c (.t (.bool false))]⟩] false)
  (.sq (.rg [
    ⟨(some 7), none, .load 21 true, [.tmp 3]⟩,
    ⟨(some 8), none, .call 29, [.tmp 7]⟩,
    ⟨(some 9), none, .mv, [.tmp 8]⟩,
    ⟨(some 10), some (9, true), .load 4 true, [.tmp 4]⟩,
    ⟨(some 11), some (9, true), .call 30, [.tmp 10]⟩,
    ⟨(some 12), none, .pick, [.tmp 9, .tmp 11, .c (.t (.bool false))]⟩,
    ⟨(some 13), none, .mv, [.tmp 12]⟩,
    ⟨(some 14), some (13, true), .load 4 true, [.tmp 5]⟩,
    ⟨(some 15), some (13, true), .call 30, [.tmp 14]⟩,
    ⟨(some 16), none, .pick, [.tmp 13, .tmp 15, .c (.t (.bool false))]⟩,
    ⟨(some 6), none, .mv, [.tmp 16]⟩] false)
  (.rt))
theorem k_13 : ecF Try.prog 13 = some (17, c_tallystonelaw52_few_13, [.tm 6]) := by kernel_rfl

/-- tallystone/note.Make -/
def c_note_Make_14 : EC :=
  .sq (.rg [
    ⟨(some 4), none, .box, [.tmp 0]⟩,
    ⟨(some 5), none, .box, [.tmp 1]⟩,
    ⟨(some 6), none, .box, [.tmp 2]⟩,
    ⟨(some 8), none, .alloc [.t (.int .i64 0), .t (.int .i64 0), .t (.int .i64 0), .t (.int .i64 0), .t (.int .i64 0), .t (.int .i64 0), .t (.int .i64 0), .t (.int .i64 0), .t (.int .i64 0), .t (.int .i64 0), .t (.int .i64 0), .t (.int .i64 0), .t (.int .i64 0), .t (.int .i64 0), .t (.int .i64 0), .t (.int .i64 0)], []⟩,
    ⟨(some 9), none, .mv, [.c (.t (.int .i64 0))]⟩] false)
  (.sq (.rg [
    ⟨(some 18), none, .load 21 true, [.tmp 4]⟩,
    ⟨(some 19), none, .faddr 0, [.tmp 6]⟩,
    ⟨(some 20), none, .load 1 false, [.tmp 19]⟩,
    ⟨(some 21), none, .call 31, [.tmp 18, .tmp 20]⟩,
    ⟨(some 17), none, .mv, [.tmp 21]⟩,
    ⟨(some 22), none, .ext 0, [.tmp 17]⟩,
    ⟨(some 23), none, .ext 1, [.tmp 17]⟩,
    ⟨(some 24), none, .ext 2, [.tmp 17]⟩,
    ⟨(some 10), none, .mv, [.tmp 22]⟩,
    ⟨(some 11), none, .mv, [.tmp 23]⟩,
    ⟨(some 12), none, .mv, [.tmp 24]⟩] false)
  (.sq (.sq (.rg [
    ⟨(some 25), none, .mv, [.tmp 12]⟩,
    ⟨(some 26), none, .bin .neq, [.tmp 25, .c (.t (.int .i64 0))]⟩] false)
  (.cd (.tmp 26)
   (.sq (.rg [
     ⟨(some 27), none, .build [.t (.int .i64 0), .t (.int .i64 0), .t (.int .i64 0), .t (.int .i64 0), .t (.int .i64 0), .t (.int .i64 0), .t (.int .i64 0), .t (.int .i64 0), .t (.int .i64 0), .t (.int .i64 0), .t (.int .i64 0), .t (.int .i64 0), .t (.int .i64 0), .t (.int .i64 0), .t (.int .i64 0), .t (.int .i64 0)] [], []⟩,
     ⟨(some 28), none, .mv, [.tmp 12]⟩,
     ⟨none, none, .store 16, [.tmp 8, .tmp 27]⟩,
     ⟨(some 9), none, .mv, [.tmp 28]⟩] false)
   (.rt))
   (.skip)))
  (.sq (.sq (.rg [
    ⟨(some 30), none, .load 21 true, [.tmp 4]⟩,
    ⟨(some 31), none, .mv, [.tmp 3]⟩,
    ⟨(some 32), none, .call 32, [.tmp 30, .tmp 31]⟩,
    ⟨(some 29), none, .mv, [.tmp 32]⟩,
    ⟨(some 33), none, .ext 0, [.tmp 29]⟩,
    ⟨(some 34), none, .ext 1, [.tmp 29]⟩,
    ⟨(some 13), none, .alloc [.t (.int .i64 0), .t (.int .i64 0), .t (.int .i64 0), .t (.int .i64 0)], []⟩,
    ⟨none, none, .store 4, [.tmp 13, .tmp 33]⟩,
    ⟨(some 14), none, .mv, [.tmp 34]⟩] false)
  (.sq (.rg [
    ⟨(some 35), none, .mv, [.tmp 14]⟩,
    ⟨(some 36), none, .un .not, [.tmp 35]⟩] false)
  (.cd (.tmp 36)
   (.sq (.rg [
     ⟨(some 37), none, .build [.t (.int .i64 0), .t (.int .i64 0), .t (.int .i64 0), .t (.int .i64 0), .t (.int .i64 0), .t (.int .i64 0), .t (.int .i64 0), .t (.int .i64 0), .t (.int .i64 0), .t (.int .i64 0), .t (.int .i64 0), .t (.int .i64 0), .t (.int .i64 0), .t (.int .i64 0), .t (.int .i64 0), .t (.int .i64 0)] [], []⟩,
     ⟨none, none, .store 16, [.tmp 8, .tmp 37]⟩,
     ⟨(some 9), none, .mv, [.c (.t (.int .i64 8))]⟩] false)
   (.rt))
   (.skip))))
  (.sq (.rg [
    ⟨(some 38), none, .mv, [.tmp 3]⟩,
    ⟨(some 39), none, .build [.t (.int .i64 0), .t (.int .i64 0), .t (.int .i64 0), .t (.int .i64 0), .t (.int .i64 0), .t (.int .i64 0), .t (.int .i64 0), .t (.int .i64 0), .t (.int .i64 0), .t (.int .i64 0), .t (.int .i64 0), .t (.int .i64 0), .t (.int .i64 0), .t (.int .i64 0), .t (.int .i64 0), .t (.int .i64 0)] [(0, 1)], [.tmp 38]⟩,
    ⟨(some 15), none, .alloc [.t (.int .i64 0), .t (.int .i64 0), .t (.int .i64 0), .t (.int .i64 0), .t (.int .i64 0), .t (.int .i64 0), .t (.int .i64 0), .t (.int .i64 0), .t (.int .i64 0), .t (.int .i64 0), .t (.int .i64 0), .t (.int .i64 0), .t (.int .i64 0), .t (.int .i64 0), .t (.int .i64 0), .t (.int .i64 0)], []⟩,
    ⟨none, none, .store 16, [.tmp 15, .tmp 39]⟩] false)
  (.sq (.rg [
    ⟨(some 40), none, .mv, [.tmp 10]⟩,
    ⟨(some 41), none, .mv, [.tmp 11]⟩,
    ⟨(some 42), none, .build [.t (.nilp), .t (.int .i64 0), .t (.int .i64 0)] [(0, 1), (1, 1), (2, 1)], [.tmp 15, .tmp 40, .tmp 41]⟩,
    ⟨(some 16), none, .alloc [.t (.nilp), .t (.int .i64 0), .t (.int .i64 0)], []⟩,
    ⟨none, none, .store 3, [.tmp 16, .tmp 42]⟩] false)
  (.sq (.rg [
    ⟨(some 43), none, .load 3 true, [.tmp 16]⟩,
    ⟨(some 44), none, .load 4 true, [.tmp 5]⟩,
    ⟨(some 45), none, .call 33, [.tmp 43, .tmp 44]⟩] false)
  (.sq (.rg [
    ⟨(some 46), none, .load 3 true, [.tmp 16]⟩,
    ⟨(some 47), none, .load 4 true, [.tmp 6]⟩,
    ⟨(some 48), none, .call 34, [.tmp 46, .tmp 47]⟩] false)
  (.sq (.sq (.rg [
    ⟨(some 49), none, .load 16 true, [.tmp 15]⟩,
    ⟨(some 50), none, .call 36, [.tmp 49]⟩,
    ⟨(some 51), none, .call 35, [.tmp 50, .c (.fn (.func 37) [])]⟩] false)
  (.cd (.tmp 51)
   (.sq (.rg [
     ⟨(some 52), none, .build [.t (.int .i64 0), .t (.int .i64 0), .t (.int .i64 0), .t (.int .i64 0), .t (.int .i64 0), .t (.int .i64 0), .t (.int .i64 0), .t (.int .i64 0), .t (.int .i64 0), .t (.int .i64 0), .t (.int .i64 0), .t (.int .i64 0), .t (.int .i64 0), .t (.int .i64 0), .t (.int .i64 0), .t (.int .i64 0)] [], []⟩,
     ⟨none, none, .store 16, [.tmp 8, .tmp 52]⟩,
     ⟨(some 9), none, .mv, [.c (.t (.int .i64 2))]⟩] false)
   (.rt))
   (.skip)))
  (.sq (.rg [
    ⟨(some 53), none, .load 16 true, [.tmp 15]⟩,
    ⟨none, none, .store 16, [.tmp 8, .tmp 53]⟩,
    ⟨(some 9), none, .mv, [.c (.t (.int .i64 0))]⟩] false)
  (.rt))))))))))
theorem k_14 : ecF Try.prog 14 = some (54, c_note_Make_14, [.ce 8 16 true, .tm 9]) := by kernel_rfl

/-- tallystone/note.Sum -/
def c_note_Sum_16 : EC :=
  .sq (.rg [
    ⟨(some 1), none, .box, [.tmp 0]⟩,
    ⟨(some 2), none, .mv, [.c (.t (.int .i64 0))]⟩] false)
  (.sq (.rg [
    ⟨(some 3), none, .mv, [.c (.t (.int .i64 0))]⟩] false)
  (.sq (.sq (.rg [
    ⟨(some 6), none, .faddr 5, [.tmp 1]⟩,
    ⟨(some 7), none, .load 11 true, [.tmp 6]⟩,
    ⟨(some 8), none, .mv, [.c (.t (.int .i64 0))]⟩] false)
  (.bk 0 (.lp (.sq (.rg [
     ⟨(some 9), none, .bin .lss, [.tmp 8, .c (.t (.int .i64 11))]⟩] false)
   (.sq (.cd (.tmp 9)
    (.skip)
    (.ex 0))
   (.sq (.bk 1 (.sq (.rg [
     ⟨(some 10), none, .ixA 11 1 1 false, [.tmp 7, .tmp 8]⟩,
     ⟨(some 5), none, .mv, [.tmp 10]⟩] false)
   (.rg [
     ⟨(some 11), none, .mv, [.tmp 3]⟩,
     ⟨(some 12), none, .mv, [.tmp 5]⟩,
     ⟨(some 13), none, .bin .add, [.tmp 11, .tmp 12]⟩,
     ⟨(some 3), none, .mv, [.tmp 13]⟩] false)))
   (.rg [
     ⟨(some 14), none, .bin .add, [.tmp 8, .c (.t (.int .i64 1))]⟩,
     ⟨(some 8), none, .mv, [.tmp 14]⟩] false)))))))
  (.sq (.rg [
    ⟨(some 15), none, .mv, [.tmp 3]⟩,
    ⟨(some 2), none, .mv, [.tmp 15]⟩] false)
  (.rt))))
theorem k_16 : ecF Try.prog 16 = some (16, c_note_Sum_16, [.tm 2]) := by kernel_rfl

/-- tallystone/tallystoneref52.Sum -/
def c_tallystoneref52_Sum_17 : EC :=
  .sq (.rg [
    ⟨(some 1), none, .box, [.tmp 0]⟩,
    ⟨(some 2), none, .mv, [.c (.t (.int .i64 0))]⟩] false)
  (.sq (.rg [
    ⟨(some 3), none, .mv, [.c (.t (.int .i64 0))]⟩] false)
  (.sq (.sq (.rg [
    ⟨(some 4), none, .mv, [.c (.t (.int .i64 0))]⟩] false)
  (.bk 0 (.lp (.sq (.sq (.rg [
     ⟨(some 5), none, .mv, [.tmp 4]⟩,
     ⟨(some 6), none, .bin .lss, [.tmp 5, .c (.t (.int .i64 11))]⟩] false)
   (.cd (.tmp 6)
    (.skip)
    (.ex 0)))
   (.sq (.bk 1 (.rg [
     ⟨(some 9), none, .mv, [.tmp 3]⟩,
     ⟨(some 10), none, .mv, [.tmp 4]⟩,
     ⟨(some 11), none, .faddr 5, [.tmp 1]⟩,
     ⟨(some 12), none, .iaA 11 1, [.tmp 11, .tmp 10]⟩,
     ⟨(some 13), none, .load 1 false, [.tmp 12]⟩,
     ⟨(some 14), none, .bin .add, [.tmp 9, .tmp 13]⟩,
     ⟨(some 3), none, .mv, [.tmp 14]⟩] false))
   (.rg [
     ⟨(some 7), none, .mv, [.tmp 4]⟩,
     ⟨(some 8), none, .bin .add, [.tmp 7, .c (.t (.int .i64 1))]⟩,
     ⟨(some 4), none, .mv, [.tmp 8]⟩] false))))))
  (.sq (.rg [
    ⟨(some 15), none, .mv, [.tmp 3]⟩,
    ⟨(some 2), none, .mv, [.tmp 15]⟩] false)
  (.rt))))
theorem k_17 : ecF Try.prog 17 = some (16, c_tallystoneref52_Sum_17, [.tm 2]) := by kernel_rfl

/-- tallystone/tallystoneref10.Valid -/
def c_tallystoneref10_Valid_18 : EC :=
  .sq (.rg [
    ⟨(some 1), none, .box, [.tmp 0]⟩,
    ⟨(some 2), none, .mv, [.c (.t (.bool false))]⟩] false)
  (.sq (.sq (.rg [
    ⟨(some 6), none, .load 21 true, [.tmp 1]⟩,
    ⟨(some 7), none, .call 42, [.tmp 6]⟩,
    ⟨(some 8), none, .un .not, [.tmp 7]⟩,
    ⟨(some 9), none, .mv, [.tmp 8]⟩,
    ⟨(some 10), some (9, false), .faddr 20, [.tmp 1]⟩,
    ⟨(some 11), some (9, false), .load 1 false, [.tmp 10]⟩,
    ⟨(some 12), some (9, false), .lenL, [.tmp 11]⟩,
    ⟨(some 13), some (9, false), .bin .lss, [.tmp 12, .c (.t (.int .i64 1))]⟩,
    ⟨(some 14), none, .pick, [.tmp 9, .c (.t (.bool true)), .tmp 13]⟩,
    ⟨(some 15), none, .mv, [.tmp 14]⟩,
    ⟨(some 16), some (15, false), .faddr 20, [.tmp 1]⟩,
    ⟨(some 17), some (15, false), .load 1 false, [.tmp 16]⟩,
    ⟨(some 18), some (15, false), .lenL, [.tmp 17]⟩,
    ⟨(some 19), some (15, false), .bin .gtr, [.tmp 18, .c (.t (.int .i64 12))]⟩,
    ⟨(some 20), none, .pick, [.tmp 15, .c (.t (.bool true)), .tmp 19]⟩,
    ⟨(some 21), none, .mv, [.tmp 20]⟩,
    ⟨(some 22), some (21, false), .faddr 20, [.tmp 1]⟩,
    ⟨(some 23), some (21, false), .load 1 false, [.tmp 22]⟩,
    ⟨(some 24), some (21, false), .iaS 5, [.tmp 23, .c (.t (.int .i64 0))]⟩,
    ⟨(some 25), some (21, false), .faddr 4, [.tmp 24]⟩,
    ⟨(some 26), some (21, false), .load 1 false, [.tmp 25]⟩,
    ⟨(some 27), none, .pick, [.tmp 21, .c (.t (.bool true)), .tmp 26]⟩] false)
  (.cd (.tmp 27)
   (.sq (.rg [
     ⟨(some 2), none, .mv, [.c (.t (.bool false))]⟩] false)
   (.rt))
   (.skip)))
  (.sq (.sq (.rg [
    ⟨(some 3), none, .mv, [.c (.t (.int .i64 0))]⟩] false)
  (.bk 0 (.lp (.sq (.sq (.rg [
     ⟨(some 28), none, .mv, [.tmp 3]⟩,
     ⟨(some 29), none, .faddr 20, [.tmp 1]⟩,
     ⟨(some 30), none, .load 1 false, [.tmp 29]⟩,
     ⟨(some 31), none, .lenL, [.tmp 30]⟩,
     ⟨(some 32), none, .bin .lss, [.tmp 28, .tmp 31]⟩] false)
   (.cd (.tmp 32)
    (.skip)
    (.ex 0)))
   (.sq (.bk 1 (.sq (.rg [
     ⟨(some 36), none, .load 21 true, [.tmp 1]⟩,
     ⟨(some 37), none, .faddr 20, [.tmp 1]⟩,
     ⟨(some 38), none, .load 1 false, [.tmp 37]⟩,
     ⟨(some 39), none, .mv, [.tmp 3]⟩,
     ⟨(some 40), none, .iaS 5, [.tmp 38, .tmp 39]⟩,
     ⟨(some 41), none, .faddr 0, [.tmp 40]⟩,
     ⟨(some 42), none, .load 1 false, [.tmp 41]⟩,
     ⟨(some 43), none, .call 43, [.tmp 36, .tmp 42]⟩,
     ⟨(some 35), none, .mv, [.tmp 43]⟩,
     ⟨(some 44), none, .ext 0, [.tmp 35]⟩,
     ⟨(some 45), none, .ext 1, [.tmp 35]⟩,
     ⟨(some 4), none, .mv, [.tmp 44]⟩,
     ⟨(some 5), none, .mv, [.tmp 45]⟩] true)
   (.sq (.rg [
     ⟨(some 46), none, .mv, [.tmp 4]⟩,
     ⟨(some 47), none, .mv, [.tmp 3]⟩,
     ⟨(some 48), none, .bin .neq, [.tmp 46, .tmp 47]⟩,
     ⟨(some 49), none, .mv, [.tmp 48]⟩,
     ⟨(some 50), some (49, false), .load 21 true, [.tmp 1]⟩,
     ⟨(some 51), some (49, false), .faddr 20, [.tmp 1]⟩,
     ⟨(some 52), some (49, false), .load 1 false, [.tmp 51]⟩,
     ⟨(some 53), some (49, false), .mv, [.tmp 3]⟩,
     ⟨(some 54), some (49, false), .iaS 5, [.tmp 52, .tmp 53]⟩,
     ⟨(some 55), some (49, false), .load 5 true, [.tmp 54]⟩,
     ⟨(some 56), some (49, false), .call 44, [.tmp 50, .tmp 55]⟩,
     ⟨(some 57), some (49, false), .un .not, [.tmp 56]⟩,
     ⟨(some 58), none, .pick, [.tmp 49, .c (.t (.bool true)), .tmp 57]⟩] true)
   (.cd (.tmp 58)
    (.sq (.rg [
      ⟨(some 2), none, .mv, [.c (.t (.bool false))]⟩] false)
    (.rt))
    (.skip)))))
   (.rg [
     ⟨(some 33), none, .mv, [.tmp 3]⟩,
     ⟨(some 34), none, .bin .add, [.tmp 33, .c (.t (.int .i64 1))]⟩,
     ⟨(some 3), none, .mv, [.tmp 34]⟩] false))))))
  (.sq (.rg [
    ⟨(some 2), none, .mv, [.c (.t (.bool true))]⟩] false)
  (.rt))))
theorem k_18 : ecF Try.prog 18 = some (59, c_tallystoneref10_Valid_18, [.tm 2]) := by kernel_rfl

/-- tallystone/tallystoneref07.First -/
def c_tallystoneref07_First_19 : EC :=
  .sq (.rg [
    ⟨(some 2), none, .box, [.tmp 0]⟩,
    ⟨(some 4), none, .mv, [.c (.t (.int .i64 0))]⟩,
    ⟨(some 5), none, .mv, [.c (.t (.int .i64 0))]⟩] false)
  (.sq (.sq (.rg [
    ⟨(some 7), none, .load 3 true, [.tmp 2]⟩,
    ⟨(some 8), none, .mv, [.tmp 1]⟩,
    ⟨(some 9), none, .call 45, [.tmp 7, .tmp 8]⟩,
    ⟨(some 6), none, .mv, [.tmp 9]⟩] false)
  (.sq (.rg [
    ⟨(some 10), none, .mv, [.tmp 6]⟩,
    ⟨(some 11), none, .bin .neq, [.tmp 10, .c (.t (.int .i64 0))]⟩] false)
  (.cd (.tmp 11)
   (.sq (.rg [
     ⟨(some 12), none, .mv, [.tmp 6]⟩,
     ⟨(some 4), none, .mv, [.c (.t (.int .i64 0))]⟩,
     ⟨(some 5), none, .mv, [.tmp 12]⟩] false)
   (.rt))
   (.skip))))
  (.sq (.rg [
    ⟨(some 13), none, .load 3 true, [.tmp 2]⟩,
    ⟨(some 14), none, .mv, [.tmp 1]⟩,
    ⟨(some 15), none, .call 46, [.tmp 13, .tmp 14]⟩,
    ⟨(some 16), none, .ext 0, [.tmp 15]⟩,
    ⟨(some 17), none, .ext 1, [.tmp 15]⟩,
    ⟨(some 4), none, .mv, [.tmp 16]⟩,
    ⟨(some 5), none, .mv, [.tmp 17]⟩] false)
  (.rt)))
theorem k_19 : ecF Try.prog 19 = some (18, c_tallystoneref07_First_19, [.tm 4, .tm 5]) := by kernel_rfl

/-- tallystone/tallystoneref07.Last -/
def c_tallystoneref07_Last_20 : EC :=
  .sq (.rg [
    ⟨(some 2), none, .box, [.tmp 0]⟩,
    ⟨(some 4), none, .mv, [.c (.t (.int .i64 0))]⟩,
    ⟨(some 5), none, .mv, [.c (.t (.int .i64 0))]⟩] false)
  (.sq (.rg [
    ⟨(some 13), none, .load 3 true, [.tmp 2]⟩,
    ⟨(some 14), none, .mv, [.tmp 1]⟩,
    ⟨(some 15), none, .call 19, [.tmp 13, .tmp 14]⟩,
    ⟨(some 12), none, .mv, [.tmp 15]⟩,
    ⟨(some 16), none, .ext 0, [.tmp 12]⟩,
    ⟨(some 17), none, .ext 1, [.tmp 12]⟩,
    ⟨(some 6), none, .mv, [.tmp 16]⟩,
    ⟨(some 7), none, .mv, [.tmp 17]⟩] false)
  (.sq (.sq (.rg [
    ⟨(some 18), none, .mv, [.tmp 7]⟩,
    ⟨(some 19), none, .bin .neq, [.tmp 18, .c (.t (.int .i64 0))]⟩] false)
  (.cd (.tmp 19)
   (.sq (.rg [
     ⟨(some 20), none, .mv, [.tmp 7]⟩,
     ⟨(some 4), none, .mv, [.c (.t (.int .i64 0))]⟩,
     ⟨(some 5), none, .mv, [.tmp 20]⟩] false)
   (.rt))
   (.skip)))
  (.sq (.rg [
    ⟨(some 22), none, .mv, [.tmp 6]⟩,
    ⟨(some 23), none, .call 47, [.tmp 22]⟩,
    ⟨(some 21), none, .mv, [.tmp 23]⟩,
    ⟨(some 24), none, .ext 0, [.tmp 21]⟩,
    ⟨(some 25), none, .ext 1, [.tmp 21]⟩,
    ⟨(some 26), none, .ext 2, [.tmp 21]⟩,
    ⟨(some 27), none, .ext 3, [.tmp 21]⟩,
    ⟨(some 8), none, .mv, [.tmp 24]⟩,
    ⟨(some 9), none, .mv, [.tmp 25]⟩,
    ⟨(some 10), none, .mv, [.tmp 26]⟩,
    ⟨(some 11), none, .mv, [.tmp 27]⟩] false)
  (.sq (.rg [
    ⟨(some 28), none, .mv, [.tmp 6]⟩,
    ⟨(some 29), none, .mv, [.tmp 8]⟩,
    ⟨(some 30), none, .mv, [.tmp 9]⟩,
    ⟨(some 31), none, .call 48, [.tmp 29, .tmp 30]⟩,
    ⟨(some 32), none, .bin .add, [.tmp 28, .tmp 31]⟩,
    ⟨(some 33), none, .bin .sub, [.tmp 32, .c (.t (.int .i64 1))]⟩,
    ⟨(some 4), none, .mv, [.tmp 33]⟩,
    ⟨(some 5), none, .mv, [.c (.t (.int .i64 0))]⟩] false)
  (.rt)))))
theorem k_20 : ecF Try.prog 20 = some (34, c_tallystoneref07_Last_20, [.tm 4, .tm 5]) := by kernel_rfl

/-- tallystone/note.All -/
def c_note_All_21 : EC :=
  .sq (.rg [
    ⟨(some 3), none, .box, [.tmp 0]⟩,
    ⟨(some 4), none, .box, [.tmp 1]⟩,
    ⟨(some 5), none, .box, [.tmp 2]⟩,
    ⟨(some 6), none, .mv, [.c (.snil)]⟩,
    ⟨(some 7), none, .mv, [.c (.t (.int .i64 0))]⟩] false)
  (.sq (.sq (.rg [
    ⟨(some 17), none, .load 21 true, [.tmp 3]⟩,
    ⟨(some 18), none, .faddr 0, [.tmp 5]⟩,
    ⟨(some 19), none, .load 1 false, [.tmp 18]⟩,
    ⟨(some 20), none, .call 31, [.tmp 17, .tmp 19]⟩,
    ⟨(some 16), none, .mv, [.tmp 20]⟩,
    ⟨(some 21), none, .ext 0, [.tmp 16]⟩,
    ⟨(some 22), none, .ext 1, [.tmp 16]⟩,
    ⟨(some 23), none, .ext 2, [.tmp 16]⟩,
    ⟨(some 8), none, .mv, [.tmp 21]⟩,
    ⟨(some 9), none, .mv, [.tmp 22]⟩,
    ⟨(some 10), none, .mv, [.tmp 23]⟩] false)
  (.sq (.rg [
    ⟨(some 24), none, .mv, [.tmp 10]⟩,
    ⟨(some 25), none, .bin .neq, [.tmp 24, .c (.t (.int .i64 0))]⟩] false)
  (.cd (.tmp 25)
   (.sq (.rg [
     ⟨(some 26), none, .mv, [.tmp 10]⟩,
     ⟨(some 6), none, .mv, [.c (.snil)]⟩,
     ⟨(some 7), none, .mv, [.tmp 26]⟩] false)
   (.rt))
   (.skip))))
  (.sq (.rg [
    ⟨(some 11), none, .mv, [.c (.snil)]⟩] false)
  (.sq (.sq (.rg [
    ⟨(some 27), none, .faddr 4, [.tmp 3]⟩,
    ⟨(some 28), none, .load 1 false, [.tmp 27]⟩,
    ⟨(some 29), none, .lenL, [.tmp 28]⟩,
    ⟨(some 30), none, .mv, [.c (.t (.int .i64 0))]⟩] false)
  (.bk 0 (.lp (.sq (.rg [
     ⟨(some 31), none, .bin .lss, [.tmp 30, .tmp 29]⟩] false)
   (.sq (.cd (.tmp 31)
    (.skip)
    (.ex 0))
   (.sq (.bk 1 (.sq (.rg [
     ⟨(some 32), none, .iaS 4, [.tmp 28, .tmp 30]⟩,
     ⟨(some 33), none, .load 4 true, [.tmp 32]⟩,
     ⟨(some 13), none, .alloc [.t (.int .i64 0), .t (.int .i64 0), .t (.int .i64 0), .t (.int .i64 0)], []⟩,
     ⟨none, none, .store 4, [.tmp 13, .tmp 33]⟩] false)
   (.sq (.rg [
     ⟨(some 35), none, .load 21 true, [.tmp 3]⟩,
     ⟨(some 36), none, .load 4 true, [.tmp 4]⟩,
     ⟨(some 37), none, .load 4 true, [.tmp 5]⟩,
     ⟨(some 38), none, .faddr 0, [.tmp 13]⟩,
     ⟨(some 39), none, .load 1 false, [.tmp 38]⟩,
     ⟨(some 40), none, .call 14, [.tmp 35, .tmp 36, .tmp 37, .tmp 39]⟩,
     ⟨(some 34), none, .mv, [.tmp 40]⟩,
     ⟨(some 41), none, .ext 0, [.tmp 34]⟩,
     ⟨(some 42), none, .ext 1, [.tmp 34]⟩,
     ⟨(some 14), none, .alloc [.t (.int .i64 0), .t (.int .i64 0), .t (.int .i64 0), .t (.int .i64 0), .t (.int .i64 0), .t (.int .i64 0), .t (.int .i64 0), .t (.int .i64 0), .t (.int .i64 0), .t (.int .i64 0), .t (.int .i64 0), .t (.int .i64 0), .t (.int .i64 0), .t (.int .i64 0), .t (.int .i64 0), .t (.int .i64 0)], []⟩,
     ⟨none, none, .store 16, [.tmp 14, .tmp 41]⟩,
     ⟨(some 15), none, .mv, [.tmp 42]⟩] false)
   (.sq (.sq (.rg [
     ⟨(some 43), none, .mv, [.tmp 15]⟩,
     ⟨(some 44), none, .bin .neq, [.tmp 43, .c (.t (.int .i64 0))]⟩] false)
   (.cd (.tmp 44)
    (.sq (.rg [
      ⟨(some 45), none, .mv, [.tmp 15]⟩,
      ⟨(some 6), none, .mv, [.c (.snil)]⟩,
      ⟨(some 7), none, .mv, [.tmp 45]⟩] false)
    (.rt))
    (.skip)))
   (.sq (.rg [
     ⟨(some 46), none, .load 16 true, [.tmp 14]⟩,
     ⟨(some 47), none, .call 36, [.tmp 46]⟩,
     ⟨(some 48), none, .call 35, [.tmp 47, .c (.fn (.func 49) [])]⟩] false)
   (.cd (.tmp 48)
    (.rg [
      ⟨(some 49), none, .mv, [.tmp 11]⟩,
      ⟨(some 50), none, .load 16 true, [.tmp 14]⟩,
      ⟨(some 51), none, .bsl 16, [.tmp 50]⟩,
      ⟨(some 52), none, .app 44 16 128, [.tmp 49, .tmp 51]⟩,
      ⟨(some 11), none, .mv, [.tmp 52]⟩] false)
    (.skip)))))))
   (.rg [
     ⟨(some 53), none, .bin .add, [.tmp 30, .c (.t (.int .i64 1))]⟩,
     ⟨(some 30), none, .mv, [.tmp 53]⟩] false)))))))
  (.sq (.rg [
    ⟨(some 54), none, .mv, [.tmp 11]⟩,
    ⟨(some 6), none, .mv, [.tmp 54]⟩,
    ⟨(some 7), none, .mv, [.c (.t (.int .i64 0))]⟩] false)
  (.rt)))))
theorem k_21 : ecF Try.prog 21 = some (55, c_note_All_21, [.tm 6, .tm 7]) := by kernel_rfl

/-- tallystone/tallystoneref52.Same -/
def c_tallystoneref52_Same_23 : EC :=
  .sq (.rg [
    ⟨(some 4), none, .mv, [.c (.t (.bool false))]⟩] false)
  (.sq (.sq (.rg [
    ⟨(some 6), none, .mv, [.tmp 0]⟩,
    ⟨(some 7), none, .lenL, [.tmp 6]⟩,
    ⟨(some 8), none, .mv, [.tmp 1]⟩,
    ⟨(some 9), none, .lenL, [.tmp 8]⟩,
    ⟨(some 10), none, .bin .neq, [.tmp 7, .tmp 9]⟩] false)
  (.cd (.tmp 10)
   (.sq (.rg [
     ⟨(some 4), none, .mv, [.c (.t (.bool false))]⟩] false)
   (.rt))
   (.skip)))
  (.sq (.sq (.rg [
    ⟨(some 5), none, .mv, [.c (.t (.int .i64 0))]⟩] false)
  (.bk 0 (.lp (.sq (.sq (.rg [
     ⟨(some 11), none, .mv, [.tmp 5]⟩,
     ⟨(some 12), none, .mv, [.tmp 0]⟩,
     ⟨(some 13), none, .lenL, [.tmp 12]⟩,
     ⟨(some 14), none, .bin .lss, [.tmp 11, .tmp 13]⟩] false)
   (.cd (.tmp 14)
    (.skip)
    (.ex 0)))
   (.sq (.bk 1 (.sq (.rg [
     ⟨(some 17), none, .mv, [.tmp 0]⟩,
     ⟨(some 18), none, .mv, [.tmp 5]⟩,
     ⟨(some 19), none, .iaS 16, [.tmp 17, .tmp 18]⟩,
     ⟨(some 20), none, .load 16 true, [.tmp 19]⟩,
     ⟨(some 21), none, .mv, [.tmp 1]⟩,
     ⟨(some 22), none, .mv, [.tmp 5]⟩,
     ⟨(some 23), none, .iaS 16, [.tmp 21, .tmp 22]⟩,
     ⟨(some 24), none, .load 16 true, [.tmp 23]⟩,
     ⟨(some 25), none, .eqv true true [1, 1, 1, 1, 1, 1, 1, 1, 1, 1, 1, 1, 1, 1, 1, 1], [.tmp 20, .tmp 24]⟩] true)
   (.cd (.tmp 25)
    (.sq (.rg [
      ⟨(some 4), none, .mv, [.c (.t (.bool false))]⟩] false)
    (.rt))
    (.skip))))
   (.rg [
     ⟨(some 15), none, .mv, [.tmp 5]⟩,
     ⟨(some 16), none, .bin .add, [.tmp 15, .c (.t (.int .i64 1))]⟩,
     ⟨(some 5), none, .mv, [.tmp 16]⟩] false))))))
  (.sq (.rg [
    ⟨(some 4), none, .mv, [.c (.t (.bool true))]⟩] false)
  (.rt))))
theorem k_23 : ecF Try.prog 23 = some (26, c_tallystoneref52_Same_23, [.tm 4]) := by kernel_rfl

/-- tallystone/tallystonelaw52.from -/
def c_tallystonelaw52_from_24 : EC :=
  .sq (.rg [
    ⟨(some 2), none, .mv, [.c (.snil)]⟩] false)
  (.sq (.rg [
    ⟨(some 3), none, .mv, [.c (.snil)]⟩] false)
  (.sq (.sq (.rg [
    ⟨(some 6), none, .mv, [.tmp 0]⟩,
    ⟨(some 7), none, .lenL, [.tmp 6]⟩,
    ⟨(some 8), none, .mv, [.c (.t (.int .i64 0))]⟩] false)
  (.bk 0 (.lp (.sq (.rg [
     ⟨(some 9), none, .bin .lss, [.tmp 8, .tmp 7]⟩] false)
   (.sq (.cd (.tmp 9)
    (.skip)
    (.ex 0))
   (.sq (.bk 1 (.sq (.rg [
     ⟨(some 10), none, .iaS 16, [.tmp 6, .tmp 8]⟩,
     ⟨(some 11), none, .load 16 true, [.tmp 10]⟩,
     ⟨(some 5), none, .alloc [.t (.int .i64 0), .t (.int .i64 0), .t (.int .i64 0), .t (.int .i64 0), .t (.int .i64 0), .t (.int .i64 0), .t (.int .i64 0), .t (.int .i64 0), .t (.int .i64 0), .t (.int .i64 0), .t (.int .i64 0), .t (.int .i64 0), .t (.int .i64 0), .t (.int .i64 0), .t (.int .i64 0), .t (.int .i64 0)], []⟩,
     ⟨none, none, .store 16, [.tmp 5, .tmp 11]⟩] false)
   (.rg [
     ⟨(some 12), none, .mv, [.tmp 3]⟩,
     ⟨(some 13), none, .load 16 true, [.tmp 5]⟩,
     ⟨(some 14), none, .bsl 16, [.tmp 13]⟩,
     ⟨(some 15), none, .app 47 16 128, [.tmp 12, .tmp 14]⟩,
     ⟨(some 3), none, .mv, [.tmp 15]⟩] false)))
   (.rg [
     ⟨(some 16), none, .bin .add, [.tmp 8, .c (.t (.int .i64 1))]⟩,
     ⟨(some 8), none, .mv, [.tmp 16]⟩] false)))))))
  (.sq (.rg [
    ⟨(some 17), none, .mv, [.tmp 3]⟩,
    ⟨(some 2), none, .mv, [.tmp 17]⟩] false)
  (.rt))))
theorem k_24 : ecF Try.prog 24 = some (18, c_tallystonelaw52_from_24, [.tm 2]) := by kernel_rfl

/-- tallystone/tallystoneref36.Parts -/
def c_tallystoneref36_Parts_25 : EC :=
  .sq (.rg [
    ⟨(some 4), none, .mv, [.c (.snil)]⟩] false)
  (.sq (.rg [
    ⟨(some 5), none, .mv, [.c (.snil)]⟩] false)
  (.sq (.sq (.rg [
    ⟨(some 6), none, .mv, [.c (.t (.int .i64 0))]⟩] false)
  (.bk 0 (.lp (.sq (.sq (.rg [
     ⟨(some 8), none, .mv, [.tmp 6]⟩,
     ⟨(some 9), none, .mv, [.tmp 0]⟩,
     ⟨(some 10), none, .lenL, [.tmp 9]⟩,
     ⟨(some 11), none, .bin .lss, [.tmp 8, .tmp 10]⟩] false)
   (.cd (.tmp 11)
    (.skip)
    (.ex 0)))
   (.sq (.bk 1 (.rg [
     ⟨(some 14), none, .mv, [.tmp 5]⟩,
     ⟨(some 15), none, .mv, [.tmp 0]⟩,
     ⟨(some 16), none, .mv, [.tmp 6]⟩,
     ⟨(some 17), none, .iaS 7, [.tmp 15, .tmp 16]⟩,
     ⟨(some 18), none, .faddr 3, [.tmp 17]⟩,
     ⟨(some 19), none, .load 1 false, [.tmp 18]⟩,
     ⟨(some 20), none, .mv, [.tmp 0]⟩,
     ⟨(some 21), none, .mv, [.tmp 6]⟩,
     ⟨(some 22), none, .iaS 7, [.tmp 20, .tmp 21]⟩,
     ⟨(some 23), none, .faddr 6, [.tmp 22]⟩,
     ⟨(some 24), none, .load 1 false, [.tmp 23]⟩,
     ⟨(some 25), none, .build [.t (.int .i64 0), .t (.int .i64 0)] [(0, 1), (1, 1)], [.tmp 19, .tmp 24]⟩,
     ⟨(some 26), none, .bsl 2, [.tmp 25]⟩,
     ⟨(some 27), none, .app 76 2 16, [.tmp 14, .tmp 26]⟩,
     ⟨(some 5), none, .mv, [.tmp 27]⟩] true))
   (.rg [
     ⟨(some 12), none, .mv, [.tmp 6]⟩,
     ⟨(some 13), none, .bin .add, [.tmp 12, .c (.t (.int .i64 1))]⟩,
     ⟨(some 6), none, .mv, [.tmp 13]⟩] false))))))
  (.sq (.sq (.rg [
    ⟨(some 7), none, .mv, [.c (.t (.int .i64 0))]⟩] false)
  (.bk 2 (.lp (.sq (.sq (.rg [
     ⟨(some 28), none, .mv, [.tmp 7]⟩,
     ⟨(some 29), none, .mv, [.tmp 1]⟩,
     ⟨(some 30), none, .lenL, [.tmp 29]⟩,
     ⟨(some 31), none, .bin .lss, [.tmp 28, .tmp 30]⟩] false)
   (.cd (.tmp 31)
    (.skip)
    (.ex 2)))
   (.sq (.bk 3 (.rg [
     ⟨(some 34), none, .mv, [.tmp 5]⟩,
     ⟨(some 35), none, .mv, [.tmp 1]⟩,
     ⟨(some 36), none, .mv, [.tmp 7]⟩,
     ⟨(some 37), none, .iaS 5, [.tmp 35, .tmp 36]⟩,
     ⟨(some 38), none, .faddr 4, [.tmp 37]⟩,
     ⟨(some 39), none, .load 1 false, [.tmp 38]⟩,
     ⟨(some 40), none, .app 76 2 16, [.tmp 34, .tmp 39]⟩,
     ⟨(some 5), none, .mv, [.tmp 40]⟩] false))
   (.rg [
     ⟨(some 32), none, .mv, [.tmp 7]⟩,
     ⟨(some 33), none, .bin .add, [.tmp 32, .c (.t (.int .i64 1))]⟩,
     ⟨(some 7), none, .mv, [.tmp 33]⟩] false))))))
  (.sq (.rg [
    ⟨(some 41), none, .mv, [.tmp 5]⟩,
    ⟨(some 4), none, .mv, [.tmp 41]⟩] false)
  (.rt)))))
theorem k_25 : ecF Try.prog 25 = some (42, c_tallystoneref36_Parts_25, [.tm 4]) := by kernel_rfl

/-- tallystone/tallystoneref10.Account -/
def c_tallystoneref10_Account_26 : EC :=
  .sq (.rg [
    ⟨(some 2), none, .box, [.tmp 0]⟩,
    ⟨(some 4), none, .alloc [.t (.int .i64 0), .t (.int .i64 0), .t (.int .i64 0), .t (.int .i64 0)], []⟩,
    ⟨(some 5), none, .mv, [.c (.t (.bool false))]⟩] false)
  (.sq (.rg [
    ⟨(some 6), none, .faddr 4, [.tmp 2]⟩,
    ⟨(some 7), none, .load 1 false, [.tmp 6]⟩,
    ⟨(some 8), none, .mv, [.tmp 1]⟩,
    ⟨(some 9), none, .call 50, [.tmp 7, .tmp 8]⟩,
    ⟨(some 10), none, .ext 0, [.tmp 9]⟩,
    ⟨(some 11), none, .ext 1, [.tmp 9]⟩,
    ⟨none, none, .store 4, [.tmp 4, .tmp 10]⟩,
    ⟨(some 5), none, .mv, [.tmp 11]⟩] false)
  (.rt))
theorem k_26 : ecF Try.prog 26 = some (12, c_tallystoneref10_Account_26, [.ce 4 4 true, .tm 5]) := by kernel_rfl

/-- tallystone/tallystonelaw52.NoteOrder$1 -/
def c_tallystonelaw52_NoteOrderS1_27 : EC :=
  .sq (.rg [
    ⟨(some 1), none, .box, [.tmp 0]⟩,
    ⟨(some 2), none, .alloc [.t (.int .i64 0), .snil, .snil, .snil], []⟩] false)
  (.sq (.rg [
    ⟨(some 6), none, .faddr 0, [.tmp 1]⟩,
    ⟨(some 7), none, .load 1 false, [.tmp 6]⟩,
    ⟨(some 8), none, .build [.t (.int .i64 0), .snil, .snil, .snil] [(0, 1)], [.tmp 7]⟩,
    ⟨(some 3), none, .alloc [.t (.int .i64 0), .snil, .snil, .snil], []⟩,
    ⟨none, none, .store 4, [.tmp 3, .tmp 8]⟩] false)
  (.sq (.sq (.rg [
    ⟨(some 9), none, .faddr 1, [.tmp 1]⟩,
    ⟨(some 10), none, .load 1 false, [.tmp 9]⟩,
    ⟨(some 11), none, .lenL, [.tmp 10]⟩,
    ⟨(some 12), none, .mv, [.c (.t (.int .i64 0))]⟩] false)
  (.bk 0 (.lp (.sq (.rg [
     ⟨(some 13), none, .bin .lss, [.tmp 12, .tmp 11]⟩] false)
   (.sq (.cd (.tmp 13)
    (.skip)
    (.ex 0))
   (.sq (.bk 1 (.sq (.rg [
     ⟨(some 14), none, .mv, [.tmp 12]⟩,
     ⟨(some 4), none, .mv, [.tmp 14]⟩] false)
   (.rg [
     ⟨(some 15), none, .faddr 1, [.tmp 3]⟩,
     ⟨(some 16), none, .load 1 false, [.tmp 15]⟩,
     ⟨(some 17), none, .faddr 1, [.tmp 1]⟩,
     ⟨(some 18), none, .load 1 false, [.tmp 17]⟩,
     ⟨(some 19), none, .faddr 1, [.tmp 1]⟩,
     ⟨(some 20), none, .load 1 false, [.tmp 19]⟩,
     ⟨(some 21), none, .lenL, [.tmp 20]⟩,
     ⟨(some 22), none, .bin .sub, [.tmp 21, .c (.t (.int .i64 1))]⟩,
     ⟨(some 23), none, .mv, [.tmp 4]⟩,
     ⟨(some 24), none, .bin .sub, [.tmp 22, .tmp 23]⟩,
     ⟨(some 25), none, .iaS 7, [.tmp 18, .tmp 24]⟩,
     ⟨(some 26), none, .load 7 true, [.tmp 25]⟩,
     ⟨(some 27), none, .bsl 7, [.tmp 26]⟩,
     ⟨(some 28), none, .app 62 7 56, [.tmp 16, .tmp 27]⟩,
     ⟨(some 29), none, .faddr 1, [.tmp 3]⟩,
     ⟨none, none, .store 1, [.tmp 29, .tmp 28]⟩] true)))
   (.rg [
     ⟨(some 30), none, .bin .add, [.tmp 12, .c (.t (.int .i64 1))]⟩,
     ⟨(some 12), none, .mv, [.tmp 30]⟩] false)))))))
  (.sq (.sq (.rg [
    ⟨(some 31), none, .faddr 2, [.tmp 1]⟩,
    ⟨(some 32), none, .load 1 false, [.tmp 31]⟩,
    ⟨(some 33), none, .lenL, [.tmp 32]⟩,
    ⟨(some 34), none, .mv, [.c (.t (.int .i64 0))]⟩] false)
  (.bk 2 (.lp (.sq (.rg [
     ⟨(some 35), none, .bin .lss, [.tmp 34, .tmp 33]⟩] false)
   (.sq (.cd (.tmp 35)
    (.skip)
    (.ex 2))
   (.sq (.bk 3 (.sq (.rg [
     ⟨(some 36), none, .mv, [.tmp 34]⟩,
     ⟨(some 5), none, .mv, [.tmp 36]⟩] false)
   (.rg [
     ⟨(some 37), none, .faddr 2, [.tmp 3]⟩,
     ⟨(some 38), none, .load 1 false, [.tmp 37]⟩,
     ⟨(some 39), none, .faddr 2, [.tmp 1]⟩,
     ⟨(some 40), none, .load 1 false, [.tmp 39]⟩,
     ⟨(some 41), none, .faddr 2, [.tmp 1]⟩,
     ⟨(some 42), none, .load 1 false, [.tmp 41]⟩,
     ⟨(some 43), none, .lenL, [.tmp 42]⟩,
     ⟨(some 44), none, .bin .sub, [.tmp 43, .c (.t (.int .i64 1))]⟩,
     ⟨(some 45), none, .mv, [.tmp 5]⟩,
     ⟨(some 46), none, .bin .sub, [.tmp 44, .tmp 45]⟩,
     ⟨(some 47), none, .iaS 5, [.tmp 40, .tmp 46]⟩,
     ⟨(some 48), none, .load 5 true, [.tmp 47]⟩,
     ⟨(some 49), none, .bsl 5, [.tmp 48]⟩,
     ⟨(some 50), none, .app 55 5 56, [.tmp 38, .tmp 49]⟩,
     ⟨(some 51), none, .faddr 2, [.tmp 3]⟩,
     ⟨none, none, .store 1, [.tmp 51, .tmp 50]⟩] true)))
   (.rg [
     ⟨(some 52), none, .bin .add, [.tmp 34, .c (.t (.int .i64 1))]⟩,
     ⟨(some 34), none, .mv, [.tmp 52]⟩] false)))))))
  (.sq (.rg [
    ⟨(some 53), none, .load 4 true, [.tmp 3]⟩,
    ⟨none, none, .store 4, [.tmp 2, .tmp 53]⟩] false)
  (.rt)))))
theorem k_27 : ecF Try.prog 27 = some (54, c_tallystonelaw52_NoteOrderS1_27, [.ce 2 4 true]) := by kernel_rfl

/-- tallystone/group.Sample -/
def c_group_Sample_28 : EC :=
  .sq (.rg [
    ⟨(some 0), none, .alloc [.t (.str []), .t (.int .i64 0), .t (.int .i64 0), .t (.int .i64 0), .snil, .t (.int .i64 0), .t (.int .i64 0), .t (.int .i64 0), .t (.int .i64 0), .t (.int .i64 0), .t (.int .i64 0), .t (.int .i64 0), .t (.int .i64 0), .t (.int .i64 0), .t (.int .i64 0), .t (.int .i64 0), .t (.int .i64 0), .t (.int .i64 0), .t (.int .i64 0), .t (.int .i64 0), .snil], []⟩] false)
  (.sq (.rg [
    ⟨(some 1), none, .build [.t (.int .i64 0), .t (.int .i64 0), .t (.int .i64 0)] [(0, 1), (1, 1), (2, 1)], [.c (.t (.int .i64 2026)), .c (.t (.int .i64 1)), .c (.t (.int .i64 36))]⟩,
    ⟨(some 2), none, .call 51, []⟩,
    ⟨(some 3), none, .build [.t (.int .i64 0), .t (.int .i64 0), .t (.int .i64 0), .t (.int .i64 0), .t (.int .i64 0), .t (.int .i64 0), .t (.int .i64 0), .t (.int .i64 0), .t (.int .i64 0), .t (.int .i64 0), .t (.int .i64 0), .t (.int .i64 0), .t (.int .i64 0), .t (.int .i64 0), .t (.int .i64 0)] [(0, 1), (1, 1), (2, 1), (3, 1), (4, 1), (5, 1), (6, 1), (7, 1), (8, 1), (9, 1), (10, 1), (11, 1), (12, 1), (13, 1), (14, 1)], [.c (.t (.int .i64 1500)), .c (.t (.int .i64 1600)), .c (.t (.int .i64 1700)), .c (.t (.int .i64 1200)), .c (.t (.int .i64 3100)), .c (.t (.int .i64 3200)), .c (.t (.int .i64 3300)), .c (.t (.int .i64 3400)), .c (.t (.int .i64 3500)), .c (.t (.int .i64 4500)), .c (.t (.int .i64 4600)), .c (.t (.int .i64 4700)), .c (.t (.int .i64 5500)), .c (.t (.int .i64 5600)), .c (.t (.int .i64 5700))]⟩,
    ⟨(some 4), none, .call 52, [.c (.t (.str [112, 97, 114, 101, 110, 116])), .c (.t (.str [69, 85, 82])), .c (.t (.bool false))]⟩,
    ⟨(some 5), none, .call 52, [.c (.t (.str [110, 111, 114, 116, 104])), .c (.t (.str [69, 85, 82])), .c (.t (.bool false))]⟩,
    ⟨(some 6), none, .call 52, [.c (.t (.str [119, 101, 115, 116])), .c (.t (.str [85, 83, 68])), .c (.t (.bool false))]⟩,
    ⟨(some 7), none, .call 52, [.c (.t (.str [106, 111, 105, 110, 116])), .c (.t (.str [85, 83, 68])), .c (.t (.bool true))]⟩,
    ⟨(some 8), none, .bsl 5, [.tmp 4, .tmp 5, .tmp 6, .tmp 7]⟩,
    ⟨(some 9), none, .build [.t (.str []), .t (.int .i64 0), .t (.int .i64 0), .t (.int .i64 0), .snil, .t (.int .i64 0), .t (.int .i64 0), .t (.int .i64 0), .t (.int .i64 0), .t (.int .i64 0), .t (.int .i64 0), .t (.int .i64 0), .t (.int .i64 0), .t (.int .i64 0), .t (.int .i64 0), .t (.int .i64 0), .t (.int .i64 0), .t (.int .i64 0), .t (.int .i64 0), .t (.int .i64 0), .snil] [(0, 1), (1, 3), (4, 1), (5, 15), (20, 1)], [.c (.t (.str [69, 85, 82])), .tmp 1, .tmp 2, .tmp 3, .tmp 8]⟩,
    ⟨none, none, .store 21, [.tmp 0, .tmp 9]⟩] false)
  (.rt))
theorem k_28 : ecF Try.prog 28 = some (10, c_group_Sample_28, [.ce 0 21 true]) := by kernel_rfl

/-- tallystone/tallystoneref10.Few -/
def c_tallystoneref10_Few_29 : EC :=
  .sq (.rg [
    ⟨(some 1), none, .box, [.tmp 0]⟩,
    ⟨(some 2), none, .mv, [.c (.t (.bool false))]⟩] false)
  (.sq (.sq (.rg [
    ⟨(some 3), none, .mv, [.c (.t (.int .i64 0))]⟩] false)
  (.bk 0 (.lp (.sq (.sq (.rg [
     ⟨(some 5), none, .mv, [.tmp 3]⟩,
     ⟨(some 6), none, .faddr 20, [.tmp 1]⟩,
     ⟨(some 7), none, .load 1 false, [.tmp 6]⟩,
     ⟨(some 8), none, .lenL, [.tmp 7]⟩,
     ⟨(some 9), none, .bin .lss, [.tmp 5, .tmp 8]⟩] false)
   (.cd (.tmp 9)
    (.skip)
    (.ex 0)))
   (.sq (.bk 1 (.sq (.rg [
     ⟨(some 12), none, .faddr 20, [.tmp 1]⟩,
     ⟨(some 13), none, .load 1 false, [.tmp 12]⟩,
     ⟨(some 14), none, .mv, [.tmp 3]⟩,
     ⟨(some 15), none, .iaS 5, [.tmp 13, .tmp 14]⟩,
     ⟨(some 16), none, .load 5 true, [.tmp 15]⟩,
     ⟨(some 4), none, .alloc [.t (.str []), .t (.str []), .snil, .snil, .t (.bool false)], []⟩,
     ⟨none, none, .store 5, [.tmp 4, .tmp 16]⟩] false)
   (.sq (.rg [
     ⟨(some 17), none, .faddr 2, [.tmp 4]⟩,
     ⟨(some 18), none, .load 1 false, [.tmp 17]⟩,
     ⟨(some 19), none, .lenL, [.tmp 18]⟩,
     ⟨(some 20), none, .bin .gtr, [.tmp 19, .c (.t (.int .i64 40))]⟩,
     ⟨(some 21), none, .mv, [.tmp 20]⟩,
     ⟨(some 22), some (21, false), .faddr 3, [.tmp 4]⟩,
     ⟨(some 23), some (21, false), .load 1 false, [.tmp 22]⟩,
     ⟨(some 24), some (21, false), .lenL, [.tmp 23]⟩,
     ⟨(some 25), some (21, false), .bin .gtr, [.tmp 24, .c (.t (.int .i64 60))]⟩,
     ⟨(some 26), none, .pick, [.tmp 21, .c (.t (.bool true)), .tmp 25]⟩,
     ⟨(some 27), none, .mv, [.tmp 26]⟩,
     ⟨(some 28), some (27, false), .faddr 0, [.tmp 4]⟩,
     ⟨(some 29), some (27, false), .load 1 false, [.tmp 28]⟩,
     ⟨(some 30), some (27, false), .lenS, [.tmp 29]⟩,
     ⟨(some 31), some (27, false), .faddr 1, [.tmp 4]⟩,
     ⟨(some 32), some (27, false), .load 1 false, [.tmp 31]⟩,
     ⟨(some 33), some (27, false), .lenS, [.tmp 32]⟩,
     ⟨(some 34), some (27, false), .bin .add, [.tmp 30, .tmp 33]⟩,
     ⟨(some 35), some (27, false), .bin .gtr, [.tmp 34, .c (.t (.int .i64 60))]⟩,
     ⟨(some 36), none, .pick, [.tmp 27, .c (.t (.bool true)), .tmp 35]⟩] false)
   (.cd (.tmp 36)
    (.sq (.rg [
      ⟨(some 2), none, .mv, [.c (.t (.bool false))]⟩] false)
    (.rt))
    (.skip)))))
   (.rg [
     ⟨(some 10), none, .mv, [.tmp 3]⟩,
     ⟨(some 11), none, .bin .add, [.tmp 10, .c (.t (.int .i64 1))]⟩,
     ⟨(some 3), none, .mv, [.tmp 11]⟩] false))))))
  (.sq (.rg [
    ⟨(some 37), none, .faddr 4, [.tmp 1]⟩,
    ⟨(some 38), none, .load 1 false, [.tmp 37]⟩,
    ⟨(some 39), none, .lenL, [.tmp 38]⟩,
    ⟨(some 40), none, .bin .leq, [.tmp 39, .c (.t (.int .i64 60))]⟩,
    ⟨(some 41), none, .mv, [.tmp 40]⟩,
    ⟨(some 42), some (41, true), .faddr 20, [.tmp 1]⟩,
    ⟨(some 43), some (41, true), .load 1 false, [.tmp 42]⟩,
    ⟨(some 44), some (41, true), .lenL, [.tmp 43]⟩,
    ⟨(some 45), some (41, true), .bin .leq, [.tmp 44, .c (.t (.int .i64 14))]⟩,
    ⟨(some 46), none, .pick, [.tmp 41, .tmp 45, .c (.t (.bool false))]⟩,
    ⟨(some 47), none, .mv, [.tmp 46]⟩,
    ⟨(some 48), some (47, true), .faddr 0, [.tmp 1]⟩,
    ⟨(some 49), some (47, true), .load 1 false, [.tmp 48]⟩,
    ⟨(some 50), some (47, true), .lenS, [.tmp 49]⟩,
    ⟨(some 51), some (47, true), .bin .leq, [.tmp 50, .c (.t (.int .i64 20))]⟩,
    ⟨(some 52), none, .pick, [.tmp 47, .tmp 51, .c (.t (.bool false))]⟩,
    ⟨(some 2), none, .mv, [.tmp 52]⟩] false)
  (.rt)))
theorem k_29 : ecF Try.prog 29 = some (53, c_tallystoneref10_Few_29, [.tm 2]) := by kernel_rfl

/-- tallystone/tallystoneref52.Few -/
def c_tallystoneref52_Few_30 : EC :=
  .sq (.rg [
    ⟨(some 1), none, .box, [.tmp 0]⟩,
    ⟨(some 2), none, .mv, [.c (.t (.bool false))]⟩] false)
  (.sq (.sq (.rg [
    ⟨(some 3), none, .mv, [.c (.t (.int .i64 0))]⟩] false)
  (.bk 0 (.lp (.sq (.sq (.rg [
     ⟨(some 7), none, .mv, [.tmp 3]⟩,
     ⟨(some 8), none, .faddr 1, [.tmp 1]⟩,
     ⟨(some 9), none, .load 1 false, [.tmp 8]⟩,
     ⟨(some 10), none, .lenL, [.tmp 9]⟩,
     ⟨(some 11), none, .bin .lss, [.tmp 7, .tmp 10]⟩] false)
   (.cd (.tmp 11)
    (.skip)
    (.ex 0)))
   (.sq (.bk 1 (.sq (.rg [
     ⟨(some 14), none, .faddr 1, [.tmp 1]⟩,
     ⟨(some 15), none, .load 1 false, [.tmp 14]⟩,
     ⟨(some 16), none, .mv, [.tmp 3]⟩,
     ⟨(some 17), none, .iaS 7, [.tmp 15, .tmp 16]⟩,
     ⟨(some 18), none, .faddr 6, [.tmp 17]⟩,
     ⟨(some 19), none, .load 1 false, [.tmp 18]⟩,
     ⟨(some 20), none, .bin .gtr, [.tmp 19, .c (.t (.int .i64 1125899906842624))]⟩,
     ⟨(some 21), none, .mv, [.tmp 20]⟩,
     ⟨(some 22), some (21, false), .faddr 1, [.tmp 1]⟩,
     ⟨(some 23), some (21, false), .load 1 false, [.tmp 22]⟩,
     ⟨(some 24), some (21, false), .mv, [.tmp 3]⟩,
     ⟨(some 25), some (21, false), .iaS 7, [.tmp 23, .tmp 24]⟩,
     ⟨(some 26), some (21, false), .faddr 6, [.tmp 25]⟩,
     ⟨(some 27), some (21, false), .load 1 false, [.tmp 26]⟩,
     ⟨(some 28), some (21, false), .bin .lss, [.tmp 27, .c (.t (.int .i64 (-1125899906842624)))]⟩,
     ⟨(some 29), none, .pick, [.tmp 21, .c (.t (.bool true)), .tmp 28]⟩] false)
   (.cd (.tmp 29)
    (.sq (.rg [
      ⟨(some 2), none, .mv, [.c (.t (.bool false))]⟩] false)
    (.rt))
    (.skip))))
   (.rg [
     ⟨(some 12), none, .mv, [.tmp 3]⟩,
     ⟨(some 13), none, .bin .add, [.tmp 12, .c (.t (.int .i64 1))]⟩,
     ⟨(some 3), none, .mv, [.tmp 13]⟩] false))))))
  (.sq (.sq (.rg [
    ⟨(some 4), none, .mv, [.c (.t (.int .i64 0))]⟩] false)
  (.bk 2 (.lp (.sq (.sq (.rg [
     ⟨(some 30), none, .mv, [.tmp 4]⟩,
     ⟨(some 31), none, .faddr 2, [.tmp 1]⟩,
     ⟨(some 32), none, .load 1 false, [.tmp 31]⟩,
     ⟨(some 33), none, .lenL, [.tmp 32]⟩,
     ⟨(some 34), none, .bin .lss, [.tmp 30, .tmp 33]⟩] false)
   (.cd (.tmp 34)
    (.skip)
    (.ex 2)))
   (.sq (.bk 3 (.sq (.rg [
     ⟨(some 5), none, .mv, [.c (.t (.int .i64 0))]⟩] false)
   (.bk 4 (.lp (.sq (.sq (.rg [
      ⟨(some 37), none, .mv, [.tmp 5]⟩,
      ⟨(some 38), none, .faddr 2, [.tmp 1]⟩,
      ⟨(some 39), none, .load 1 false, [.tmp 38]⟩,
      ⟨(some 40), none, .mv, [.tmp 4]⟩,
      ⟨(some 41), none, .iaS 5, [.tmp 39, .tmp 40]⟩,
      ⟨(some 42), none, .faddr 4, [.tmp 41]⟩,
      ⟨(some 43), none, .load 1 false, [.tmp 42]⟩,
      ⟨(some 44), none, .lenL, [.tmp 43]⟩,
      ⟨(some 45), none, .bin .lss, [.tmp 37, .tmp 44]⟩] false)
    (.cd (.tmp 45)
     (.skip)
     (.ex 4)))
    (.sq (.bk 5 (.sq (.rg [
      ⟨(some 48), none, .faddr 2, [.tmp 1]⟩,
      ⟨(some 49), none, .load 1 false, [.tmp 48]⟩,
      ⟨(some 50), none, .mv, [.tmp 4]⟩,
      ⟨(some 51), none, .iaS 5, [.tmp 49, .tmp 50]⟩,
      ⟨(some 52), none, .faddr 4, [.tmp 51]⟩,
      ⟨(some 53), none, .load 1 false, [.tmp 52]⟩,
      ⟨(some 54), none, .mv, [.tmp 5]⟩,
      ⟨(some 55), none, .iaS 2, [.tmp 53, .tmp 54]⟩,
      ⟨(some 56), none, .faddr 1, [.tmp 55]⟩,
      ⟨(some 57), none, .load 1 false, [.tmp 56]⟩,
      ⟨(some 6), none, .mv, [.tmp 57]⟩] false)
    (.sq (.rg [
      ⟨(some 58), none, .mv, [.tmp 5]⟩,
      ⟨(some 59), none, .bin .geq, [.tmp 58, .c (.t (.int .i64 10))]⟩,
      ⟨(some 60), none, .mv, [.tmp 59]⟩,
      ⟨(some 61), some (60, false), .mv, [.tmp 6]⟩,
      ⟨(some 62), some (60, false), .bin .gtr, [.tmp 61, .c (.t (.int .i64 1125899906842624))]⟩,
      ⟨(some 63), none, .pick, [.tmp 60, .c (.t (.bool true)), .tmp 62]⟩,
      ⟨(some 64), none, .mv, [.tmp 63]⟩,
      ⟨(some 65), some (64, false), .mv, [.tmp 6]⟩,
      ⟨(some 66), some (64, false), .bin .lss, [.tmp 65, .c (.t (.int .i64 (-1125899906842624)))]⟩,
      ⟨(some 67), none, .pick, [.tmp 64, .c (.t (.bool true)), .tmp 66]⟩] false)
    (.cd (.tmp 67)
     (.sq (.rg [
       ⟨(some 2), none, .mv, [.c (.t (.bool false))]⟩] false)
     (.rt))
     (.skip)))))
    (.rg [
      ⟨(some 46), none, .mv, [.tmp 5]⟩,
      ⟨(some 47), none, .bin .add, [.tmp 46, .c (.t (.int .i64 1))]⟩,
      ⟨(some 5), none, .mv, [.tmp 47]⟩] false)))))))
   (.rg [
     ⟨(some 35), none, .mv, [.tmp 4]⟩,
     ⟨(some 36), none, .bin .add, [.tmp 35, .c (.t (.int .i64 1))]⟩,
     ⟨(some 4), none, .mv, [.tmp 36]⟩] false))))))
  (.sq (.rg [
    ⟨(some 68), none, .faddr 1, [.tmp 1]⟩,
    ⟨(some 69), none, .load 1 false, [.tmp 68]⟩,
    ⟨(some 70), none, .lenL, [.tmp 69]⟩,
    ⟨(some 71), none, .bin .leq, [.tmp 70, .c (.t (.int .i64 150))]⟩,
    ⟨(some 72), none, .mv, [.tmp 71]⟩,
    ⟨(some 73), some (72, true), .faddr 2, [.tmp 1]⟩,
    ⟨(some 74), some (72, true), .load 1 false, [.tmp 73]⟩,
    ⟨(some 75), some (72, true), .lenL, [.tmp 74]⟩,
    ⟨(some 76), some (72, true), .bin .leq, [.tmp 75, .c (.t (.int .i64 60))]⟩,
    ⟨(some 77), none, .pick, [.tmp 72, .tmp 76, .c (.t (.bool false))]⟩,
    ⟨(some 2), none, .mv, [.tmp 77]⟩] false)
  (.rt))))
theorem k_30 : ecF Try.prog 30 = some (78, c_tallystoneref52_Few_30, [.tm 2]) := by kernel_rfl

/-- tallystone/note.days -/
def c_note_days_31 : EC :=
  .sq (.rg [
    ⟨(some 2), none, .box, [.tmp 0]⟩,
    ⟨(some 4), none, .mv, [.c (.t (.int .i64 0))]⟩,
    ⟨(some 5), none, .mv, [.c (.t (.int .i64 0))]⟩,
    ⟨(some 6), none, .mv, [.c (.t (.int .i64 0))]⟩] false)
  (.sq (.sq (.rg [
    ⟨(some 7), none, .load 21 true, [.tmp 2]⟩,
    ⟨(some 8), none, .call 53, [.tmp 7]⟩,
    ⟨(some 9), none, .un .not, [.tmp 8]⟩] false)
  (.cd (.tmp 9)
   (.sq (.rg [
     ⟨(some 4), none, .mv, [.c (.t (.int .i64 0))]⟩,
     ⟨(some 5), none, .mv, [.c (.t (.int .i64 0))]⟩,
     ⟨(some 6), none, .mv, [.c (.t (.int .i64 1))]⟩] false)
   (.rt))
   (.skip)))
  (.sq (.sq (.rg [
    ⟨(some 11), none, .faddr 1, [.tmp 2]⟩,
    ⟨(some 12), none, .load 3 true, [.tmp 11]⟩,
    ⟨(some 13), none, .mv, [.tmp 1]⟩,
    ⟨(some 14), none, .call 54, [.tmp 12, .tmp 13]⟩,
    ⟨(some 10), none, .mv, [.tmp 14]⟩,
    ⟨(some 15), none, .ext 0, [.tmp 10]⟩,
    ⟨(some 16), none, .ext 1, [.tmp 10]⟩,
    ⟨(some 4), none, .mv, [.tmp 15]⟩,
    ⟨(some 6), none, .mv, [.tmp 16]⟩] false)
  (.sq (.rg [
    ⟨(some 17), none, .mv, [.tmp 6]⟩,
    ⟨(some 18), none, .bin .neq, [.tmp 17, .c (.t (.int .i64 0))]⟩] false)
  (.cd (.tmp 18)
   (.sq (.rg [
     ⟨(some 4), none, .mv, [.c (.t (.int .i64 0))]⟩,
     ⟨(some 5), none, .mv, [.c (.t (.int .i64 0))]⟩,
     ⟨(some 6), none, .mv, [.c (.t (.int .i64 2))]⟩] false)
   (.rt))
   (.skip))))
  (.sq (.rg [
    ⟨(some 20), none, .faddr 1, [.tmp 2]⟩,
    ⟨(some 21), none, .load 3 true, [.tmp 20]⟩,
    ⟨(some 22), none, .mv, [.tmp 1]⟩,
    ⟨(some 23), none, .call 55, [.tmp 21, .tmp 22]⟩,
    ⟨(some 19), none, .mv, [.tmp 23]⟩,
    ⟨(some 24), none, .ext 0, [.tmp 19]⟩,
    ⟨(some 25), none, .ext 1, [.tmp 19]⟩,
    ⟨(some 5), none, .mv, [.tmp 24]⟩] false)
  (.sq (.rg [
    ⟨(some 26), none, .mv, [.tmp 4]⟩,
    ⟨(some 27), none, .mv, [.tmp 5]⟩,
    ⟨(some 4), none, .mv, [.tmp 26]⟩,
    ⟨(some 5), none, .mv, [.tmp 27]⟩,
    ⟨(some 6), none, .mv, [.c (.t (.int .i64 0))]⟩] false)
  (.rt)))))
theorem k_31 : ecF Try.prog 31 = some (28, c_note_days_31, [.tm 4, .tm 5, .tm 6]) := by kernel_rfl

/-- tallystone/group.Account -/
def c_group_Account_32 : EC :=
  .sq (.rg [
    ⟨(some 2), none, .box, [.tmp 0]⟩,
    ⟨(some 3), none, .box, [.tmp 1]⟩,
    ⟨(some 4), none, .alloc [.t (.int .i64 0), .t (.int .i64 0), .t (.int .i64 0), .t (.int .i64 0)], []⟩,
    ⟨(some 5), none, .mv, [.c (.t (.bool false))]⟩] false)
  (.sq (.rg [
    ⟨(some 7), none, .faddr 4, [.tmp 2]⟩,
    ⟨(some 8), none, .load 1 false, [.tmp 7]⟩,
    ⟨(some 9), none, .mkfn (.func 57), [.tmp 3]⟩,
    ⟨(some 10), none, .call 56, [.tmp 8, .tmp 9]⟩,
    ⟨(some 6), none, .mv, [.tmp 10]⟩] false)
  (.sq (.sq (.rg [
    ⟨(some 11), none, .mv, [.tmp 6]⟩,
    ⟨(some 12), none, .bin .lss, [.tmp 11, .c (.t (.int .i64 0))]⟩] false)
  (.cd (.tmp 12)
   (.sq (.rg [
     ⟨(some 13), none, .build [.t (.int .i64 0), .t (.int .i64 0), .t (.int .i64 0), .t (.int .i64 0)] [], []⟩,
     ⟨none, none, .store 4, [.tmp 4, .tmp 13]⟩,
     ⟨(some 5), none, .mv, [.c (.t (.bool false))]⟩] false)
   (.rt))
   (.skip)))
  (.sq (.rg [
    ⟨(some 14), none, .faddr 4, [.tmp 2]⟩,
    ⟨(some 15), none, .load 1 false, [.tmp 14]⟩,
    ⟨(some 16), none, .mv, [.tmp 6]⟩,
    ⟨(some 17), none, .iaS 4, [.tmp 15, .tmp 16]⟩,
    ⟨(some 18), none, .load 4 true, [.tmp 17]⟩,
    ⟨none, none, .store 4, [.tmp 4, .tmp 18]⟩,
    ⟨(some 5), none, .mv, [.c (.t (.bool true))]⟩] false)
  (.rt))))
theorem k_32 : ecF Try.prog 32 = some (19, c_group_Account_32, [.ce 4 4 true, .tm 5]) := by kernel_rfl

/-- (tallystone/note.collector).before -/
def c_note_collector__before_33 : EC :=
  .sq (.rg [
    ⟨(some 2), none, .box, [.tmp 0]⟩,
    ⟨(some 3), none, .box, [.tmp 1]⟩] false)
  (.sq (.sq (.rg [
    ⟨(some 6), none, .faddr 1, [.tmp 3]⟩,
    ⟨(some 7), none, .load 1 false, [.tmp 6]⟩,
    ⟨(some 8), none, .lenL, [.tmp 7]⟩,
    ⟨(some 9), none, .mv, [.c (.t (.int .i64 0))]⟩] false)
  (.bk 0 (.lp (.sq (.rg [
     ⟨(some 10), none, .bin .lss, [.tmp 9, .tmp 8]⟩] false)
   (.sq (.cd (.tmp 10)
    (.skip)
    (.ex 0))
   (.sq (.bk 1 (.sq (.rg [
     ⟨(some 11), none, .iaS 7, [.tmp 7, .tmp 9]⟩,
     ⟨(some 12), none, .load 7 true, [.tmp 11]⟩,
     ⟨(some 5), none, .alloc [.t (.int .i64 0), .t (.int .i64 0), .t (.int .i64 0), .t (.int .i64 0), .t (.int .i64 0), .t (.int .i64 0), .t (.int .i64 0)], []⟩,
     ⟨none, none, .store 7, [.tmp 5, .tmp 12]⟩] false)
   (.sq (.rg [
     ⟨(some 13), none, .faddr 3, [.tmp 5]⟩,
     ⟨(some 14), none, .load 1 false, [.tmp 13]⟩,
     ⟨(some 15), none, .faddr 0, [.tmp 2]⟩,
     ⟨(some 16), none, .load 1 false, [.tmp 15]⟩,
     ⟨(some 17), none, .nilc, [.tmp 16]⟩,
     ⟨(some 18), none, .faddr 0, [.tmp 17]⟩,
     ⟨(some 19), none, .load 1 false, [.tmp 18]⟩,
     ⟨(some 20), none, .bin .eql, [.tmp 14, .tmp 19]⟩] true)
   (.cd (.tmp 20)
    (.sq (.rg [
      ⟨(some 21), none, .faddr 0, [.tmp 2]⟩,
      ⟨(some 22), none, .load 1 false, [.tmp 21]⟩,
      ⟨(some 23), none, .nilc, [.tmp 22]⟩,
      ⟨(some 24), none, .faddr 1, [.tmp 23]⟩,
      ⟨(some 25), none, .load 1 false, [.tmp 24]⟩,
      ⟨(some 26), none, .faddr 6, [.tmp 5]⟩,
      ⟨(some 27), none, .load 1 false, [.tmp 26]⟩,
      ⟨(some 28), none, .bin .add, [.tmp 25, .tmp 27]⟩,
      ⟨(some 29), none, .nilc, [.tmp 22]⟩,
      ⟨(some 30), none, .faddr 1, [.tmp 29]⟩,
      ⟨none, none, .store 1, [.tmp 30, .tmp 28]⟩] true)
    (.rg [
      ⟨(some 31), none, .faddr 0, [.tmp 2]⟩,
      ⟨(some 32), none, .load 1 false, [.tmp 31]⟩,
      ⟨(some 33), none, .nilc, [.tmp 32]⟩,
      ⟨(some 34), none, .faddr 3, [.tmp 33]⟩,
      ⟨(some 35), none, .load 1 false, [.tmp 34]⟩,
      ⟨(some 36), none, .faddr 6, [.tmp 5]⟩,
      ⟨(some 37), none, .load 1 false, [.tmp 36]⟩,
      ⟨(some 38), none, .bin .sub, [.tmp 35, .tmp 37]⟩,
      ⟨(some 39), none, .nilc, [.tmp 32]⟩,
      ⟨(some 40), none, .faddr 3, [.tmp 39]⟩,
      ⟨none, none, .store 1, [.tmp 40, .tmp 38]⟩] true))
    (.skip)))))
   (.rg [
     ⟨(some 41), none, .bin .add, [.tmp 9, .c (.t (.int .i64 1))]⟩,
     ⟨(some 9), none, .mv, [.tmp 41]⟩] false)))))))
  (.rg [
    ⟨(some 42), none, .load 3 true, [.tmp 2]⟩,
    ⟨(some 43), none, .load 4 true, [.tmp 3]⟩,
    ⟨(some 44), none, .faddr 0, [.tmp 2]⟩,
    ⟨(some 45), none, .load 1 false, [.tmp 44]⟩,
    ⟨(some 46), none, .nilc, [.tmp 45]⟩,
    ⟨(some 47), none, .faddr 1, [.tmp 46]⟩,
    ⟨(some 48), none, .call 58, [.tmp 42, .tmp 43, .tmp 47, .c (.t (.int .i64 (-1)))]⟩] true))
theorem k_33 : ecF Try.prog 33 = some (49, c_note_collector__before_33, []) := by kernel_rfl

/-- (tallystone/note.collector).after -/
def c_note_collector__after_34 : EC :=
  .sq (.rg [
    ⟨(some 2), none, .box, [.tmp 0]⟩,
    ⟨(some 3), none, .box, [.tmp 1]⟩] false)
  (.sq (.sq (.rg [
    ⟨(some 6), none, .faddr 1, [.tmp 3]⟩,
    ⟨(some 7), none, .load 1 false, [.tmp 6]⟩,
    ⟨(some 8), none, .lenL, [.tmp 7]⟩,
    ⟨(some 9), none, .mv, [.c (.t (.int .i64 0))]⟩] false)
  (.bk 0 (.lp (.sq (.rg [
     ⟨(some 10), none, .bin .lss, [.tmp 9, .tmp 8]⟩] false)
   (.sq (.cd (.tmp 10)
    (.skip)
    (.ex 0))
   (.sq (.bk 1 (.sq (.rg [
     ⟨(some 11), none, .iaS 7, [.tmp 7, .tmp 9]⟩,
     ⟨(some 12), none, .load 7 true, [.tmp 11]⟩,
     ⟨(some 5), none, .alloc [.t (.int .i64 0), .t (.int .i64 0), .t (.int .i64 0), .t (.int .i64 0), .t (.int .i64 0), .t (.int .i64 0), .t (.int .i64 0)], []⟩,
     ⟨none, none, .store 7, [.tmp 5, .tmp 12]⟩] false)
   (.sq (.sq (.rg [
     ⟨(some 13), none, .faddr 3, [.tmp 5]⟩,
     ⟨(some 14), none, .load 1 false, [.tmp 13]⟩,
     ⟨(some 15), none, .faddr 0, [.tmp 2]⟩,
     ⟨(some 16), none, .load 1 false, [.tmp 15]⟩,
     ⟨(some 17), none, .nilc, [.tmp 16]⟩,
     ⟨(some 18), none, .faddr 0, [.tmp 17]⟩,
     ⟨(some 19), none, .load 1 false, [.tmp 18]⟩,
     ⟨(some 20), none, .bin .neq, [.tmp 14, .tmp 19]⟩] true)
   (.cd (.tmp 20)
    (.ex 1)
    (.skip)))
   (.sq (.rg [
     ⟨(some 21), none, .faddr 0, [.tmp 2]⟩,
     ⟨(some 22), none, .load 1 false, [.tmp 21]⟩,
     ⟨(some 23), none, .nilc, [.tmp 22]⟩,
     ⟨(some 24), none, .faddr 4, [.tmp 23]⟩,
     ⟨(some 25), none, .load 1 false, [.tmp 24]⟩,
     ⟨(some 26), none, .faddr 6, [.tmp 5]⟩,
     ⟨(some 27), none, .load 1 false, [.tmp 26]⟩,
     ⟨(some 28), none, .bin .add, [.tmp 25, .tmp 27]⟩,
     ⟨(some 29), none, .nilc, [.tmp 22]⟩,
     ⟨(some 30), none, .faddr 4, [.tmp 29]⟩,
     ⟨none, none, .store 1, [.tmp 30, .tmp 28]⟩] true)
   (.sq (.rg [
     ⟨(some 31), none, .faddr 5, [.tmp 5]⟩,
     ⟨(some 32), none, .load 1 false, [.tmp 31]⟩,
     ⟨(some 33), none, .faddr 1, [.tmp 2]⟩,
     ⟨(some 34), none, .load 1 false, [.tmp 33]⟩,
     ⟨(some 35), none, .bin .geq, [.tmp 32, .tmp 34]⟩,
     ⟨(some 36), none, .mv, [.tmp 35]⟩,
     ⟨(some 37), some (36, true), .faddr 5, [.tmp 5]⟩,
     ⟨(some 38), some (36, true), .load 1 false, [.tmp 37]⟩,
     ⟨(some 39), some (36, true), .faddr 2, [.tmp 2]⟩,
     ⟨(some 40), some (36, true), .load 1 false, [.tmp 39]⟩,
     ⟨(some 41), some (36, true), .bin .leq, [.tmp 38, .tmp 40]⟩,
     ⟨(some 42), none, .pick, [.tmp 36, .tmp 41, .c (.t (.bool false))]⟩] false)
   (.cd (.tmp 42)
    (.rg [
      ⟨(some 43), none, .faddr 0, [.tmp 2]⟩,
      ⟨(some 44), none, .load 1 false, [.tmp 43]⟩,
      ⟨(some 45), none, .nilc, [.tmp 44]⟩,
      ⟨(some 46), none, .faddr 2, [.tmp 45]⟩,
      ⟨(some 47), none, .load 1 false, [.tmp 46]⟩,
      ⟨(some 48), none, .faddr 6, [.tmp 5]⟩,
      ⟨(some 49), none, .load 1 false, [.tmp 48]⟩,
      ⟨(some 50), none, .bin .add, [.tmp 47, .tmp 49]⟩,
      ⟨(some 51), none, .nilc, [.tmp 44]⟩,
      ⟨(some 52), none, .faddr 2, [.tmp 51]⟩,
      ⟨none, none, .store 1, [.tmp 52, .tmp 50]⟩] true)
    (.rg [
      ⟨(some 53), none, .faddr 0, [.tmp 2]⟩,
      ⟨(some 54), none, .load 1 false, [.tmp 53]⟩,
      ⟨(some 55), none, .nilc, [.tmp 54]⟩,
      ⟨(some 56), none, .faddr 3, [.tmp 55]⟩,
      ⟨(some 57), none, .load 1 false, [.tmp 56]⟩,
      ⟨(some 58), none, .faddr 6, [.tmp 5]⟩,
      ⟨(some 59), none, .load 1 false, [.tmp 58]⟩,
      ⟨(some 60), none, .bin .add, [.tmp 57, .tmp 59]⟩,
      ⟨(some 61), none, .nilc, [.tmp 54]⟩,
      ⟨(some 62), none, .faddr 3, [.tmp 61]⟩,
      ⟨none, none, .store 1, [.tmp 62, .tmp 60]⟩] true)))))))
   (.rg [
     ⟨(some 63), none, .bin .add, [.tmp 9, .c (.t (.int .i64 1))]⟩,
     ⟨(some 9), none, .mv, [.tmp 63]⟩] false)))))))
  (.rg [
    ⟨(some 64), none, .load 3 true, [.tmp 2]⟩,
    ⟨(some 65), none, .load 4 true, [.tmp 3]⟩,
    ⟨(some 66), none, .faddr 0, [.tmp 2]⟩,
    ⟨(some 67), none, .load 1 false, [.tmp 66]⟩,
    ⟨(some 68), none, .nilc, [.tmp 67]⟩,
    ⟨(some 69), none, .faddr 4, [.tmp 68]⟩,
    ⟨(some 70), none, .call 58, [.tmp 64, .tmp 65, .tmp 69, .c (.t (.int .i64 1))]⟩] true))
theorem k_34 : ecF Try.prog 34 = some (71, c_note_collector__after_34, []) := by kernel_rfl

/-- slices.ContainsFunc[[]int,int] -/
def c_slices_ContainsFunc___int_int__35 : EC :=
  .sq (.rg [
    ⟨(some 4), none, .mv, [.c (.t (.bool false))]⟩] false)
  (.sq (.rg [
    ⟨(some 5), none, .mv, [.tmp 0]⟩,
    ⟨(some 6), none, .mv, [.tmp 1]⟩,
    ⟨(some 7), none, .call 59, [.tmp 5, .tmp 6]⟩,
    ⟨(some 8), none, .bin .geq, [.tmp 7, .c (.t (.int .i64 0))]⟩,
    ⟨(some 4), none, .mv, [.tmp 8]⟩] false)
  (.rt))
theorem k_35 : ecF Try.prog 35 = some (9, c_slices_ContainsFunc___int_int__35, [.tm 4]) := by kernel_rfl

/-- (tallystone/note.Note).figures -/
def c_note_Note__figures_36 : EC :=
  .sq (.rg [
    ⟨(some 1), none, .box, [.tmp 0]⟩,
    ⟨(some 2), none, .mv, [.c (.snil)]⟩] false)
  (.sq (.rg [
    ⟨(some 3), none, .faddr 1, [.tmp 1]⟩,
    ⟨(some 4), none, .load 1 false, [.tmp 3]⟩,
    ⟨(some 5), none, .faddr 2, [.tmp 1]⟩,
    ⟨(some 6), none, .load 1 false, [.tmp 5]⟩,
    ⟨(some 7), none, .faddr 3, [.tmp 1]⟩,
    ⟨(some 8), none, .load 1 false, [.tmp 7]⟩,
    ⟨(some 9), none, .faddr 4, [.tmp 1]⟩,
    ⟨(some 10), none, .load 1 false, [.tmp 9]⟩,
    ⟨(some 11), none, .bsl 1, [.tmp 4, .tmp 6, .tmp 8, .tmp 10]⟩,
    ⟨(some 12), none, .faddr 5, [.tmp 1]⟩,
    ⟨(some 13), none, .slA 11 1 false false, [.tmp 12]⟩,
    ⟨(some 14), none, .app 3 1 8, [.tmp 11, .tmp 13]⟩,
    ⟨(some 2), none, .mv, [.tmp 14]⟩] true)
  (.rt))
theorem k_36 : ecF Try.prog 36 = some (15, c_note_Note__figures_36, [.tm 2]) := by kernel_rfl

/-- tallystone/note.Make$1 -/
def c_note_MakeS1_37 : EC :=
  .sq (.rg [
    ⟨(some 2), none, .mv, [.c (.t (.bool false))]⟩] false)
  (.sq (.rg [
    ⟨(some 3), none, .mv, [.tmp 0]⟩,
    ⟨(some 4), none, .call 38, [.tmp 3]⟩,
    ⟨(some 5), none, .un .not, [.tmp 4]⟩,
    ⟨(some 2), none, .mv, [.tmp 5]⟩] false)
  (.rt))
theorem k_37 : ecF Try.prog 37 = some (6, c_note_MakeS1_37, [.tm 2]) := by kernel_rfl

/-- tallystone/money.Valid -/
def c_money_Valid_38 : EC :=
  .sq (.rg [
    ⟨(some 2), none, .mv, [.c (.t (.bool false))]⟩] false)
  (.sq (.rg [
    ⟨(some 3), none, .mv, [.tmp 0]⟩,
    ⟨(some 4), none, .bin .geq, [.tmp 3, .c (.t (.int .i64 (-1000000000000)))]⟩,
    ⟨(some 5), none, .mv, [.tmp 4]⟩,
    ⟨(some 6), some (5, true), .mv, [.tmp 0]⟩,
    ⟨(some 7), some (5, true), .bin .leq, [.tmp 6, .c (.t (.int .i64 1000000000000))]⟩,
    ⟨(some 8), none, .pick, [.tmp 5, .tmp 7, .c (.t (.bool false))]⟩,
    ⟨(some 2), none, .mv, [.tmp 8]⟩] false)
  (.rt))
theorem k_38 : ecF Try.prog 38 = some (9, c_money_Valid_38, [.tm 2]) := by kernel_rfl

/-- tallystone/tallystoneref52.items -/
def c_tallystoneref52_items_39 : EC :=
  .sq (.rg [
    ⟨(some 4), none, .box, [.tmp 0]⟩,
    ⟨(some 8), none, .mv, [.c (.t (.int .i64 0))]⟩] false)
  (.sq (.rg [
    ⟨(some 9), none, .mv, [.c (.t (.int .i64 0))]⟩] false)
  (.sq (.sq (.rg [
    ⟨(some 10), none, .mv, [.c (.t (.int .i64 0))]⟩] false)
  (.bk 0 (.lp (.sq (.sq (.rg [
     ⟨(some 12), none, .mv, [.tmp 10]⟩,
     ⟨(some 13), none, .faddr 1, [.tmp 4]⟩,
     ⟨(some 14), none, .load 1 false, [.tmp 13]⟩,
     ⟨(some 15), none, .lenL, [.tmp 14]⟩,
     ⟨(some 16), none, .bin .lss, [.tmp 12, .tmp 15]⟩] false)
   (.cd (.tmp 16)
    (.skip)
    (.ex 0)))
   (.sq (.bk 1 (.sq (.rg [
     ⟨(some 19), none, .faddr 1, [.tmp 4]⟩,
     ⟨(some 20), none, .load 1 false, [.tmp 19]⟩,
     ⟨(some 21), none, .mv, [.tmp 10]⟩,
     ⟨(some 22), none, .iaS 7, [.tmp 20, .tmp 21]⟩,
     ⟨(some 23), none, .load 7 true, [.tmp 22]⟩,
     ⟨(some 11), none, .alloc [.t (.int .i64 0), .t (.int .i64 0), .t (.int .i64 0), .t (.int .i64 0), .t (.int .i64 0), .t (.int .i64 0), .t (.int .i64 0)], []⟩,
     ⟨none, none, .store 7, [.tmp 11, .tmp 23]⟩] false)
   (.sq (.rg [
     ⟨(some 24), none, .faddr 3, [.tmp 11]⟩,
     ⟨(some 25), none, .load 1 false, [.tmp 24]⟩,
     ⟨(some 26), none, .mv, [.tmp 1]⟩,
     ⟨(some 27), none, .bin .eql, [.tmp 25, .tmp 26]⟩,
     ⟨(some 28), none, .mv, [.tmp 27]⟩,
     ⟨(some 29), some (28, true), .faddr 5, [.tmp 11]⟩,
     ⟨(some 30), some (28, true), .load 1 false, [.tmp 29]⟩,
     ⟨(some 31), some (28, true), .mv, [.tmp 2]⟩,
     ⟨(some 32), some (28, true), .bin .geq, [.tmp 30, .tmp 31]⟩,
     ⟨(some 33), none, .pick, [.tmp 28, .tmp 32, .c (.t (.bool false))]⟩,
     ⟨(some 34), none, .mv, [.tmp 33]⟩,
     ⟨(some 35), some (34, true), .faddr 5, [.tmp 11]⟩,
     ⟨(some 36), some (34, true), .load 1 false, [.tmp 35]⟩,
     ⟨(some 37), some (34, true), .mv, [.tmp 3]⟩,
     ⟨(some 38), some (34, true), .bin .leq, [.tmp 36, .tmp 37]⟩,
     ⟨(some 39), none, .pick, [.tmp 34, .tmp 38, .c (.t (.bool false))]⟩] false)
   (.cd (.tmp 39)
    (.rg [
      ⟨(some 40), none, .mv, [.tmp 9]⟩,
      ⟨(some 41), none, .faddr 6, [.tmp 11]⟩,
      ⟨(some 42), none, .load 1 false, [.tmp 41]⟩,
      ⟨(some 43), none, .bin .add, [.tmp 40, .tmp 42]⟩,
      ⟨(some 9), none, .mv, [.tmp 43]⟩] false)
    (.skip)))))
   (.rg [
     ⟨(some 17), none, .mv, [.tmp 10]⟩,
     ⟨(some 18), none, .bin .add, [.tmp 17, .c (.t (.int .i64 1))]⟩,
     ⟨(some 10), none, .mv, [.tmp 18]⟩] false))))))
  (.sq (.rg [
    ⟨(some 44), none, .mv, [.tmp 9]⟩,
    ⟨(some 8), none, .mv, [.tmp 44]⟩] false)
  (.rt))))
theorem k_39 : ecF Try.prog 39 = some (45, c_tallystoneref52_items_39, [.tm 8]) := by kernel_rfl

/-- tallystone/tallystoneref52.parts -/
def c_tallystoneref52_parts_40 : EC :=
  .sq (.rg [
    ⟨(some 3), none, .box, [.tmp 0]⟩,
    ⟨(some 6), none, .mv, [.c (.t (.int .i64 0))]⟩] false)
  (.sq (.rg [
    ⟨(some 7), none, .mv, [.c (.t (.int .i64 0))]⟩] false)
  (.sq (.sq (.rg [
    ⟨(some 8), none, .mv, [.c (.t (.int .i64 0))]⟩] false)
  (.bk 0 (.lp (.sq (.sq (.rg [
     ⟨(some 11), none, .mv, [.tmp 8]⟩,
     ⟨(some 12), none, .faddr 2, [.tmp 3]⟩,
     ⟨(some 13), none, .load 1 false, [.tmp 12]⟩,
     ⟨(some 14), none, .lenL, [.tmp 13]⟩,
     ⟨(some 15), none, .bin .lss, [.tmp 11, .tmp 14]⟩] false)
   (.cd (.tmp 15)
    (.skip)
    (.ex 0)))
   (.sq (.bk 1 (.sq (.rg [
     ⟨(some 9), none, .mv, [.c (.t (.int .i64 0))]⟩] false)
   (.bk 2 (.lp (.sq (.sq (.rg [
      ⟨(some 18), none, .mv, [.tmp 9]⟩,
      ⟨(some 19), none, .faddr 2, [.tmp 3]⟩,
      ⟨(some 20), none, .load 1 false, [.tmp 19]⟩,
      ⟨(some 21), none, .mv, [.tmp 8]⟩,
      ⟨(some 22), none, .iaS 5, [.tmp 20, .tmp 21]⟩,
      ⟨(some 23), none, .faddr 4, [.tmp 22]⟩,
      ⟨(some 24), none, .load 1 false, [.tmp 23]⟩,
      ⟨(some 25), none, .lenL, [.tmp 24]⟩,
      ⟨(some 26), none, .bin .lss, [.tmp 18, .tmp 25]⟩] false)
    (.cd (.tmp 26)
     (.skip)
     (.ex 2)))
    (.sq (.bk 3 (.sq (.rg [
      ⟨(some 29), none, .faddr 2, [.tmp 3]⟩,
      ⟨(some 30), none, .load 1 false, [.tmp 29]⟩,
      ⟨(some 31), none, .mv, [.tmp 8]⟩,
      ⟨(some 32), none, .iaS 5, [.tmp 30, .tmp 31]⟩,
      ⟨(some 33), none, .faddr 4, [.tmp 32]⟩,
      ⟨(some 34), none, .load 1 false, [.tmp 33]⟩,
      ⟨(some 35), none, .mv, [.tmp 9]⟩,
      ⟨(some 36), none, .iaS 2, [.tmp 34, .tmp 35]⟩,
      ⟨(some 37), none, .load 2 true, [.tmp 36]⟩,
      ⟨(some 10), none, .alloc [.t (.int .i64 0), .t (.int .i64 0)], []⟩,
      ⟨none, none, .store 2, [.tmp 10, .tmp 37]⟩] false)
    (.sq (.rg [
      ⟨(some 38), none, .faddr 0, [.tmp 10]⟩,
      ⟨(some 39), none, .load 1 false, [.tmp 38]⟩,
      ⟨(some 40), none, .mv, [.tmp 1]⟩,
      ⟨(some 41), none, .bin .eql, [.tmp 39, .tmp 40]⟩,
      ⟨(some 42), none, .mv, [.tmp 41]⟩,
      ⟨(some 43), some (42, true), .mv, [.tmp 2]⟩,
      ⟨(some 44), some (42, true), .bin .eql, [.tmp 43, .c (.t (.int .i64 (-1)))]⟩,
      ⟨(some 45), some (42, true), .mv, [.tmp 44]⟩,
      ⟨(some 46), some (45, false), .faddr 2, [.tmp 3]⟩,
      ⟨(some 47), some (45, false), .load 1 false, [.tmp 46]⟩,
      ⟨(some 48), some (45, false), .mv, [.tmp 8]⟩,
      ⟨(some 49), some (45, false), .iaS 5, [.tmp 47, .tmp 48]⟩,
      ⟨(some 50), some (45, false), .faddr 0, [.tmp 49]⟩,
      ⟨(some 51), some (45, false), .load 1 false, [.tmp 50]⟩,
      ⟨(some 52), some (45, false), .mv, [.tmp 2]⟩,
      ⟨(some 53), some (45, false), .bin .eql, [.tmp 51, .tmp 52]⟩,
      ⟨(some 54), some (42, true), .pick, [.tmp 45, .c (.t (.bool true)), .tmp 53]⟩,
      ⟨(some 55), none, .pick, [.tmp 42, .tmp 54, .c (.t (.bool false))]⟩] false)
    (.cd (.tmp 55)
     (.rg [
       ⟨(some 56), none, .mv, [.tmp 7]⟩,
       ⟨(some 57), none, .faddr 1, [.tmp 10]⟩,
       ⟨(some 58), none, .load 1 false, [.tmp 57]⟩,
       ⟨(some 59), none, .bin .add, [.tmp 56, .tmp 58]⟩,
       ⟨(some 7), none, .mv, [.tmp 59]⟩] false)
     (.skip)))))
    (.rg [
      ⟨(some 27), none, .mv, [.tmp 9]⟩,
      ⟨(some 28), none, .bin .add, [.tmp 27, .c (.t (.int .i64 1))]⟩,
      ⟨(some 9), none, .mv, [.tmp 28]⟩] false)))))))
   (.rg [
     ⟨(some 16), none, .mv, [.tmp 8]⟩,
     ⟨(some 17), none, .bin .add, [.tmp 16, .c (.t (.int .i64 1))]⟩,
     ⟨(some 8), none, .mv, [.tmp 17]⟩] false))))))
  (.sq (.rg [
    ⟨(some 60), none, .mv, [.tmp 7]⟩,
    ⟨(some 6), none, .mv, [.tmp 60]⟩] false)
  (.rt))))
theorem k_40 : ecF Try.prog 40 = some (61, c_tallystoneref52_parts_40, [.tm 6]) := by kernel_rfl

/-- tallystone/tallystoneref04.Valid -/
def c_tallystoneref04_Valid_41 : EC :=
  .sq (.rg [
    ⟨(some 2), none, .mv, [.c (.t (.bool false))]⟩] false)
  (.sq (.rg [
    ⟨(some 3), none, .mv, [.tmp 0]⟩,
    ⟨(some 4), none, .bin .geq, [.tmp 3, .c (.t (.int .i64 (-1000000000000)))]⟩,
    ⟨(some 5), none, .mv, [.tmp 4]⟩,
    ⟨(some 6), some (5, true), .mv, [.tmp 0]⟩,
    ⟨(some 7), some (5, true), .bin .leq, [.tmp 6, .c (.t (.int .i64 1000000000000))]⟩,
    ⟨(some 8), none, .pick, [.tmp 5, .tmp 7, .c (.t (.bool false))]⟩,
    ⟨(some 2), none, .mv, [.tmp 8]⟩] false)
  (.rt))
theorem k_41 : ecF Try.prog 41 = some (9, c_tallystoneref04_Valid_41, [.tm 2]) := by kernel_rfl

/-- tallystone/tallystoneref10.Find -/
def c_tallystoneref10_Find_43 : EC :=
  .sq (.rg [
    ⟨(some 2), none, .box, [.tmp 0]⟩,
    ⟨(some 4), none, .mv, [.c (.t (.int .i64 0))]⟩,
    ⟨(some 5), none, .mv, [.c (.t (.bool false))]⟩] false)
  (.sq (.sq (.rg [
    ⟨(some 6), none, .mv, [.c (.t (.int .i64 0))]⟩] false)
  (.bk 0 (.lp (.sq (.sq (.rg [
     ⟨(some 7), none, .mv, [.tmp 6]⟩,
     ⟨(some 8), none, .faddr 20, [.tmp 2]⟩,
     ⟨(some 9), none, .load 1 false, [.tmp 8]⟩,
     ⟨(some 10), none, .lenL, [.tmp 9]⟩,
     ⟨(some 11), none, .bin .lss, [.tmp 7, .tmp 10]⟩] false)
   (.cd (.tmp 11)
    (.skip)
    (.ex 0)))
   (.sq (.bk 1 (.sq (.rg [
     ⟨(some 14), none, .faddr 20, [.tmp 2]⟩,
     ⟨(some 15), none, .load 1 false, [.tmp 14]⟩,
     ⟨(some 16), none, .mv, [.tmp 6]⟩,
     ⟨(some 17), none, .iaS 5, [.tmp 15, .tmp 16]⟩,
     ⟨(some 18), none, .faddr 0, [.tmp 17]⟩,
     ⟨(some 19), none, .load 1 false, [.tmp 18]⟩,
     ⟨(some 20), none, .mv, [.tmp 1]⟩,
     ⟨(some 21), none, .bin .eql, [.tmp 19, .tmp 20]⟩] false)
   (.cd (.tmp 21)
    (.sq (.rg [
      ⟨(some 22), none, .mv, [.tmp 6]⟩,
      ⟨(some 4), none, .mv, [.tmp 22]⟩,
      ⟨(some 5), none, .mv, [.c (.t (.bool true))]⟩] false)
    (.rt))
    (.skip))))
   (.rg [
     ⟨(some 12), none, .mv, [.tmp 6]⟩,
     ⟨(some 13), none, .bin .add, [.tmp 12, .c (.t (.int .i64 1))]⟩,
     ⟨(some 6), none, .mv, [.tmp 13]⟩] false))))))
  (.sq (.rg [
    ⟨(some 4), none, .mv, [.c (.t (.int .i64 0))]⟩,
    ⟨(some 5), none, .mv, [.c (.t (.bool false))]⟩] false)
  (.rt)))
theorem k_43 : ecF Try.prog 43 = some (23, c_tallystoneref10_Find_43, [.tm 4, .tm 5]) := by kernel_rfl

/-- tallystone/tallystoneref10.entity -/
def c_tallystoneref10_entity_44 : EC :=
  .sq (.rg [
    ⟨(some 2), none, .box, [.tmp 0]⟩,
    ⟨(some 3), none, .box, [.tmp 1]⟩,
    ⟨(some 4), none, .mv, [.c (.t (.bool false))]⟩] false)
  (.sq (.sq (.rg [
    ⟨(some 8), none, .faddr 0, [.tmp 3]⟩,
    ⟨(some 9), none, .load 1 false, [.tmp 8]⟩,
    ⟨(some 10), none, .call 65, [.tmp 9]⟩,
    ⟨(some 11), none, .un .not, [.tmp 10]⟩,
    ⟨(some 12), none, .mv, [.tmp 11]⟩,
    ⟨(some 13), some (12, false), .faddr 1, [.tmp 3]⟩,
    ⟨(some 14), some (12, false), .load 1 false, [.tmp 13]⟩,
    ⟨(some 15), some (12, false), .call 60, [.tmp 14]⟩,
    ⟨(some 16), some (12, false), .un .not, [.tmp 15]⟩,
    ⟨(some 17), none, .pick, [.tmp 12, .c (.t (.bool true)), .tmp 16]⟩,
    ⟨(some 18), none, .mv, [.tmp 17]⟩,
    ⟨(some 19), some (18, false), .load 5 true, [.tmp 3]⟩,
    ⟨(some 20), some (18, false), .faddr 4, [.tmp 2]⟩,
    ⟨(some 21), some (18, false), .load 1 false, [.tmp 20]⟩,
    ⟨(some 22), some (18, false), .call 66, [.tmp 19, .tmp 21]⟩,
    ⟨(some 23), some (18, false), .un .not, [.tmp 22]⟩,
    ⟨(some 24), none, .pick, [.tmp 18, .c (.t (.bool true)), .tmp 23]⟩] false)
  (.cd (.tmp 24)
   (.sq (.rg [
     ⟨(some 4), none, .mv, [.c (.t (.bool false))]⟩] false)
   (.rt))
   (.skip)))
  (.sq (.rg [
    ⟨(some 25), none, .faddr 5, [.tmp 2]⟩,
    ⟨(some 26), none, .load 15 true, [.tmp 25]⟩,
    ⟨(some 27), none, .call 64, [.tmp 26]⟩,
    ⟨(some 5), none, .mv, [.tmp 27]⟩] false)
  (.sq (.sq (.rg [
    ⟨(some 6), none, .mv, [.c (.t (.int .i64 0))]⟩] false)
  (.bk 0 (.lp (.sq (.sq (.rg [
     ⟨(some 28), none, .mv, [.tmp 6]⟩,
     ⟨(some 29), none, .faddr 3, [.tmp 3]⟩,
     ⟨(some 30), none, .load 1 false, [.tmp 29]⟩,
     ⟨(some 31), none, .lenL, [.tmp 30]⟩,
     ⟨(some 32), none, .bin .lss, [.tmp 28, .tmp 31]⟩] false)
   (.cd (.tmp 32)
    (.skip)
    (.ex 0)))
   (.sq (.bk 1 (.sq (.rg [
     ⟨(some 7), none, .mv, [.c (.t (.int .i64 0))]⟩] false)
   (.bk 2 (.lp (.sq (.sq (.rg [
      ⟨(some 35), none, .mv, [.tmp 7]⟩,
      ⟨(some 36), none, .mv, [.tmp 5]⟩,
      ⟨(some 37), none, .lenL, [.tmp 36]⟩,
      ⟨(some 38), none, .bin .lss, [.tmp 35, .tmp 37]⟩] false)
    (.cd (.tmp 38)
     (.skip)
     (.ex 2)))
    (.sq (.bk 3 (.sq (.rg [
      ⟨(some 41), none, .faddr 3, [.tmp 3]⟩,
      ⟨(some 42), none, .load 1 false, [.tmp 41]⟩,
      ⟨(some 43), none, .mv, [.tmp 6]⟩,
      ⟨(some 44), none, .iaS 3, [.tmp 42, .tmp 43]⟩,
      ⟨(some 45), none, .faddr 1, [.tmp 44]⟩,
      ⟨(some 46), none, .load 1 false, [.tmp 45]⟩,
      ⟨(some 47), none, .mv, [.tmp 5]⟩,
      ⟨(some 48), none, .mv, [.tmp 7]⟩,
      ⟨(some 49), none, .iaS 5, [.tmp 47, .tmp 48]⟩,
      ⟨(some 50), none, .faddr 1, [.tmp 49]⟩,
      ⟨(some 51), none, .load 1 false, [.tmp 50]⟩,
      ⟨(some 52), none, .bin .eql, [.tmp 46, .tmp 51]⟩,
      ⟨(some 53), none, .mv, [.tmp 52]⟩,
      ⟨(some 54), some (53, true), .mv, [.tmp 5]⟩,
      ⟨(some 55), some (53, true), .mv, [.tmp 7]⟩,
      ⟨(some 56), some (53, true), .iaS 5, [.tmp 54, .tmp 55]⟩,
      ⟨(some 57), some (53, true), .faddr 4, [.tmp 56]⟩,
      ⟨(some 58), some (53, true), .load 1 false, [.tmp 57]⟩,
      ⟨(some 59), some (53, true), .un .not, [.tmp 58]⟩,
      ⟨(some 60), none, .pick, [.tmp 53, .tmp 59, .c (.t (.bool false))]⟩] true)
    (.cd (.tmp 60)
     (.sq (.rg [
       ⟨(some 4), none, .mv, [.c (.t (.bool false))]⟩] false)
     (.rt))
     (.skip))))
    (.rg [
      ⟨(some 39), none, .mv, [.tmp 7]⟩,
      ⟨(some 40), none, .bin .add, [.tmp 39, .c (.t (.int .i64 1))]⟩,
      ⟨(some 7), none, .mv, [.tmp 40]⟩] false)))))))
   (.rg [
     ⟨(some 33), none, .mv, [.tmp 6]⟩,
     ⟨(some 34), none, .bin .add, [.tmp 33, .c (.t (.int .i64 1))]⟩,
     ⟨(some 6), none, .mv, [.tmp 34]⟩] false))))))
  (.sq (.rg [
    ⟨(some 4), none, .mv, [.c (.t (.bool true))]⟩] false)
  (.rt)))))
theorem k_44 : ecF Try.prog 44 = some (61, c_tallystoneref10_entity_44, [.tm 4]) := by kernel_rfl

/-- tallystone/tallystoneref07.check -/
def c_tallystoneref07_check_45 : EC :=
  .sq (.rg [
    ⟨(some 2), none, .box, [.tmp 0]⟩,
    ⟨(some 4), none, .mv, [.c (.t (.int .i64 0))]⟩] false)
  (.sq (.sq (.rg [
    ⟨(some 5), none, .load 3 true, [.tmp 2]⟩,
    ⟨(some 6), none, .call 61, [.tmp 5]⟩,
    ⟨(some 7), none, .un .not, [.tmp 6]⟩] false)
  (.cd (.tmp 7)
   (.sq (.rg [
     ⟨(some 4), none, .mv, [.c (.t (.int .i64 1))]⟩] false)
   (.rt))
   (.skip)))
  (.sq (.sq (.rg [
    ⟨(some 8), none, .mv, [.tmp 1]⟩,
    ⟨(some 9), none, .bin .lss, [.tmp 8, .c (.t (.int .i64 0))]⟩,
    ⟨(some 10), none, .mv, [.tmp 9]⟩,
    ⟨(some 11), some (10, false), .mv, [.tmp 1]⟩,
    ⟨(some 12), some (10, false), .faddr 2, [.tmp 2]⟩,
    ⟨(some 13), some (10, false), .load 1 false, [.tmp 12]⟩,
    ⟨(some 14), some (10, false), .bin .geq, [.tmp 11, .tmp 13]⟩,
    ⟨(some 15), none, .pick, [.tmp 10, .c (.t (.bool true)), .tmp 14]⟩] false)
  (.cd (.tmp 15)
   (.sq (.rg [
     ⟨(some 4), none, .mv, [.c (.t (.int .i64 2))]⟩] false)
   (.rt))
   (.skip)))
  (.sq (.rg [
    ⟨(some 4), none, .mv, [.c (.t (.int .i64 0))]⟩] false)
  (.rt))))
theorem k_45 : ecF Try.prog 45 = some (16, c_tallystoneref07_check_45, [.tm 4]) := by kernel_rfl

/-- tallystone/tallystoneref07.first -/
def c_tallystoneref07_first_46 : EC :=
  .sq (.rg [
    ⟨(some 2), none, .box, [.tmp 0]⟩,
    ⟨(some 4), none, .mv, [.c (.t (.int .i64 0))]⟩,
    ⟨(some 5), none, .mv, [.c (.t (.int .i64 0))]⟩] false)
  (.sq (.rg [
    ⟨(some 9), none, .faddr 0, [.tmp 2]⟩,
    ⟨(some 10), none, .load 1 false, [.tmp 9]⟩,
    ⟨(some 11), none, .faddr 1, [.tmp 2]⟩,
    ⟨(some 12), none, .load 1 false, [.tmp 11]⟩,
    ⟨(some 13), none, .call 67, [.tmp 10, .tmp 12, .c (.t (.int .i64 1))]⟩,
    ⟨(some 8), none, .mv, [.tmp 13]⟩,
    ⟨(some 14), none, .ext 0, [.tmp 8]⟩,
    ⟨(some 15), none, .ext 1, [.tmp 8]⟩,
    ⟨(some 6), none, .mv, [.tmp 14]⟩,
    ⟨(some 7), none, .mv, [.tmp 15]⟩] false)
  (.sq (.sq (.rg [
    ⟨(some 16), none, .mv, [.tmp 7]⟩,
    ⟨(some 17), none, .bin .neq, [.tmp 16, .c (.t (.int .i64 0))]⟩] false)
  (.cd (.tmp 17)
   (.sq (.rg [
     ⟨(some 18), none, .mv, [.tmp 7]⟩,
     ⟨(some 4), none, .mv, [.c (.t (.int .i64 0))]⟩,
     ⟨(some 5), none, .mv, [.tmp 18]⟩] false)
   (.rt))
   (.skip)))
  (.sq (.rg [
    ⟨(some 19), none, .mv, [.tmp 6]⟩,
    ⟨(some 20), none, .mv, [.tmp 1]⟩,
    ⟨(some 21), none, .call 68, [.tmp 19, .tmp 20]⟩,
    ⟨(some 22), none, .ext 0, [.tmp 21]⟩,
    ⟨(some 23), none, .ext 1, [.tmp 21]⟩,
    ⟨(some 4), none, .mv, [.tmp 22]⟩,
    ⟨(some 5), none, .mv, [.tmp 23]⟩] false)
  (.rt))))
theorem k_46 : ecF Try.prog 46 = some (24, c_tallystoneref07_first_46, [.tm 4, .tm 5]) := by kernel_rfl

/-- tallystone/tallystoneref06.Civil -/
def c_tallystoneref06_Civil_47 : EC :=
  .sq (.rg [
    ⟨(some 2), none, .mv, [.c (.t (.int .i64 0))]⟩,
    ⟨(some 3), none, .mv, [.c (.t (.int .i64 0))]⟩,
    ⟨(some 4), none, .mv, [.c (.t (.int .i64 0))]⟩,
    ⟨(some 5), none, .mv, [.c (.t (.int .i64 0))]⟩] false)
  (.sq (.sq (.rg [
    ⟨(some 9), none, .mv, [.tmp 0]⟩,
    ⟨(some 10), none, .call 69, [.tmp 9]⟩,
    ⟨(some 11), none, .un .not, [.tmp 10]⟩] false)
  (.cd (.tmp 11)
   (.sq (.rg [
     ⟨(some 2), none, .mv, [.c (.t (.int .i64 0))]⟩,
     ⟨(some 3), none, .mv, [.c (.t (.int .i64 0))]⟩,
     ⟨(some 4), none, .mv, [.c (.t (.int .i64 0))]⟩,
     ⟨(some 5), none, .mv, [.c (.t (.int .i64 2))]⟩] false)
   (.rt))
   (.skip)))
  (.sq (.rg [
    ⟨(some 12), none, .mv, [.tmp 0]⟩,
    ⟨(some 13), none, .bin .sub, [.tmp 12, .c (.t (.int .i64 (-25567)))]⟩,
    ⟨(some 6), none, .mv, [.c (.t (.int .i64 1900))]⟩,
    ⟨(some 7), none, .mv, [.c (.t (.int .i64 1))]⟩,
    ⟨(some 8), none, .mv, [.tmp 13]⟩] false)
  (.sq (.bk 0 (.lp (.sq (.sq (.rg [
     ⟨(some 14), none, .mv, [.tmp 6]⟩,
     ⟨(some 15), none, .call 70, [.tmp 14]⟩,
     ⟨(some 16), none, .mv, [.tmp 15]⟩,
     ⟨(some 17), some (16, true), .mv, [.tmp 8]⟩,
     ⟨(some 18), some (16, true), .bin .geq, [.tmp 17, .c (.t (.int .i64 366))]⟩,
     ⟨(some 19), none, .pick, [.tmp 16, .tmp 18, .c (.t (.bool false))]⟩,
     ⟨(some 20), none, .mv, [.tmp 19]⟩,
     ⟨(some 21), some (20, false), .mv, [.tmp 6]⟩,
     ⟨(some 22), some (20, false), .call 70, [.tmp 21]⟩,
     ⟨(some 23), some (20, false), .un .not, [.tmp 22]⟩,
     ⟨(some 24), some (20, false), .mv, [.tmp 23]⟩,
     ⟨(some 25), some (24, true), .mv, [.tmp 8]⟩,
     ⟨(some 26), some (24, true), .bin .geq, [.tmp 25, .c (.t (.int .i64 365))]⟩,
     ⟨(some 27), some (20, false), .pick, [.tmp 24, .tmp 26, .c (.t (.bool false))]⟩,
     ⟨(some 28), none, .pick, [.tmp 20, .c (.t (.bool true)), .tmp 27]⟩] false)
   (.cd (.tmp 28)
    (.skip)
    (.ex 0)))
   (.bk 1 (.sq (.rg [
     ⟨(some 29), none, .mv, [.tmp 8]⟩,
     ⟨(some 30), none, .bin .sub, [.tmp 29, .c (.t (.int .i64 365))]⟩,
     ⟨(some 8), none, .mv, [.tmp 30]⟩] false)
   (.sq (.sq (.rg [
     ⟨(some 31), none, .mv, [.tmp 6]⟩,
     ⟨(some 32), none, .call 70, [.tmp 31]⟩] false)
   (.cd (.tmp 32)
    (.rg [
      ⟨(some 33), none, .mv, [.tmp 8]⟩,
      ⟨(some 34), none, .bin .sub, [.tmp 33, .c (.t (.int .i64 1))]⟩,
      ⟨(some 8), none, .mv, [.tmp 34]⟩] false)
    (.skip)))
   (.rg [
     ⟨(some 35), none, .mv, [.tmp 6]⟩,
     ⟨(some 36), none, .bin .add, [.tmp 35, .c (.t (.int .i64 1))]⟩,
     ⟨(some 6), none, .mv, [.tmp 36]⟩] false)))))))
  (.sq (.bk 2 (.lp (.sq (.sq (.rg [
     ⟨(some 37), none, .mv, [.tmp 8]⟩,
     ⟨(some 38), none, .mv, [.tmp 6]⟩,
     ⟨(some 39), none, .mv, [.tmp 7]⟩,
     ⟨(some 40), none, .call 48, [.tmp 38, .tmp 39]⟩,
     ⟨(some 41), none, .bin .geq, [.tmp 37, .tmp 40]⟩] false)
   (.cd (.tmp 41)
    (.skip)
    (.ex 2)))
   (.bk 3 (.sq (.rg [
     ⟨(some 42), none, .mv, [.tmp 8]⟩,
     ⟨(some 43), none, .mv, [.tmp 6]⟩,
     ⟨(some 44), none, .mv, [.tmp 7]⟩,
     ⟨(some 45), none, .call 48, [.tmp 43, .tmp 44]⟩,
     ⟨(some 46), none, .bin .sub, [.tmp 42, .tmp 45]⟩,
     ⟨(some 8), none, .mv, [.tmp 46]⟩] false)
   (.rg [
     ⟨(some 47), none, .mv, [.tmp 7]⟩,
     ⟨(some 48), none, .bin .add, [.tmp 47, .c (.t (.int .i64 1))]⟩,
     ⟨(some 7), none, .mv, [.tmp 48]⟩] false))))))
  (.sq (.rg [
    ⟨(some 49), none, .mv, [.tmp 6]⟩,
    ⟨(some 50), none, .mv, [.tmp 7]⟩,
    ⟨(some 51), none, .mv, [.tmp 8]⟩,
    ⟨(some 52), none, .bin .add, [.tmp 51, .c (.t (.int .i64 1))]⟩,
    ⟨(some 2), none, .mv, [.tmp 49]⟩,
    ⟨(some 3), none, .mv, [.tmp 50]⟩,
    ⟨(some 4), none, .mv, [.tmp 52]⟩,
    ⟨(some 5), none, .mv, [.c (.t (.int .i64 0))]⟩] false)
  (.rt))))))
theorem k_47 : ecF Try.prog 47 = some (53, c_tallystoneref06_Civil_47, [.tm 2, .tm 3, .tm 4, .tm 5]) := by kernel_rfl

/-- tallystone/tallystoneref06.Days -/
def c_tallystoneref06_Days_48 : EC :=
  .sq (.rg [
    ⟨(some 4), none, .mv, [.c (.t (.int .i64 0))]⟩] false)
  (.sq (.sq (.rg [
    ⟨(some 5), none, .mv, [.tmp 1]⟩,
    ⟨(some 6), none, .bin .lss, [.tmp 5, .c (.t (.int .i64 1))]⟩,
    ⟨(some 7), none, .mv, [.tmp 6]⟩,
    ⟨(some 8), some (7, false), .mv, [.tmp 1]⟩,
    ⟨(some 9), some (7, false), .bin .gtr, [.tmp 8, .c (.t (.int .i64 12))]⟩,
    ⟨(some 10), none, .pick, [.tmp 7, .c (.t (.bool true)), .tmp 9]⟩,
    ⟨(some 11), none, .mv, [.tmp 10]⟩,
    ⟨(some 12), some (11, false), .mv, [.tmp 0]⟩,
    ⟨(some 13), some (11, false), .bin .lss, [.tmp 12, .c (.t (.int .i64 1900))]⟩,
    ⟨(some 14), none, .pick, [.tmp 11, .c (.t (.bool true)), .tmp 13]⟩,
    ⟨(some 15), none, .mv, [.tmp 14]⟩,
    ⟨(some 16), some (15, false), .mv, [.tmp 0]⟩,
    ⟨(some 17), some (15, false), .bin .gtr, [.tmp 16, .c (.t (.int .i64 2199))]⟩,
    ⟨(some 18), none, .pick, [.tmp 15, .c (.t (.bool true)), .tmp 17]⟩] false)
  (.cd (.tmp 18)
   (.sq (.rg [
     ⟨(some 4), none, .mv, [.c (.t (.int .i64 0))]⟩] false)
   (.rt))
   (.skip)))
  (.sq (.sq (.rg [
    ⟨(some 19), none, .mv, [.tmp 1]⟩,
    ⟨(some 20), none, .bin .eql, [.tmp 19, .c (.t (.int .i64 2))]⟩,
    ⟨(some 21), none, .mv, [.tmp 20]⟩,
    ⟨(some 22), some (21, true), .mv, [.tmp 0]⟩,
    ⟨(some 23), some (21, true), .call 70, [.tmp 22]⟩,
    ⟨(some 24), none, .pick, [.tmp 21, .tmp 23, .c (.t (.bool false))]⟩] false)
  (.cd (.tmp 24)
   (.sq (.rg [
     ⟨(some 4), none, .mv, [.c (.t (.int .i64 29))]⟩] false)
   (.rt))
   (.skip)))
  (.sq (.rg [
    ⟨(some 25), none, .build [.t (.int .i64 0), .t (.int .i64 0), .t (.int .i64 0), .t (.int .i64 0), .t (.int .i64 0), .t (.int .i64 0), .t (.int .i64 0), .t (.int .i64 0), .t (.int .i64 0), .t (.int .i64 0), .t (.int .i64 0), .t (.int .i64 0)] [(0, 1), (1, 1), (2, 1), (3, 1), (4, 1), (5, 1), (6, 1), (7, 1), (8, 1), (9, 1), (10, 1), (11, 1)], [.c (.t (.int .i64 31)), .c (.t (.int .i64 28)), .c (.t (.int .i64 31)), .c (.t (.int .i64 30)), .c (.t (.int .i64 31)), .c (.t (.int .i64 30)), .c (.t (.int .i64 31)), .c (.t (.int .i64 31)), .c (.t (.int .i64 30)), .c (.t (.int .i64 31)), .c (.t (.int .i64 30)), .c (.t (.int .i64 31))]⟩,
    ⟨(some 26), none, .mv, [.tmp 1]⟩,
    ⟨(some 27), none, .bin .sub, [.tmp 26, .c (.t (.int .i64 1))]⟩,
    ⟨(some 28), none, .ixA 12 1 1 false, [.tmp 25, .tmp 27]⟩,
    ⟨(some 4), none, .mv, [.tmp 28]⟩] false)
  (.rt))))
theorem k_48 : ecF Try.prog 48 = some (29, c_tallystoneref06_Days_48, [.tm 4]) := by kernel_rfl

/-- tallystone/note.All$1 -/
def c_note_AllS1_49 : EC :=
  .sq (.rg [
    ⟨(some 2), none, .mv, [.c (.t (.bool false))]⟩] false)
  (.sq (.rg [
    ⟨(some 3), none, .mv, [.tmp 0]⟩,
    ⟨(some 4), none, .bin .neq, [.tmp 3, .c (.t (.int .i64 0))]⟩,
    ⟨(some 2), none, .mv, [.tmp 4]⟩] false)
  (.rt))
theorem k_49 : ecF Try.prog 49 = some (5, c_note_AllS1_49, [.tm 2]) := by kernel_rfl

/-- tallystone/tallystoneref08.Find -/
def c_tallystoneref08_Find_50 : EC :=
  .sq (.rg [
    ⟨(some 4), none, .alloc [.t (.int .i64 0), .t (.int .i64 0), .t (.int .i64 0), .t (.int .i64 0)], []⟩,
    ⟨(some 5), none, .mv, [.c (.t (.bool false))]⟩] false)
  (.sq (.sq (.rg [
    ⟨(some 6), none, .mv, [.c (.t (.int .i64 0))]⟩] false)
  (.bk 0 (.lp (.sq (.sq (.rg [
     ⟨(some 7), none, .mv, [.tmp 6]⟩,
     ⟨(some 8), none, .mv, [.tmp 0]⟩,
     ⟨(some 9), none, .lenL, [.tmp 8]⟩,
     ⟨(some 10), none, .bin .lss, [.tmp 7, .tmp 9]⟩] false)
   (.cd (.tmp 10)
    (.skip)
    (.ex 0)))
   (.sq (.bk 1 (.sq (.rg [
     ⟨(some 13), none, .mv, [.tmp 0]⟩,
     ⟨(some 14), none, .mv, [.tmp 6]⟩,
     ⟨(some 15), none, .iaS 4, [.tmp 13, .tmp 14]⟩,
     ⟨(some 16), none, .faddr 0, [.tmp 15]⟩,
     ⟨(some 17), none, .load 1 false, [.tmp 16]⟩,
     ⟨(some 18), none, .mv, [.tmp 1]⟩,
     ⟨(some 19), none, .bin .eql, [.tmp 17, .tmp 18]⟩] false)
   (.cd (.tmp 19)
    (.sq (.rg [
      ⟨(some 20), none, .mv, [.tmp 0]⟩,
      ⟨(some 21), none, .mv, [.tmp 6]⟩,
      ⟨(some 22), none, .iaS 4, [.tmp 20, .tmp 21]⟩,
      ⟨(some 23), none, .load 4 true, [.tmp 22]⟩,
      ⟨none, none, .store 4, [.tmp 4, .tmp 23]⟩,
      ⟨(some 5), none, .mv, [.c (.t (.bool true))]⟩] false)
    (.rt))
    (.skip))))
   (.rg [
     ⟨(some 11), none, .mv, [.tmp 6]⟩,
     ⟨(some 12), none, .bin .add, [.tmp 11, .c (.t (.int .i64 1))]⟩,
     ⟨(some 6), none, .mv, [.tmp 12]⟩] false))))))
  (.sq (.rg [
    ⟨(some 24), none, .build [.t (.int .i64 0), .t (.int .i64 0), .t (.int .i64 0), .t (.int .i64 0)] [], []⟩,
    ⟨none, none, .store 4, [.tmp 4, .tmp 24]⟩,
    ⟨(some 5), none, .mv, [.c (.t (.bool false))]⟩] false)
  (.rt)))
theorem k_50 : ecF Try.prog 50 = some (25, c_tallystoneref08_Find_50, [.ce 4 4 true, .tm 5]) := by kernel_rfl

/-- tallystone/group.sampleChart -/
def c_group_sampleChart_51 : EC :=
  .sq (.rg [
    ⟨(some 0), none, .mv, [.c (.snil)]⟩] false)
  (.sq (.rg [
    ⟨(some 1), none, .mv, [.c (.snil)]⟩] false)
  (.sq (.sq (.rg [
    ⟨(some 12), none, .build [.t (.int .i64 0), .t (.int .i64 0)] [(0, 1), (1, 1)], [.c (.t (.int .i64 1000)), .c (.t (.int .i64 0))]⟩,
    ⟨(some 13), none, .build [.t (.int .i64 0), .t (.int .i64 0)] [(0, 1), (1, 1)], [.c (.t (.int .i64 1010)), .c (.t (.int .i64 1000))]⟩,
    ⟨(some 14), none, .build [.t (.int .i64 0), .t (.int .i64 0)] [(0, 1), (1, 1)], [.c (.t (.int .i64 1100)), .c (.t (.int .i64 1000))]⟩,
    ⟨(some 15), none, .build [.t (.int .i64 0), .t (.int .i64 0)] [(0, 1), (1, 1)], [.c (.t (.int .i64 1200)), .c (.t (.int .i64 1000))]⟩,
    ⟨(some 16), none, .bsl 2, [.tmp 12, .tmp 13, .tmp 14, .tmp 15]⟩,
    ⟨(some 17), none, .lenL, [.tmp 16]⟩,
    ⟨(some 18), none, .mv, [.c (.t (.int .i64 0))]⟩] false)
  (.bk 0 (.lp (.sq (.rg [
     ⟨(some 19), none, .bin .lss, [.tmp 18, .tmp 17]⟩] false)
   (.sq (.cd (.tmp 19)
    (.skip)
    (.ex 0))
   (.sq (.bk 1 (.sq (.rg [
     ⟨(some 20), none, .iaS 2, [.tmp 16, .tmp 18]⟩,
     ⟨(some 21), none, .load 2 true, [.tmp 20]⟩,
     ⟨(some 3), none, .alloc [.t (.int .i64 0), .t (.int .i64 0)], []⟩,
     ⟨none, none, .store 2, [.tmp 3, .tmp 21]⟩] false)
   (.rg [
     ⟨(some 22), none, .mv, [.tmp 1]⟩,
     ⟨(some 23), none, .iaA 2 1, [.tmp 3, .c (.t (.int .i64 0))]⟩,
     ⟨(some 24), none, .load 1 false, [.tmp 23]⟩,
     ⟨(some 25), none, .iaA 2 1, [.tmp 3, .c (.t (.int .i64 1))]⟩,
     ⟨(some 26), none, .load 1 false, [.tmp 25]⟩,
     ⟨(some 27), none, .call 71, [.tmp 24, .c (.t (.int .i64 1)), .c (.t (.int .i64 1)), .tmp 26]⟩,
     ⟨(some 28), none, .bsl 4, [.tmp 27]⟩,
     ⟨(some 29), none, .app 78 4 32, [.tmp 22, .tmp 28]⟩,
     ⟨(some 1), none, .mv, [.tmp 29]⟩] false)))
   (.rg [
     ⟨(some 30), none, .bin .add, [.tmp 18, .c (.t (.int .i64 1))]⟩,
     ⟨(some 18), none, .mv, [.tmp 30]⟩] false)))))))
  (.sq (.sq (.rg [
    ⟨(some 31), none, .bsl 1, [.c (.t (.int .i64 1300)), .c (.t (.int .i64 1500)), .c (.t (.int .i64 1600)), .c (.t (.int .i64 1700))]⟩,
    ⟨(some 32), none, .lenL, [.tmp 31]⟩,
    ⟨(some 33), none, .mv, [.c (.t (.int .i64 0))]⟩] false)
  (.bk 2 (.lp (.sq (.rg [
     ⟨(some 34), none, .bin .lss, [.tmp 33, .tmp 32]⟩] false)
   (.sq (.cd (.tmp 34)
    (.skip)
    (.ex 2))
   (.sq (.bk 3 (.sq (.rg [
     ⟨(some 35), none, .iaS 1, [.tmp 31, .tmp 33]⟩,
     ⟨(some 36), none, .load 1 false, [.tmp 35]⟩,
     ⟨(some 5), none, .mv, [.tmp 36]⟩] false)
   (.rg [
     ⟨(some 37), none, .mv, [.tmp 1]⟩,
     ⟨(some 38), none, .mv, [.tmp 5]⟩,
     ⟨(some 39), none, .call 71, [.tmp 38, .c (.t (.int .i64 1)), .c (.t (.int .i64 3)), .c (.t (.int .i64 0))]⟩,
     ⟨(some 40), none, .bsl 4, [.tmp 39]⟩,
     ⟨(some 41), none, .app 78 4 32, [.tmp 37, .tmp 40]⟩,
     ⟨(some 1), none, .mv, [.tmp 41]⟩] false)))
   (.rg [
     ⟨(some 42), none, .bin .add, [.tmp 33, .c (.t (.int .i64 1))]⟩,
     ⟨(some 33), none, .mv, [.tmp 42]⟩] false)))))))
  (.sq (.rg [
    ⟨(some 43), none, .mv, [.tmp 1]⟩,
    ⟨(some 44), none, .call 71, [.c (.t (.int .i64 2000)), .c (.t (.int .i64 2)), .c (.t (.int .i64 1)), .c (.t (.int .i64 0))]⟩,
    ⟨(some 45), none, .call 71, [.c (.t (.int .i64 2100)), .c (.t (.int .i64 2)), .c (.t (.int .i64 1)), .c (.t (.int .i64 2000))]⟩,
    ⟨(some 46), none, .bsl 4, [.tmp 44, .tmp 45]⟩,
    ⟨(some 47), none, .app 78 4 32, [.tmp 43, .tmp 46]⟩,
    ⟨(some 1), none, .mv, [.tmp 47]⟩] false)
  (.sq (.sq (.rg [
    ⟨(some 48), none, .bsl 1, [.c (.t (.int .i64 3000)), .c (.t (.int .i64 3100)), .c (.t (.int .i64 3200)), .c (.t (.int .i64 3300)), .c (.t (.int .i64 3400)), .c (.t (.int .i64 3500))]⟩,
    ⟨(some 49), none, .lenL, [.tmp 48]⟩,
    ⟨(some 50), none, .mv, [.c (.t (.int .i64 0))]⟩] false)
  (.bk 4 (.lp (.sq (.rg [
     ⟨(some 51), none, .bin .lss, [.tmp 50, .tmp 49]⟩] false)
   (.sq (.cd (.tmp 51)
    (.skip)
    (.ex 4))
   (.sq (.bk 5 (.sq (.rg [
     ⟨(some 52), none, .iaS 1, [.tmp 48, .tmp 50]⟩,
     ⟨(some 53), none, .load 1 false, [.tmp 52]⟩,
     ⟨(some 7), none, .mv, [.tmp 53]⟩] false)
   (.rg [
     ⟨(some 54), none, .mv, [.tmp 1]⟩,
     ⟨(some 55), none, .mv, [.tmp 7]⟩,
     ⟨(some 56), none, .call 71, [.tmp 55, .c (.t (.int .i64 3)), .c (.t (.int .i64 3)), .c (.t (.int .i64 0))]⟩,
     ⟨(some 57), none, .bsl 4, [.tmp 56]⟩,
     ⟨(some 58), none, .app 78 4 32, [.tmp 54, .tmp 57]⟩,
     ⟨(some 1), none, .mv, [.tmp 58]⟩] false)))
   (.rg [
     ⟨(some 59), none, .bin .add, [.tmp 50, .c (.t (.int .i64 1))]⟩,
     ⟨(some 50), none, .mv, [.tmp 59]⟩] false)))))))
  (.sq (.sq (.rg [
    ⟨(some 60), none, .build [.t (.int .i64 0), .t (.int .i64 0)] [(0, 1), (1, 1)], [.c (.t (.int .i64 4000)), .c (.t (.int .i64 0))]⟩,
    ⟨(some 61), none, .build [.t (.int .i64 0), .t (.int .i64 0)] [(0, 1), (1, 1)], [.c (.t (.int .i64 4100)), .c (.t (.int .i64 4000))]⟩,
    ⟨(some 62), none, .build [.t (.int .i64 0), .t (.int .i64 0)] [(0, 1), (1, 1)], [.c (.t (.int .i64 4500)), .c (.t (.int .i64 0))]⟩,
    ⟨(some 63), none, .build [.t (.int .i64 0), .t (.int .i64 0)] [(0, 1), (1, 1)], [.c (.t (.int .i64 4600)), .c (.t (.int .i64 0))]⟩,
    ⟨(some 64), none, .build [.t (.int .i64 0), .t (.int .i64 0)] [(0, 1), (1, 1)], [.c (.t (.int .i64 4700)), .c (.t (.int .i64 0))]⟩,
    ⟨(some 65), none, .bsl 2, [.tmp 60, .tmp 61, .tmp 62, .tmp 63, .tmp 64]⟩,
    ⟨(some 66), none, .lenL, [.tmp 65]⟩,
    ⟨(some 67), none, .mv, [.c (.t (.int .i64 0))]⟩] false)
  (.bk 6 (.lp (.sq (.rg [
     ⟨(some 68), none, .bin .lss, [.tmp 67, .tmp 66]⟩] false)
   (.sq (.cd (.tmp 68)
    (.skip)
    (.ex 6))
   (.sq (.bk 7 (.sq (.rg [
     ⟨(some 69), none, .iaS 2, [.tmp 65, .tmp 67]⟩,
     ⟨(some 70), none, .load 2 true, [.tmp 69]⟩,
     ⟨(some 9), none, .alloc [.t (.int .i64 0), .t (.int .i64 0)], []⟩,
     ⟨none, none, .store 2, [.tmp 9, .tmp 70]⟩] false)
   (.rg [
     ⟨(some 71), none, .mv, [.tmp 1]⟩,
     ⟨(some 72), none, .iaA 2 1, [.tmp 9, .c (.t (.int .i64 0))]⟩,
     ⟨(some 73), none, .load 1 false, [.tmp 72]⟩,
     ⟨(some 74), none, .iaA 2 1, [.tmp 9, .c (.t (.int .i64 1))]⟩,
     ⟨(some 75), none, .load 1 false, [.tmp 74]⟩,
     ⟨(some 76), none, .call 71, [.tmp 73, .c (.t (.int .i64 4)), .c (.t (.int .i64 2)), .tmp 75]⟩,
     ⟨(some 77), none, .bsl 4, [.tmp 76]⟩,
     ⟨(some 78), none, .app 78 4 32, [.tmp 71, .tmp 77]⟩,
     ⟨(some 1), none, .mv, [.tmp 78]⟩] false)))
   (.rg [
     ⟨(some 79), none, .bin .add, [.tmp 67, .c (.t (.int .i64 1))]⟩,
     ⟨(some 67), none, .mv, [.tmp 79]⟩] false)))))))
  (.sq (.sq (.rg [
    ⟨(some 80), none, .bsl 1, [.c (.t (.int .i64 5000)), .c (.t (.int .i64 5100)), .c (.t (.int .i64 5500)), .c (.t (.int .i64 5600)), .c (.t (.int .i64 5700))]⟩,
    ⟨(some 81), none, .lenL, [.tmp 80]⟩,
    ⟨(some 82), none, .mv, [.c (.t (.int .i64 0))]⟩] false)
  (.bk 8 (.lp (.sq (.rg [
     ⟨(some 83), none, .bin .lss, [.tmp 82, .tmp 81]⟩] false)
   (.sq (.cd (.tmp 83)
    (.skip)
    (.ex 8))
   (.sq (.bk 9 (.sq (.rg [
     ⟨(some 84), none, .iaS 1, [.tmp 80, .tmp 82]⟩,
     ⟨(some 85), none, .load 1 false, [.tmp 84]⟩,
     ⟨(some 11), none, .mv, [.tmp 85]⟩] false)
   (.rg [
     ⟨(some 86), none, .mv, [.tmp 1]⟩,
     ⟨(some 87), none, .mv, [.tmp 11]⟩,
     ⟨(some 88), none, .call 71, [.tmp 87, .c (.t (.int .i64 5)), .c (.t (.int .i64 2)), .c (.t (.int .i64 0))]⟩,
     ⟨(some 89), none, .bsl 4, [.tmp 88]⟩,
     ⟨(some 90), none, .app 78 4 32, [.tmp 86, .tmp 89]⟩,
     ⟨(some 1), none, .mv, [.tmp 90]⟩] false)))
   (.rg [
     ⟨(some 91), none, .bin .add, [.tmp 82, .c (.t (.int .i64 1))]⟩,
     ⟨(some 82), none, .mv, [.tmp 91]⟩] false)))))))
  (.sq (.rg [
    ⟨(some 92), none, .mv, [.tmp 1]⟩,
    ⟨(some 0), none, .mv, [.tmp 92]⟩] false)
  (.rt)))))))))
theorem k_51 : ecF Try.prog 51 = some (93, c_group_sampleChart_51, [.tm 0]) := by kernel_rfl

/-- tallystone/group.sampleEntity -/
def c_group_sampleEntity_52 : EC :=
  .sq (.rg [
    ⟨(some 6), none, .alloc [.t (.str []), .t (.str []), .snil, .snil, .t (.bool false)], []⟩] false)
  (.sq (.rg [
    ⟨(some 13), none, .mv, [.tmp 0]⟩,
    ⟨(some 14), none, .mv, [.tmp 1]⟩,
    ⟨(some 15), none, .mv, [.tmp 2]⟩,
    ⟨(some 16), none, .build [.t (.str []), .t (.str []), .snil, .snil, .t (.bool false)] [(0, 1), (1, 1), (4, 1)], [.tmp 13, .tmp 14, .tmp 15]⟩,
    ⟨(some 7), none, .alloc [.t (.str []), .t (.str []), .snil, .snil, .t (.bool false)], []⟩,
    ⟨none, none, .store 5, [.tmp 7, .tmp 16]⟩] false)
  (.sq (.rg [
    ⟨(some 17), none, .bsl 1, [.c (.t (.int .i64 1)), .c (.t (.int .i64 1)), .c (.t (.int .i64 1)), .c (.t (.int .i64 1)), .c (.t (.int .i64 1)), .c (.t (.int .i64 2)), .c (.t (.int .i64 2)), .c (.t (.int .i64 3)), .c (.t (.int .i64 3)), .c (.t (.int .i64 4)), .c (.t (.int .i64 4)), .c (.t (.int .i64 4)), .c (.t (.int .i64 5)), .c (.t (.int .i64 5))]⟩,
    ⟨(some 8), none, .mv, [.tmp 17]⟩] false)
  (.sq (.rg [
    ⟨(some 18), none, .bsl 1, [.c (.t (.int .i64 1010)), .c (.t (.int .i64 1100)), .c (.t (.int .i64 1200)), .c (.t (.int .i64 1300)), .c (.t (.int .i64 1500)), .c (.t (.int .i64 2000)), .c (.t (.int .i64 2100)), .c (.t (.int .i64 3000)), .c (.t (.int .i64 3300)), .c (.t (.int .i64 4000)), .c (.t (.int .i64 4100)), .c (.t (.int .i64 4700)), .c (.t (.int .i64 5000)), .c (.t (.int .i64 5100))]⟩,
    ⟨(some 9), none, .mv, [.tmp 18]⟩] false)
  (.sq (.sq (.rg [
    ⟨(some 19), none, .mv, [.tmp 8]⟩,
    ⟨(some 20), none, .lenL, [.tmp 19]⟩,
    ⟨(some 21), none, .mv, [.c (.t (.int .i64 0))]⟩] false)
  (.bk 0 (.lp (.sq (.rg [
     ⟨(some 22), none, .bin .lss, [.tmp 21, .tmp 20]⟩] false)
   (.sq (.cd (.tmp 22)
    (.skip)
    (.ex 0))
   (.sq (.bk 1 (.sq (.rg [
     ⟨(some 23), none, .mv, [.tmp 21]⟩,
     ⟨(some 24), none, .iaS 1, [.tmp 19, .tmp 21]⟩,
     ⟨(some 25), none, .load 1 false, [.tmp 24]⟩,
     ⟨(some 10), none, .mv, [.tmp 23]⟩,
     ⟨(some 11), none, .mv, [.tmp 25]⟩] false)
   (.sq (.rg [
     ⟨(some 26), none, .mv, [.tmp 10]⟩,
     ⟨(some 27), none, .bin .add, [.tmp 26, .c (.t (.int .i64 1))]⟩,
     ⟨(some 28), none, .bin .mul, [.c (.t (.int .i64 10)), .tmp 27]⟩,
     ⟨(some 12), none, .mv, [.tmp 28]⟩] false)
   (.sq (.rg [
     ⟨(some 29), none, .faddr 2, [.tmp 7]⟩,
     ⟨(some 30), none, .load 1 false, [.tmp 29]⟩,
     ⟨(some 31), none, .mv, [.tmp 12]⟩,
     ⟨(some 32), none, .mv, [.tmp 11]⟩,
     ⟨(some 33), none, .build [.t (.int .i64 0), .t (.int .i64 0), .t (.int .i64 0), .t (.int .i64 0)] [(0, 1), (1, 1)], [.tmp 31, .tmp 32]⟩,
     ⟨(some 34), none, .bsl 4, [.tmp 33]⟩,
     ⟨(some 35), none, .app 78 4 32, [.tmp 30, .tmp 34]⟩,
     ⟨(some 36), none, .faddr 2, [.tmp 7]⟩,
     ⟨none, none, .store 1, [.tmp 36, .tmp 35]⟩] false)
   (.rg [
     ⟨(some 37), none, .faddr 3, [.tmp 7]⟩,
     ⟨(some 38), none, .load 1 false, [.tmp 37]⟩,
     ⟨(some 39), none, .mv, [.tmp 12]⟩,
     ⟨(some 40), none, .mv, [.tmp 9]⟩,
     ⟨(some 41), none, .mv, [.tmp 10]⟩,
     ⟨(some 42), none, .iaS 1, [.tmp 40, .tmp 41]⟩,
     ⟨(some 43), none, .load 1 false, [.tmp 42]⟩,
     ⟨(some 44), none, .build [.t (.int .i64 0), .t (.int .i64 0), .t (.int .i64 0)] [(0, 1), (1, 1), (2, 1)], [.tmp 39, .tmp 43, .c (.t (.int .i64 (-25567)))]⟩,
     ⟨(some 45), none, .bsl 3, [.tmp 44]⟩,
     ⟨(some 46), none, .app 124 3 24, [.tmp 38, .tmp 45]⟩,
     ⟨(some 47), none, .faddr 3, [.tmp 7]⟩,
     ⟨none, none, .store 1, [.tmp 47, .tmp 46]⟩] true)))))
   (.rg [
     ⟨(some 48), none, .bin .add, [.tmp 21, .c (.t (.int .i64 1))]⟩,
     ⟨(some 21), none, .mv, [.tmp 48]⟩] false)))))))
  (.sq (.rg [
    ⟨(some 49), none, .load 5 true, [.tmp 7]⟩,
    ⟨none, none, .store 5, [.tmp 6, .tmp 49]⟩] false)
  (.rt))))))
theorem k_52 : ecF Try.prog 52 = some (50, c_group_sampleEntity_52, [.ce 6 5 true]) := by kernel_rfl

/-- tallystone/calendar.First -/
def c_calendar_First_54 : EC :=
  .sq (.rg [
    ⟨(some 2), none, .box, [.tmp 0]⟩,
    ⟨(some 4), none, .mv, [.c (.t (.int .i64 0))]⟩,
    ⟨(some 5), none, .mv, [.c (.t (.int .i64 0))]⟩] false)
  (.sq (.sq (.rg [
    ⟨(some 7), none, .load 3 true, [.tmp 2]⟩,
    ⟨(some 8), none, .mv, [.tmp 1]⟩,
    ⟨(some 9), none, .call 76, [.tmp 7, .tmp 8]⟩,
    ⟨(some 6), none, .mv, [.tmp 9]⟩] false)
  (.sq (.rg [
    ⟨(some 10), none, .mv, [.tmp 6]⟩,
    ⟨(some 11), none, .bin .neq, [.tmp 10, .c (.t (.int .i64 0))]⟩] false)
  (.cd (.tmp 11)
   (.sq (.rg [
     ⟨(some 12), none, .mv, [.tmp 6]⟩,
     ⟨(some 4), none, .mv, [.c (.t (.int .i64 0))]⟩,
     ⟨(some 5), none, .mv, [.tmp 12]⟩] false)
   (.rt))
   (.skip))))
  (.sq (.rg [
    ⟨(some 13), none, .load 3 true, [.tmp 2]⟩,
    ⟨(some 14), none, .mv, [.tmp 1]⟩,
    ⟨(some 15), none, .call 77, [.tmp 13, .tmp 14]⟩,
    ⟨(some 16), none, .ext 0, [.tmp 15]⟩,
    ⟨(some 17), none, .ext 1, [.tmp 15]⟩,
    ⟨(some 4), none, .mv, [.tmp 16]⟩,
    ⟨(some 5), none, .mv, [.tmp 17]⟩] false)
  (.rt)))
theorem k_54 : ecF Try.prog 54 = some (18, c_calendar_First_54, [.tm 4, .tm 5]) := by kernel_rfl

/-- tallystone/calendar.Last -/
def c_calendar_Last_55 : EC :=
  .sq (.rg [
    ⟨(some 2), none, .box, [.tmp 0]⟩,
    ⟨(some 4), none, .mv, [.c (.t (.int .i64 0))]⟩,
    ⟨(some 5), none, .mv, [.c (.t (.int .i64 0))]⟩] false)
  (.sq (.rg [
    ⟨(some 13), none, .load 3 true, [.tmp 2]⟩,
    ⟨(some 14), none, .mv, [.tmp 1]⟩,
    ⟨(some 15), none, .call 54, [.tmp 13, .tmp 14]⟩,
    ⟨(some 12), none, .mv, [.tmp 15]⟩,
    ⟨(some 16), none, .ext 0, [.tmp 12]⟩,
    ⟨(some 17), none, .ext 1, [.tmp 12]⟩,
    ⟨(some 6), none, .mv, [.tmp 16]⟩,
    ⟨(some 7), none, .mv, [.tmp 17]⟩] false)
  (.sq (.sq (.rg [
    ⟨(some 18), none, .mv, [.tmp 7]⟩,
    ⟨(some 19), none, .bin .neq, [.tmp 18, .c (.t (.int .i64 0))]⟩] false)
  (.cd (.tmp 19)
   (.sq (.rg [
     ⟨(some 20), none, .mv, [.tmp 7]⟩,
     ⟨(some 4), none, .mv, [.c (.t (.int .i64 0))]⟩,
     ⟨(some 5), none, .mv, [.tmp 20]⟩] false)
   (.rt))
   (.skip)))
  (.sq (.rg [
    ⟨(some 22), none, .mv, [.tmp 6]⟩,
    ⟨(some 23), none, .call 78, [.tmp 22]⟩,
    ⟨(some 21), none, .mv, [.tmp 23]⟩,
    ⟨(some 24), none, .ext 0, [.tmp 21]⟩,
    ⟨(some 25), none, .ext 1, [.tmp 21]⟩,
    ⟨(some 26), none, .ext 2, [.tmp 21]⟩,
    ⟨(some 27), none, .ext 3, [.tmp 21]⟩,
    ⟨(some 8), none, .mv, [.tmp 24]⟩,
    ⟨(some 9), none, .mv, [.tmp 25]⟩,
    ⟨(some 10), none, .mv, [.tmp 26]⟩,
    ⟨(some 11), none, .mv, [.tmp 27]⟩] false)
  (.sq (.rg [
    ⟨(some 28), none, .mv, [.tmp 6]⟩,
    ⟨(some 29), none, .mv, [.tmp 8]⟩,
    ⟨(some 30), none, .mv, [.tmp 9]⟩,
    ⟨(some 31), none, .call 79, [.tmp 29, .tmp 30]⟩,
    ⟨(some 32), none, .bin .add, [.tmp 28, .tmp 31]⟩,
    ⟨(some 33), none, .bin .sub, [.tmp 32, .c (.t (.int .i64 1))]⟩,
    ⟨(some 4), none, .mv, [.tmp 33]⟩,
    ⟨(some 5), none, .mv, [.c (.t (.int .i64 0))]⟩] false)
  (.rt)))))
theorem k_55 : ecF Try.prog 55 = some (34, c_calendar_Last_55, [.tm 4, .tm 5]) := by kernel_rfl

/-- slices.IndexFunc[[]tallystone/api.Account,tallystone/api.Account] -/
def c_api_Account__56 : EC :=
  .sq (.rg [
    ⟨(some 4), none, .mv, [.c (.t (.int .i64 0))]⟩] false)
  (.sq (.sq (.rg [
    ⟨(some 6), none, .mv, [.tmp 0]⟩,
    ⟨(some 7), none, .lenL, [.tmp 6]⟩,
    ⟨(some 8), none, .mv, [.c (.t (.int .i64 0))]⟩] false)
  (.bk 0 (.lp (.sq (.rg [
     ⟨(some 9), none, .bin .lss, [.tmp 8, .tmp 7]⟩] false)
   (.sq (.cd (.tmp 9)
    (.skip)
    (.ex 0))
   (.sq (.bk 1 (.sq (.rg [
     ⟨(some 10), none, .mv, [.tmp 8]⟩,
     ⟨(some 5), none, .mv, [.tmp 10]⟩] false)
   (.sq (.rg [
     ⟨(some 11), none, .mv, [.tmp 1]⟩,
     ⟨(some 12), none, .mv, [.tmp 0]⟩,
     ⟨(some 13), none, .mv, [.tmp 5]⟩,
     ⟨(some 14), none, .iaS 4, [.tmp 12, .tmp 13]⟩,
     ⟨(some 15), none, .load 4 true, [.tmp 14]⟩,
     ⟨(some 16), none, .callv, [.tmp 11, .tmp 15]⟩] false)
   (.cd (.tmp 16)
    (.sq (.rg [
      ⟨(some 17), none, .mv, [.tmp 5]⟩,
      ⟨(some 4), none, .mv, [.tmp 17]⟩] false)
    (.rt))
    (.skip)))))
   (.rg [
     ⟨(some 18), none, .bin .add, [.tmp 8, .c (.t (.int .i64 1))]⟩,
     ⟨(some 8), none, .mv, [.tmp 18]⟩] false)))))))
  (.sq (.rg [
    ⟨(some 4), none, .mv, [.c (.t (.int .i64 (-1)))]⟩] false)
  (.rt)))
theorem k_56 : ecF Try.prog 56 = some (19, c_api_Account__56, [.tm 4]) := by kernel_rfl

/-- tallystone/group.Account$1 -/
def c_group_AccountS1_57 : EC :=
  .sq (.rg [
    ⟨(some 2), none, .box, [.tmp 0]⟩,
    ⟨(some 3), none, .mv, [.c (.t (.bool false))]⟩] false)
  (.sq (.rg [
    ⟨(some 4), none, .faddr 0, [.tmp 2]⟩,
    ⟨(some 5), none, .load 1 false, [.tmp 4]⟩,
    ⟨(some 6), none, .load 1 false, [.tmp 1]⟩,
    ⟨(some 7), none, .bin .eql, [.tmp 5, .tmp 6]⟩,
    ⟨(some 3), none, .mv, [.tmp 7]⟩] false)
  (.rt))
theorem k_57 : ecF Try.prog 57 = some (8, c_group_AccountS1_57, [.tm 3]) := by kernel_rfl

/-- (tallystone/note.collector).parts -/
def c_note_collector__parts_58 : EC :=
  .sq (.rg [
    ⟨(some 4), none, .box, [.tmp 0]⟩,
    ⟨(some 5), none, .box, [.tmp 1]⟩] false)
  (.sq (.rg [
    ⟨(some 12), none, .faddr 2, [.tmp 5]⟩,
    ⟨(some 13), none, .load 1 false, [.tmp 12]⟩,
    ⟨(some 14), none, .lenL, [.tmp 13]⟩,
    ⟨(some 15), none, .mv, [.c (.t (.int .i64 0))]⟩] false)
  (.bk 0 (.lp (.sq (.rg [
     ⟨(some 16), none, .bin .lss, [.tmp 15, .tmp 14]⟩] false)
   (.sq (.cd (.tmp 16)
    (.skip)
    (.ex 0))
   (.sq (.bk 1 (.sq (.rg [
     ⟨(some 17), none, .iaS 5, [.tmp 13, .tmp 15]⟩,
     ⟨(some 18), none, .load 5 true, [.tmp 17]⟩,
     ⟨(some 9), none, .alloc [.t (.int .i64 0), .t (.int .i64 0), .t (.int .i64 0), .t (.int .i64 0), .snil], []⟩,
     ⟨none, none, .store 5, [.tmp 9, .tmp 18]⟩] false)
   (.sq (.rg [
     ⟨(some 19), none, .faddr 4, [.tmp 9]⟩,
     ⟨(some 20), none, .load 1 false, [.tmp 19]⟩,
     ⟨(some 21), none, .lenL, [.tmp 20]⟩,
     ⟨(some 22), none, .mv, [.c (.t (.int .i64 0))]⟩] false)
   (.bk 2 (.lp (.sq (.rg [
      ⟨(some 23), none, .bin .lss, [.tmp 22, .tmp 21]⟩] false)
    (.sq (.cd (.tmp 23)
     (.skip)
     (.ex 2))
    (.sq (.bk 3 (.sq (.rg [
      ⟨(some 24), none, .iaS 2, [.tmp 20, .tmp 22]⟩,
      ⟨(some 25), none, .load 2 true, [.tmp 24]⟩,
      ⟨(some 11), none, .alloc [.t (.int .i64 0), .t (.int .i64 0)], []⟩,
      ⟨none, none, .store 2, [.tmp 11, .tmp 25]⟩] false)
    (.sq (.sq (.rg [
      ⟨(some 26), none, .faddr 0, [.tmp 11]⟩,
      ⟨(some 27), none, .load 1 false, [.tmp 26]⟩,
      ⟨(some 28), none, .faddr 0, [.tmp 4]⟩,
      ⟨(some 29), none, .load 1 false, [.tmp 28]⟩,
      ⟨(some 30), none, .nilc, [.tmp 29]⟩,
      ⟨(some 31), none, .faddr 0, [.tmp 30]⟩,
      ⟨(some 32), none, .load 1 false, [.tmp 31]⟩,
      ⟨(some 33), none, .bin .neq, [.tmp 27, .tmp 32]⟩] true)
    (.cd (.tmp 33)
     (.ex 3)
     (.skip)))
    (.sq (.rg [
      ⟨(some 34), none, .mv, [.tmp 2]⟩,
      ⟨(some 35), none, .nilc, [.tmp 34]⟩,
      ⟨(some 36), none, .load 1 false, [.tmp 35]⟩,
      ⟨(some 37), none, .faddr 1, [.tmp 11]⟩,
      ⟨(some 38), none, .load 1 false, [.tmp 37]⟩,
      ⟨(some 39), none, .bin .add, [.tmp 36, .tmp 38]⟩,
      ⟨(some 40), none, .nilc, [.tmp 34]⟩,
      ⟨none, none, .store 1, [.tmp 40, .tmp 39]⟩] true)
    (.sq (.rg [
      ⟨(some 41), none, .faddr 0, [.tmp 9]⟩,
      ⟨(some 42), none, .load 1 false, [.tmp 41]⟩,
      ⟨(some 43), none, .bin .geq, [.tmp 42, .c (.t (.int .i64 1))]⟩,
      ⟨(some 44), none, .mv, [.tmp 43]⟩,
      ⟨(some 45), some (44, true), .faddr 0, [.tmp 9]⟩,
      ⟨(some 46), some (44, true), .load 1 false, [.tmp 45]⟩,
      ⟨(some 47), some (44, true), .bin .leq, [.tmp 46, .c (.t (.int .i64 10))]⟩,
      ⟨(some 48), none, .pick, [.tmp 44, .tmp 47, .c (.t (.bool false))]⟩] false)
    (.cd (.tmp 48)
     (.rg [
       ⟨(some 49), none, .faddr 0, [.tmp 4]⟩,
       ⟨(some 50), none, .load 1 false, [.tmp 49]⟩,
       ⟨(some 51), none, .faddr 0, [.tmp 9]⟩,
       ⟨(some 52), none, .load 1 false, [.tmp 51]⟩,
       ⟨(some 53), none, .nilc, [.tmp 50]⟩,
       ⟨(some 54), none, .faddr 5, [.tmp 53]⟩,
       ⟨(some 55), none, .iaA 11 1, [.tmp 54, .tmp 52]⟩,
       ⟨(some 56), none, .load 1 false, [.tmp 55]⟩,
       ⟨(some 57), none, .mv, [.tmp 3]⟩,
       ⟨(some 58), none, .faddr 1, [.tmp 11]⟩,
       ⟨(some 59), none, .load 1 false, [.tmp 58]⟩,
       ⟨(some 60), none, .bin .mul, [.tmp 57, .tmp 59]⟩,
       ⟨(some 61), none, .bin .add, [.tmp 56, .tmp 60]⟩,
       ⟨(some 62), none, .nilc, [.tmp 50]⟩,
       ⟨(some 63), none, .faddr 5, [.tmp 62]⟩,
       ⟨(some 64), none, .iaA 11 1, [.tmp 63, .tmp 52]⟩,
       ⟨none, none, .store 1, [.tmp 64, .tmp 61]⟩] true)
     (.skip)))))))
    (.rg [
      ⟨(some 65), none, .bin .add, [.tmp 22, .c (.t (.int .i64 1))]⟩,
      ⟨(some 22), none, .mv, [.tmp 65]⟩] false)))))))))
   (.rg [
     ⟨(some 66), none, .bin .add, [.tmp 15, .c (.t (.int .i64 1))]⟩,
     ⟨(some 15), none, .mv, [.tmp 66]⟩] false)))))))
theorem k_58 : ecF Try.prog 58 = some (67, c_note_collector__parts_58, []) := by kernel_rfl

/-- slices.IndexFunc[[]int,int] -/
def c_slices_IndexFunc___int_int__59 : EC :=
  .sq (.rg [
    ⟨(some 4), none, .mv, [.c (.t (.int .i64 0))]⟩] false)
  (.sq (.sq (.rg [
    ⟨(some 6), none, .mv, [.tmp 0]⟩,
    ⟨(some 7), none, .lenL, [.tmp 6]⟩,
    ⟨(some 8), none, .mv, [.c (.t (.int .i64 0))]⟩] false)
  (.bk 0 (.lp (.sq (.rg [
     ⟨(some 9), none, .bin .lss, [.tmp 8, .tmp 7]⟩] false)
   (.sq (.cd (.tmp 9)
    (.skip)
    (.ex 0))
   (.sq (.bk 1 (.sq (.rg [
     ⟨(some 10), none, .mv, [.tmp 8]⟩,
     ⟨(some 5), none, .mv, [.tmp 10]⟩] false)
   (.sq (.rg [
     ⟨(some 11), none, .mv, [.tmp 1]⟩,
     ⟨(some 12), none, .mv, [.tmp 0]⟩,
     ⟨(some 13), none, .mv, [.tmp 5]⟩,
     ⟨(some 14), none, .iaS 1, [.tmp 12, .tmp 13]⟩,
     ⟨(some 15), none, .load 1 false, [.tmp 14]⟩,
     ⟨(some 16), none, .callv, [.tmp 11, .tmp 15]⟩] false)
   (.cd (.tmp 16)
    (.sq (.rg [
      ⟨(some 17), none, .mv, [.tmp 5]⟩,
      ⟨(some 4), none, .mv, [.tmp 17]⟩] false)
    (.rt))
    (.skip)))))
   (.rg [
     ⟨(some 18), none, .bin .add, [.tmp 8, .c (.t (.int .i64 1))]⟩,
     ⟨(some 8), none, .mv, [.tmp 18]⟩] false)))))))
  (.sq (.rg [
    ⟨(some 4), none, .mv, [.c (.t (.int .i64 (-1)))]⟩] false)
  (.rt)))
theorem k_59 : ecF Try.prog 59 = some (19, c_slices_IndexFunc___int_int__59, [.tm 4]) := by kernel_rfl

/-- tallystone/tallystoneref10.Currency -/
def c_tallystoneref10_Currency_60 : EC :=
  .sq (.rg [
    ⟨(some 2), none, .mv, [.c (.t (.bool false))]⟩] false)
  (.sq (.sq (.rg [
    ⟨(some 3), none, .mv, [.c (.t (.int .i64 0))]⟩] false)
  (.bk 0 (.lp (.sq (.sq (.rg [
     ⟨(some 4), none, .mv, [.tmp 3]⟩,
     ⟨(some 5), none, .mv, [.tmp 0]⟩,
     ⟨(some 6), none, .lenS, [.tmp 5]⟩,
     ⟨(some 7), none, .bin .lss, [.tmp 4, .tmp 6]⟩] false)
   (.cd (.tmp 7)
    (.skip)
    (.ex 0)))
   (.sq (.bk 1 (.sq (.rg [
     ⟨(some 10), none, .mv, [.tmp 0]⟩,
     ⟨(some 11), none, .mv, [.tmp 3]⟩,
     ⟨(some 12), none, .ixS, [.tmp 10, .tmp 11]⟩,
     ⟨(some 13), none, .bin .lss, [.tmp 12, .c (.t (.int .u8 65))]⟩,
     ⟨(some 14), none, .mv, [.tmp 13]⟩,
     ⟨(some 15), some (14, false), .mv, [.tmp 0]⟩,
     ⟨(some 16), some (14, false), .mv, [.tmp 3]⟩,
     ⟨(some 17), some (14, false), .ixS, [.tmp 15, .tmp 16]⟩,
     ⟨(some 18), some (14, false), .bin .gtr, [.tmp 17, .c (.t (.int .u8 90))]⟩,
     ⟨(some 19), none, .pick, [.tmp 14, .c (.t (.bool true)), .tmp 18]⟩] false)
   (.cd (.tmp 19)
    (.sq (.rg [
      ⟨(some 2), none, .mv, [.c (.t (.bool false))]⟩] false)
    (.rt))
    (.skip))))
   (.rg [
     ⟨(some 8), none, .mv, [.tmp 3]⟩,
     ⟨(some 9), none, .bin .add, [.tmp 8, .c (.t (.int .i64 1))]⟩,
     ⟨(some 3), none, .mv, [.tmp 9]⟩] false))))))
  (.sq (.rg [
    ⟨(some 20), none, .mv, [.tmp 0]⟩,
    ⟨(some 21), none, .lenS, [.tmp 20]⟩,
    ⟨(some 22), none, .bin .eql, [.tmp 21, .c (.t (.int .i64 3))]⟩,
    ⟨(some 2), none, .mv, [.tmp 22]⟩] false)
  (.rt)))
theorem k_60 : ecF Try.prog 60 = some (23, c_tallystoneref10_Currency_60, [.tm 2]) := by kernel_rfl

/-- tallystone/tallystoneref07.Valid -/
def c_tallystoneref07_Valid_61 : EC :=
  .sq (.rg [
    ⟨(some 1), none, .box, [.tmp 0]⟩,
    ⟨(some 2), none, .mv, [.c (.t (.bool false))]⟩] false)
  (.sq (.sq (.rg [
    ⟨(some 5), none, .faddr 2, [.tmp 1]⟩,
    ⟨(some 6), none, .load 1 false, [.tmp 5]⟩,
    ⟨(some 7), none, .bin .lss, [.tmp 6, .c (.t (.int .i64 1))]⟩,
    ⟨(some 8), none, .mv, [.tmp 7]⟩,
    ⟨(some 9), some (8, false), .faddr 2, [.tmp 1]⟩,
    ⟨(some 10), some (8, false), .load 1 false, [.tmp 9]⟩,
    ⟨(some 11), some (8, false), .bin .gtr, [.tmp 10, .c (.t (.int .i64 120))]⟩,
    ⟨(some 12), none, .pick, [.tmp 8, .c (.t (.bool true)), .tmp 11]⟩] false)
  (.cd (.tmp 12)
   (.sq (.rg [
     ⟨(some 2), none, .mv, [.c (.t (.bool false))]⟩] false)
   (.rt))
   (.skip)))
  (.sq (.rg [
    ⟨(some 14), none, .load 3 true, [.tmp 1]⟩,
    ⟨(some 15), none, .faddr 2, [.tmp 1]⟩,
    ⟨(some 16), none, .load 1 false, [.tmp 15]⟩,
    ⟨(some 17), none, .bin .sub, [.tmp 16, .c (.t (.int .i64 1))]⟩,
    ⟨(some 18), none, .call 46, [.tmp 14, .tmp 17]⟩,
    ⟨(some 13), none, .mv, [.tmp 18]⟩,
    ⟨(some 19), none, .ext 0, [.tmp 13]⟩,
    ⟨(some 20), none, .ext 1, [.tmp 13]⟩,
    ⟨(some 3), none, .mv, [.tmp 19]⟩,
    ⟨(some 4), none, .mv, [.tmp 20]⟩] false)
  (.sq (.rg [
    ⟨(some 21), none, .mv, [.tmp 4]⟩,
    ⟨(some 22), none, .bin .eql, [.tmp 21, .c (.t (.int .i64 0))]⟩,
    ⟨(some 2), none, .mv, [.tmp 22]⟩] false)
  (.rt))))
theorem k_61 : ecF Try.prog 61 = some (23, c_tallystoneref07_Valid_61, [.tm 2]) := by kernel_rfl

/-- tallystone/tallystoneref08.Valid -/
def c_tallystoneref08_Valid_62 : EC :=
  .sq (.rg [
    ⟨(some 4), none, .mv, [.c (.t (.bool false))]⟩] false)
  (.sq (.sq (.rg [
    ⟨(some 6), none, .mv, [.tmp 0]⟩,
    ⟨(some 7), none, .lenL, [.tmp 6]⟩,
    ⟨(some 8), none, .bin .gtr, [.tmp 7, .c (.t (.int .i64 200))]⟩] false)
  (.cd (.tmp 8)
   (.sq (.rg [
     ⟨(some 4), none, .mv, [.c (.t (.bool false))]⟩] false)
   (.rt))
   (.skip)))
  (.sq (.sq (.rg [
    ⟨(some 5), none, .mv, [.c (.t (.int .i64 0))]⟩] false)
  (.bk 0 (.lp (.sq (.sq (.rg [
     ⟨(some 9), none, .mv, [.tmp 5]⟩,
     ⟨(some 10), none, .mv, [.tmp 0]⟩,
     ⟨(some 11), none, .lenL, [.tmp 10]⟩,
     ⟨(some 12), none, .bin .lss, [.tmp 9, .tmp 11]⟩] false)
   (.cd (.tmp 12)
    (.skip)
    (.ex 0)))
   (.sq (.bk 1 (.sq (.rg [
     ⟨(some 15), none, .mv, [.tmp 0]⟩,
     ⟨(some 16), none, .mv, [.tmp 0]⟩,
     ⟨(some 17), none, .mv, [.tmp 5]⟩,
     ⟨(some 18), none, .iaS 4, [.tmp 16, .tmp 17]⟩,
     ⟨(some 19), none, .load 4 true, [.tmp 18]⟩,
     ⟨(some 20), none, .mv, [.tmp 1]⟩,
     ⟨(some 21), none, .call 80, [.tmp 15, .tmp 19, .tmp 20]⟩,
     ⟨(some 22), none, .un .not, [.tmp 21]⟩,
     ⟨(some 23), none, .mv, [.tmp 22]⟩,
     ⟨(some 24), some (23, false), .mv, [.tmp 5]⟩,
     ⟨(some 25), some (23, false), .bin .gtr, [.tmp 24, .c (.t (.int .i64 0))]⟩,
     ⟨(some 26), some (23, false), .mv, [.tmp 25]⟩,
     ⟨(some 27), some (26, true), .mv, [.tmp 0]⟩,
     ⟨(some 28), some (26, true), .mv, [.tmp 5]⟩,
     ⟨(some 29), some (26, true), .iaS 4, [.tmp 27, .tmp 28]⟩,
     ⟨(some 30), some (26, true), .faddr 0, [.tmp 29]⟩,
     ⟨(some 31), some (26, true), .load 1 false, [.tmp 30]⟩,
     ⟨(some 32), some (26, true), .mv, [.tmp 0]⟩,
     ⟨(some 33), some (26, true), .mv, [.tmp 5]⟩,
     ⟨(some 34), some (26, true), .bin .sub, [.tmp 33, .c (.t (.int .i64 1))]⟩,
     ⟨(some 35), some (26, true), .iaS 4, [.tmp 32, .tmp 34]⟩,
     ⟨(some 36), some (26, true), .faddr 0, [.tmp 35]⟩,
     ⟨(some 37), some (26, true), .load 1 false, [.tmp 36]⟩,
     ⟨(some 38), some (26, true), .bin .leq, [.tmp 31, .tmp 37]⟩,
     ⟨(some 39), some (23, false), .pick, [.tmp 26, .tmp 38, .c (.t (.bool false))]⟩,
     ⟨(some 40), none, .pick, [.tmp 23, .c (.t (.bool true)), .tmp 39]⟩,
     ⟨(some 41), none, .mv, [.tmp 40]⟩,
     ⟨(some 42), some (41, false), .mv, [.tmp 0]⟩,
     ⟨(some 43), some (41, false), .mv, [.tmp 0]⟩,
     ⟨(some 44), some (41, false), .mv, [.tmp 5]⟩,
     ⟨(some 45), some (41, false), .iaS 4, [.tmp 43, .tmp 44]⟩,
     ⟨(some 46), some (41, false), .faddr 0, [.tmp 45]⟩,
     ⟨(some 47), some (41, false), .load 1 false, [.tmp 46]⟩,
     ⟨(some 48), some (41, false), .call 81, [.tmp 42, .tmp 47]⟩,
     ⟨(some 49), some (41, false), .lenL, [.tmp 48]⟩,
     ⟨(some 50), some (41, false), .mv, [.tmp 0]⟩,
     ⟨(some 51), some (41, false), .lenL, [.tmp 50]⟩,
     ⟨(some 52), some (41, false), .bin .gtr, [.tmp 49, .tmp 51]⟩,
     ⟨(some 53), none, .pick, [.tmp 41, .c (.t (.bool true)), .tmp 52]⟩] true)
   (.cd (.tmp 53)
    (.sq (.rg [
      ⟨(some 4), none, .mv, [.c (.t (.bool false))]⟩] false)
    (.rt))
    (.skip))))
   (.rg [
     ⟨(some 13), none, .mv, [.tmp 5]⟩,
     ⟨(some 14), none, .bin .add, [.tmp 13, .c (.t (.int .i64 1))]⟩,
     ⟨(some 5), none, .mv, [.tmp 14]⟩] false))))))
  (.sq (.rg [
    ⟨(some 4), none, .mv, [.c (.t (.bool true))]⟩] false)
  (.rt))))
theorem k_62 : ecF Try.prog 62 = some (54, c_tallystoneref08_Valid_62, [.tm 4]) := by kernel_rfl

/-- tallystone/tallystoneref10.basis -/
def c_tallystoneref10_basis_63 : EC :=
  .sq (.rg [
    ⟨(some 1), none, .box, [.tmp 0]⟩,
    ⟨(some 2), none, .mv, [.c (.t (.bool false))]⟩] false)
  (.sq (.sq (.rg [
    ⟨(some 3), none, .faddr 1, [.tmp 1]⟩,
    ⟨(some 4), none, .load 1 false, [.tmp 3]⟩] false)
  (.bk 0 (.sq (.sq (.rg [
    ⟨(some 6), none, .bin .eql, [.tmp 4, .c (.t (.int .i64 1))]⟩,
    ⟨(some 5), none, .mv, [.tmp 6]⟩] false)
  (.cd (.tmp 5)
   (.skip)
   (.rg [
     ⟨(some 7), none, .bin .eql, [.tmp 4, .c (.t (.int .i64 2))]⟩,
     ⟨(some 5), none, .mv, [.tmp 7]⟩] false)))
  (.cd (.tmp 5)
   (.sq (.rg [
     ⟨(some 8), none, .faddr 2, [.tmp 1]⟩,
     ⟨(some 9), none, .load 1 false, [.tmp 8]⟩,
     ⟨(some 10), none, .bin .eql, [.tmp 9, .c (.t (.int .i64 1))]⟩,
     ⟨(some 11), none, .mv, [.tmp 10]⟩,
     ⟨(some 12), some (11, false), .faddr 2, [.tmp 1]⟩,
     ⟨(some 13), some (11, false), .load 1 false, [.tmp 12]⟩,
     ⟨(some 14), some (11, false), .bin .eql, [.tmp 13, .c (.t (.int .i64 3))]⟩,
     ⟨(some 15), none, .pick, [.tmp 11, .c (.t (.bool true)), .tmp 14]⟩,
     ⟨(some 2), none, .mv, [.tmp 15]⟩] false)
   (.rt))
   (.sq (.rg [
     ⟨(some 17), none, .bin .eql, [.tmp 4, .c (.t (.int .i64 3))]⟩,
     ⟨(some 16), none, .mv, [.tmp 17]⟩] false)
   (.cd (.tmp 16)
    (.sq (.rg [
      ⟨(some 18), none, .faddr 2, [.tmp 1]⟩,
      ⟨(some 19), none, .load 1 false, [.tmp 18]⟩,
      ⟨(some 20), none, .bin .eql, [.tmp 19, .c (.t (.int .i64 3))]⟩,
      ⟨(some 2), none, .mv, [.tmp 20]⟩] false)
    (.rt))
    (.skip)))))))
  (.sq (.rg [
    ⟨(some 21), none, .faddr 2, [.tmp 1]⟩,
    ⟨(some 22), none, .load 1 false, [.tmp 21]⟩,
    ⟨(some 23), none, .bin .eql, [.tmp 22, .c (.t (.int .i64 2))]⟩,
    ⟨(some 2), none, .mv, [.tmp 23]⟩] false)
  (.rt)))
theorem k_63 : ecF Try.prog 63 = some (24, c_tallystoneref10_basis_63, [.tm 2]) := by kernel_rfl

/-- tallystone/tallystoneref10.Roles -/
def c_tallystoneref10_Roles_64 : EC :=
  .sq (.rg [
    ⟨(some 1), none, .box, [.tmp 0]⟩,
    ⟨(some 2), none, .mv, [.c (.snil)]⟩] false)
  (.sq (.rg [
    ⟨(some 3), none, .faddr 0, [.tmp 1]⟩,
    ⟨(some 4), none, .load 1 false, [.tmp 3]⟩,
    ⟨(some 5), none, .build [.t (.str []), .t (.int .i64 0), .t (.int .i64 0), .t (.int .i64 0), .t (.bool false)] [(0, 1), (1, 1), (2, 1), (3, 1), (4, 1)], [.c (.t (.str [105, 110, 118, 101, 115, 116, 109, 101, 110, 116])), .tmp 4, .c (.t (.int .i64 1)), .c (.t (.int .i64 3)), .c (.t (.bool true))]⟩,
    ⟨(some 6), none, .faddr 1, [.tmp 1]⟩,
    ⟨(some 7), none, .load 1 false, [.tmp 6]⟩,
    ⟨(some 8), none, .build [.t (.str []), .t (.int .i64 0), .t (.int .i64 0), .t (.int .i64 0), .t (.bool false)] [(0, 1), (1, 1), (2, 1), (3, 1), (4, 1)], [.c (.t (.str [103, 111, 111, 100, 119, 105, 108, 108])), .tmp 7, .c (.t (.int .i64 1)), .c (.t (.int .i64 3)), .c (.t (.bool false))]⟩,
    ⟨(some 9), none, .faddr 2, [.tmp 1]⟩,
    ⟨(some 10), none, .load 1 false, [.tmp 9]⟩,
    ⟨(some 11), none, .build [.t (.str []), .t (.int .i64 0), .t (.int .i64 0), .t (.int .i64 0), .t (.bool false)] [(0, 1), (1, 1), (2, 1), (3, 1), (4, 1)], [.c (.t (.str [97, 115, 115, 111, 99, 105, 97, 116, 101, 115])), .tmp 10, .c (.t (.int .i64 1)), .c (.t (.int .i64 3)), .c (.t (.bool false))]⟩,
    ⟨(some 12), none, .faddr 3, [.tmp 1]⟩,
    ⟨(some 13), none, .load 1 false, [.tmp 12]⟩,
    ⟨(some 14), none, .build [.t (.str []), .t (.int .i64 0), .t (.int .i64 0), .t (.int .i64 0), .t (.bool false)] [(0, 1), (1, 1), (2, 1), (3, 1), (4, 1)], [.c (.t (.str [105, 110, 118, 101, 110, 116, 111, 114, 121])), .tmp 13, .c (.t (.int .i64 1)), .c (.t (.int .i64 1)), .c (.t (.bool true))]⟩,
    ⟨(some 15), none, .faddr 4, [.tmp 1]⟩,
    ⟨(some 16), none, .load 1 false, [.tmp 15]⟩,
    ⟨(some 17), none, .build [.t (.str []), .t (.int .i64 0), .t (.int .i64 0), .t (.int .i64 0), .t (.bool false)] [(0, 1), (1, 1), (2, 1), (3, 1), (4, 1)], [.c (.t (.str [114, 101, 115, 101, 114, 118, 101])), .tmp 16, .c (.t (.int .i64 3)), .c (.t (.int .i64 3)), .c (.t (.bool false))]⟩,
    ⟨(some 18), none, .faddr 5, [.tmp 1]⟩,
    ⟨(some 19), none, .load 1 false, [.tmp 18]⟩,
    ⟨(some 20), none, .build [.t (.str []), .t (.int .i64 0), .t (.int .i64 0), .t (.int .i64 0), .t (.bool false)] [(0, 1), (1, 1), (2, 1), (3, 1), (4, 1)], [.c (.t (.str [109, 105, 110, 111, 114, 105, 116, 121])), .tmp 19, .c (.t (.int .i64 3)), .c (.t (.int .i64 3)), .c (.t (.bool false))]⟩,
    ⟨(some 21), none, .faddr 6, [.tmp 1]⟩,
    ⟨(some 22), none, .load 1 false, [.tmp 21]⟩,
    ⟨(some 23), none, .build [.t (.str []), .t (.int .i64 0), .t (.int .i64 0), .t (.int .i64 0), .t (.bool false)] [(0, 1), (1, 1), (2, 1), (3, 1), (4, 1)], [.c (.t (.str [114, 101, 116, 97, 105, 110, 101, 100])), .tmp 22, .c (.t (.int .i64 3)), .c (.t (.int .i64 3)), .c (.t (.bool true))]⟩,
    ⟨(some 24), none, .faddr 7, [.tmp 1]⟩,
    ⟨(some 25), none, .load 1 false, [.tmp 24]⟩,
    ⟨(some 26), none, .build [.t (.str []), .t (.int .i64 0), .t (.int .i64 0), .t (.int .i64 0), .t (.bool false)] [(0, 1), (1, 1), (2, 1), (3, 1), (4, 1)], [.c (.t (.str [97, 99, 113, 117, 105, 114, 101, 100])), .tmp 25, .c (.t (.int .i64 3)), .c (.t (.int .i64 3)), .c (.t (.bool false))]⟩,
    ⟨(some 27), none, .faddr 8, [.tmp 1]⟩,
    ⟨(some 28), none, .load 1 false, [.tmp 27]⟩,
    ⟨(some 29), none, .build [.t (.str []), .t (.int .i64 0), .t (.int .i64 0), .t (.int .i64 0), .t (.bool false)] [(0, 1), (1, 1), (2, 1), (3, 1), (4, 1)], [.c (.t (.str [111, 119, 110, 101, 114, 115])), .tmp 28, .c (.t (.int .i64 3)), .c (.t (.int .i64 3)), .c (.t (.bool false))]⟩,
    ⟨(some 30), none, .faddr 9, [.tmp 1]⟩,
    ⟨(some 31), none, .load 1 false, [.tmp 30]⟩,
    ⟨(some 32), none, .build [.t (.str []), .t (.int .i64 0), .t (.int .i64 0), .t (.int .i64 0), .t (.bool false)] [(0, 1), (1, 1), (2, 1), (3, 1), (4, 1)], [.c (.t (.str [100, 105, 115, 112, 111, 115, 97, 108])), .tmp 31, .c (.t (.int .i64 4)), .c (.t (.int .i64 2)), .c (.t (.bool false))]⟩,
    ⟨(some 33), none, .faddr 10, [.tmp 1]⟩,
    ⟨(some 34), none, .load 1 false, [.tmp 33]⟩,
    ⟨(some 35), none, .build [.t (.str []), .t (.int .i64 0), .t (.int .i64 0), .t (.int .i64 0), .t (.bool false)] [(0, 1), (1, 1), (2, 1), (3, 1), (4, 1)], [.c (.t (.str [97, 115, 115, 111, 99, 105, 97, 116, 101, 80, 114, 111, 102, 105, 116])), .tmp 34, .c (.t (.int .i64 4)), .c (.t (.int .i64 2)), .c (.t (.bool false))]⟩,
    ⟨(some 36), none, .faddr 11, [.tmp 1]⟩,
    ⟨(some 37), none, .load 1 false, [.tmp 36]⟩,
    ⟨(some 38), none, .build [.t (.str []), .t (.int .i64 0), .t (.int .i64 0), .t (.int .i64 0), .t (.bool false)] [(0, 1), (1, 1), (2, 1), (3, 1), (4, 1)], [.c (.t (.str [100, 105, 118, 105, 100, 101, 110, 100, 115])), .tmp 37, .c (.t (.int .i64 4)), .c (.t (.int .i64 2)), .c (.t (.bool true))]⟩,
    ⟨(some 39), none, .faddr 12, [.tmp 1]⟩,
    ⟨(some 40), none, .load 1 false, [.tmp 39]⟩,
    ⟨(some 41), none, .build [.t (.str []), .t (.int .i64 0), .t (.int .i64 0), .t (.int .i64 0), .t (.bool false)] [(0, 1), (1, 1), (2, 1), (3, 1), (4, 1)], [.c (.t (.str [109, 105, 110, 111, 114, 105, 116, 121, 80, 114, 111, 102, 105, 116])), .tmp 40, .c (.t (.int .i64 5)), .c (.t (.int .i64 2)), .c (.t (.bool false))]⟩,
    ⟨(some 42), none, .faddr 13, [.tmp 1]⟩,
    ⟨(some 43), none, .load 1 false, [.tmp 42]⟩,
    ⟨(some 44), none, .build [.t (.str []), .t (.int .i64 0), .t (.int .i64 0), .t (.int .i64 0), .t (.bool false)] [(0, 1), (1, 1), (2, 1), (3, 1), (4, 1)], [.c (.t (.str [100, 105, 102, 102, 101, 114, 101, 110, 99, 101])), .tmp 43, .c (.t (.int .i64 5)), .c (.t (.int .i64 2)), .c (.t (.bool false))]⟩,
    ⟨(some 45), none, .faddr 14, [.tmp 1]⟩,
    ⟨(some 46), none, .load 1 false, [.tmp 45]⟩,
    ⟨(some 47), none, .build [.t (.str []), .t (.int .i64 0), .t (.int .i64 0), .t (.int .i64 0), .t (.bool false)] [(0, 1), (1, 1), (2, 1), (3, 1), (4, 1)], [.c (.t (.str [109, 97, 114, 103, 105, 110])), .tmp 46, .c (.t (.int .i64 5)), .c (.t (.int .i64 2)), .c (.t (.bool false))]⟩,
    ⟨(some 48), none, .bsl 5, [.tmp 5, .tmp 8, .tmp 11, .tmp 14, .tmp 17, .tmp 20, .tmp 23, .tmp 26, .tmp 29, .tmp 32, .tmp 35, .tmp 38, .tmp 41, .tmp 44, .tmp 47]⟩,
    ⟨(some 2), none, .mv, [.tmp 48]⟩] false)
  (.rt))
theorem k_64 : ecF Try.prog 64 = some (49, c_tallystoneref10_Roles_64, [.tm 2]) := by kernel_rfl

/-- tallystone/tallystoneref10.Name -/
def c_tallystoneref10_Name_65 : EC :=
  .sq (.rg [
    ⟨(some 2), none, .mv, [.c (.t (.bool false))]⟩] false)
  (.sq (.sq (.rg [
    ⟨(some 3), none, .mv, [.c (.t (.int .i64 0))]⟩] false)
  (.bk 0 (.lp (.sq (.sq (.rg [
     ⟨(some 4), none, .mv, [.tmp 3]⟩,
     ⟨(some 5), none, .mv, [.tmp 0]⟩,
     ⟨(some 6), none, .lenS, [.tmp 5]⟩,
     ⟨(some 7), none, .bin .lss, [.tmp 4, .tmp 6]⟩] false)
   (.cd (.tmp 7)
    (.skip)
    (.ex 0)))
   (.sq (.bk 1 (.sq (.rg [
     ⟨(some 10), none, .mv, [.tmp 0]⟩,
     ⟨(some 11), none, .mv, [.tmp 3]⟩,
     ⟨(some 12), none, .ixS, [.tmp 10, .tmp 11]⟩,
     ⟨(some 13), none, .call 82, [.tmp 12]⟩,
     ⟨(some 14), none, .un .not, [.tmp 13]⟩,
     ⟨(some 15), none, .mv, [.tmp 14]⟩,
     ⟨(some 16), some (15, true), .mv, [.tmp 3]⟩,
     ⟨(some 17), some (15, true), .bin .eql, [.tmp 16, .c (.t (.int .i64 0))]⟩,
     ⟨(some 18), some (15, true), .mv, [.tmp 17]⟩,
     ⟨(some 19), some (18, false), .mv, [.tmp 0]⟩,
     ⟨(some 20), some (18, false), .mv, [.tmp 3]⟩,
     ⟨(some 21), some (18, false), .ixS, [.tmp 19, .tmp 20]⟩,
     ⟨(some 22), some (18, false), .bin .neq, [.tmp 21, .c (.t (.int .u8 45))]⟩,
     ⟨(some 23), some (18, false), .mv, [.tmp 22]⟩,
     ⟨(some 24), some (23, true), .mv, [.tmp 0]⟩,
     ⟨(some 25), some (23, true), .mv, [.tmp 3]⟩,
     ⟨(some 26), some (23, true), .ixS, [.tmp 24, .tmp 25]⟩,
     ⟨(some 27), some (23, true), .bin .lss, [.tmp 26, .c (.t (.int .u8 48))]⟩,
     ⟨(some 28), some (23, true), .mv, [.tmp 27]⟩,
     ⟨(some 29), some (28, false), .mv, [.tmp 0]⟩,
     ⟨(some 30), some (28, false), .mv, [.tmp 3]⟩,
     ⟨(some 31), some (28, false), .ixS, [.tmp 29, .tmp 30]⟩,
     ⟨(some 32), some (28, false), .bin .gtr, [.tmp 31, .c (.t (.int .u8 57))]⟩,
     ⟨(some 33), some (23, true), .pick, [.tmp 28, .c (.t (.bool true)), .tmp 32]⟩,
     ⟨(some 34), some (18, false), .pick, [.tmp 23, .tmp 33, .c (.t (.bool false))]⟩,
     ⟨(some 35), some (15, true), .pick, [.tmp 18, .c (.t (.bool true)), .tmp 34]⟩,
     ⟨(some 36), none, .pick, [.tmp 15, .tmp 35, .c (.t (.bool false))]⟩] false)
   (.cd (.tmp 36)
    (.sq (.rg [
      ⟨(some 2), none, .mv, [.c (.t (.bool false))]⟩] false)
    (.rt))
    (.skip))))
   (.rg [
     ⟨(some 8), none, .mv, [.tmp 3]⟩,
     ⟨(some 9), none, .bin .add, [.tmp 8, .c (.t (.int .i64 1))]⟩,
     ⟨(some 3), none, .mv, [.tmp 9]⟩] false))))))
  (.sq (.rg [
    ⟨(some 37), none, .mv, [.tmp 0]⟩,
    ⟨(some 38), none, .lenS, [.tmp 37]⟩,
    ⟨(some 39), none, .bin .geq, [.tmp 38, .c (.t (.int .i64 1))]⟩,
    ⟨(some 40), none, .mv, [.tmp 39]⟩,
    ⟨(some 41), some (40, true), .mv, [.tmp 0]⟩,
    ⟨(some 42), some (40, true), .lenS, [.tmp 41]⟩,
    ⟨(some 43), some (40, true), .bin .leq, [.tmp 42, .c (.t (.int .i64 16))]⟩,
    ⟨(some 44), none, .pick, [.tmp 40, .tmp 43, .c (.t (.bool false))]⟩,
    ⟨(some 2), none, .mv, [.tmp 44]⟩] false)
  (.rt)))
theorem k_65 : ecF Try.prog 65 = some (45, c_tallystoneref10_Name_65, [.tm 2]) := by kernel_rfl

/-- tallystone/tallystoneref09.Valid -/
def c_tallystoneref09_Valid_66 : EC :=
  .sq (.rg [
    ⟨(some 2), none, .box, [.tmp 0]⟩,
    ⟨(some 4), none, .mv, [.c (.t (.bool false))]⟩] false)
  (.sq (.sq (.rg [
    ⟨(some 12), none, .mv, [.tmp 1]⟩,
    ⟨(some 13), none, .call 62, [.tmp 12, .c (.t (.bool true))]⟩,
    ⟨(some 14), none, .un .not, [.tmp 13]⟩,
    ⟨(some 15), none, .mv, [.tmp 14]⟩,
    ⟨(some 16), some (15, false), .faddr 2, [.tmp 2]⟩,
    ⟨(some 17), some (15, false), .load 1 false, [.tmp 16]⟩,
    ⟨(some 18), some (15, false), .call 62, [.tmp 17, .c (.t (.bool false))]⟩,
    ⟨(some 19), some (15, false), .un .not, [.tmp 18]⟩,
    ⟨(some 20), none, .pick, [.tmp 15, .c (.t (.bool true)), .tmp 19]⟩,
    ⟨(some 21), none, .mv, [.tmp 20]⟩,
    ⟨(some 22), some (21, false), .faddr 3, [.tmp 2]⟩,
    ⟨(some 23), some (21, false), .load 1 false, [.tmp 22]⟩,
    ⟨(some 24), some (21, false), .lenL, [.tmp 23]⟩,
    ⟨(some 25), some (21, false), .bin .gtr, [.tmp 24, .c (.t (.int .i64 400))]⟩,
    ⟨(some 26), none, .pick, [.tmp 21, .c (.t (.bool true)), .tmp 25]⟩] false)
  (.cd (.tmp 26)
   (.sq (.rg [
     ⟨(some 4), none, .mv, [.c (.t (.bool false))]⟩] false)
   (.rt))
   (.skip)))
  (.sq (.sq (.rg [
    ⟨(some 5), none, .mv, [.c (.t (.int .i64 0))]⟩] false)
  (.bk 0 (.lp (.sq (.sq (.rg [
     ⟨(some 27), none, .mv, [.tmp 5]⟩,
     ⟨(some 28), none, .faddr 3, [.tmp 2]⟩,
     ⟨(some 29), none, .load 1 false, [.tmp 28]⟩,
     ⟨(some 30), none, .lenL, [.tmp 29]⟩,
     ⟨(some 31), none, .bin .lss, [.tmp 27, .tmp 30]⟩] false)
   (.cd (.tmp 31)
    (.skip)
    (.ex 0)))
   (.sq (.bk 1 (.sq (.rg [
     ⟨(some 34), none, .faddr 3, [.tmp 2]⟩,
     ⟨(some 35), none, .load 1 false, [.tmp 34]⟩,
     ⟨(some 36), none, .mv, [.tmp 5]⟩,
     ⟨(some 37), none, .iaS 3, [.tmp 35, .tmp 36]⟩,
     ⟨(some 38), none, .load 3 true, [.tmp 37]⟩,
     ⟨(some 6), none, .alloc [.t (.int .i64 0), .t (.int .i64 0), .t (.int .i64 0)], []⟩,
     ⟨none, none, .store 3, [.tmp 6, .tmp 38]⟩] false)
   (.sq (.rg [
     ⟨(some 40), none, .faddr 2, [.tmp 2]⟩,
     ⟨(some 41), none, .load 1 false, [.tmp 40]⟩,
     ⟨(some 42), none, .faddr 0, [.tmp 6]⟩,
     ⟨(some 43), none, .load 1 false, [.tmp 42]⟩,
     ⟨(some 44), none, .call 50, [.tmp 41, .tmp 43]⟩,
     ⟨(some 39), none, .mv, [.tmp 44]⟩,
     ⟨(some 45), none, .ext 0, [.tmp 39]⟩,
     ⟨(some 46), none, .ext 1, [.tmp 39]⟩,
     ⟨(some 7), none, .alloc [.t (.int .i64 0), .t (.int .i64 0), .t (.int .i64 0), .t (.int .i64 0)], []⟩,
     ⟨none, none, .store 4, [.tmp 7, .tmp 45]⟩,
     ⟨(some 8), none, .mv, [.tmp 46]⟩] false)
   (.sq (.rg [
     ⟨(some 48), none, .mv, [.tmp 1]⟩,
     ⟨(some 49), none, .faddr 1, [.tmp 6]⟩,
     ⟨(some 50), none, .load 1 false, [.tmp 49]⟩,
     ⟨(some 51), none, .call 50, [.tmp 48, .tmp 50]⟩,
     ⟨(some 47), none, .mv, [.tmp 51]⟩,
     ⟨(some 52), none, .ext 0, [.tmp 47]⟩,
     ⟨(some 53), none, .ext 1, [.tmp 47]⟩,
     ⟨(some 9), none, .alloc [.t (.int .i64 0), .t (.int .i64 0), .t (.int .i64 0), .t (.int .i64 0)], []⟩,
     ⟨none, none, .store 4, [.tmp 9, .tmp 52]⟩,
     ⟨(some 10), none, .mv, [.tmp 53]⟩] false)
   (.sq (.sq (.rg [
     ⟨(some 54), none, .mv, [.tmp 8]⟩,
     ⟨(some 55), none, .un .not, [.tmp 54]⟩,
     ⟨(some 56), none, .mv, [.tmp 55]⟩,
     ⟨(some 57), some (56, false), .mv, [.tmp 10]⟩,
     ⟨(some 58), some (56, false), .un .not, [.tmp 57]⟩,
     ⟨(some 59), none, .pick, [.tmp 56, .c (.t (.bool true)), .tmp 58]⟩,
     ⟨(some 60), none, .mv, [.tmp 59]⟩,
     ⟨(some 61), some (60, false), .faddr 1, [.tmp 7]⟩,
     ⟨(some 62), some (60, false), .load 1 false, [.tmp 61]⟩,
     ⟨(some 63), some (60, false), .faddr 1, [.tmp 9]⟩,
     ⟨(some 64), some (60, false), .load 1 false, [.tmp 63]⟩,
     ⟨(some 65), some (60, false), .bin .neq, [.tmp 62, .tmp 64]⟩,
     ⟨(some 66), none, .pick, [.tmp 60, .c (.t (.bool true)), .tmp 65]⟩,
     ⟨(some 67), none, .mv, [.tmp 66]⟩,
     ⟨(some 68), some (67, false), .faddr 2, [.tmp 6]⟩,
     ⟨(some 69), some (67, false), .load 1 false, [.tmp 68]⟩,
     ⟨(some 70), some (67, false), .call 69, [.tmp 69]⟩,
     ⟨(some 71), some (67, false), .un .not, [.tmp 70]⟩,
     ⟨(some 72), none, .pick, [.tmp 67, .c (.t (.bool true)), .tmp 71]⟩] false)
   (.cd (.tmp 72)
    (.sq (.rg [
      ⟨(some 4), none, .mv, [.c (.t (.bool false))]⟩] false)
    (.rt))
    (.skip)))
   (.sq (.rg [
     ⟨(some 11), none, .mv, [.c (.t (.int .i64 0))]⟩] false)
   (.bk 2 (.lp (.sq (.sq (.rg [
      ⟨(some 73), none, .mv, [.tmp 11]⟩,
      ⟨(some 74), none, .mv, [.tmp 5]⟩,
      ⟨(some 75), none, .bin .lss, [.tmp 73, .tmp 74]⟩] false)
    (.cd (.tmp 75)
     (.skip)
     (.ex 2)))
    (.sq (.bk 3 (.sq (.rg [
      ⟨(some 78), none, .faddr 3, [.tmp 2]⟩,
      ⟨(some 79), none, .load 1 false, [.tmp 78]⟩,
      ⟨(some 80), none, .mv, [.tmp 11]⟩,
      ⟨(some 81), none, .iaS 3, [.tmp 79, .tmp 80]⟩,
      ⟨(some 82), none, .faddr 0, [.tmp 81]⟩,
      ⟨(some 83), none, .load 1 false, [.tmp 82]⟩,
      ⟨(some 84), none, .faddr 0, [.tmp 6]⟩,
      ⟨(some 85), none, .load 1 false, [.tmp 84]⟩,
      ⟨(some 86), none, .bin .eql, [.tmp 83, .tmp 85]⟩,
      ⟨(some 87), none, .mv, [.tmp 86]⟩,
      ⟨(some 88), some (87, true), .faddr 3, [.tmp 2]⟩,
      ⟨(some 89), some (87, true), .load 1 false, [.tmp 88]⟩,
      ⟨(some 90), some (87, true), .mv, [.tmp 11]⟩,
      ⟨(some 91), some (87, true), .iaS 3, [.tmp 89, .tmp 90]⟩,
      ⟨(some 92), some (87, true), .faddr 2, [.tmp 91]⟩,
      ⟨(some 93), some (87, true), .load 1 false, [.tmp 92]⟩,
      ⟨(some 94), some (87, true), .faddr 2, [.tmp 6]⟩,
      ⟨(some 95), some (87, true), .load 1 false, [.tmp 94]⟩,
      ⟨(some 96), some (87, true), .bin .eql, [.tmp 93, .tmp 95]⟩,
      ⟨(some 97), none, .pick, [.tmp 87, .tmp 96, .c (.t (.bool false))]⟩] true)
    (.cd (.tmp 97)
     (.sq (.rg [
       ⟨(some 4), none, .mv, [.c (.t (.bool false))]⟩] false)
     (.rt))
     (.skip))))
    (.rg [
      ⟨(some 76), none, .mv, [.tmp 11]⟩,
      ⟨(some 77), none, .bin .add, [.tmp 76, .c (.t (.int .i64 1))]⟩,
      ⟨(some 11), none, .mv, [.tmp 77]⟩] false)))))))))))
   (.rg [
     ⟨(some 32), none, .mv, [.tmp 5]⟩,
     ⟨(some 33), none, .bin .add, [.tmp 32, .c (.t (.int .i64 1))]⟩,
     ⟨(some 5), none, .mv, [.tmp 33]⟩] false))))))
  (.sq (.rg [
    ⟨(some 4), none, .mv, [.c (.t (.bool true))]⟩] false)
  (.rt))))
theorem k_66 : ecF Try.prog 66 = some (98, c_tallystoneref09_Valid_66, [.tm 4]) := by kernel_rfl

/-- tallystone/tallystoneref06.Of -/
def c_tallystoneref06_Of_67 : EC :=
  .sq (.rg [
    ⟨(some 6), none, .mv, [.c (.t (.int .i64 0))]⟩,
    ⟨(some 7), none, .mv, [.c (.t (.int .i64 0))]⟩] false)
  (.sq (.sq (.rg [
    ⟨(some 11), none, .mv, [.tmp 2]⟩,
    ⟨(some 12), none, .bin .lss, [.tmp 11, .c (.t (.int .i64 1))]⟩,
    ⟨(some 13), none, .mv, [.tmp 12]⟩,
    ⟨(some 14), some (13, false), .mv, [.tmp 2]⟩,
    ⟨(some 15), some (13, false), .mv, [.tmp 0]⟩,
    ⟨(some 16), some (13, false), .mv, [.tmp 1]⟩,
    ⟨(some 17), some (13, false), .call 48, [.tmp 15, .tmp 16]⟩,
    ⟨(some 18), some (13, false), .bin .gtr, [.tmp 14, .tmp 17]⟩,
    ⟨(some 19), none, .pick, [.tmp 13, .c (.t (.bool true)), .tmp 18]⟩] false)
  (.cd (.tmp 19)
   (.sq (.rg [
     ⟨(some 6), none, .mv, [.c (.t (.int .i64 0))]⟩,
     ⟨(some 7), none, .mv, [.c (.t (.int .i64 2))]⟩] false)
   (.rt))
   (.skip)))
  (.sq (.rg [
    ⟨(some 8), none, .mv, [.c (.t (.int .i64 (-25567)))]⟩] false)
  (.sq (.sq (.rg [
    ⟨(some 9), none, .mv, [.c (.t (.int .i64 1900))]⟩] false)
  (.bk 0 (.lp (.sq (.sq (.rg [
     ⟨(some 20), none, .mv, [.tmp 9]⟩,
     ⟨(some 21), none, .mv, [.tmp 0]⟩,
     ⟨(some 22), none, .bin .lss, [.tmp 20, .tmp 21]⟩] false)
   (.cd (.tmp 22)
    (.skip)
    (.ex 0)))
   (.sq (.bk 1 (.sq (.rg [
     ⟨(some 25), none, .mv, [.tmp 8]⟩,
     ⟨(some 26), none, .bin .add, [.tmp 25, .c (.t (.int .i64 365))]⟩,
     ⟨(some 8), none, .mv, [.tmp 26]⟩] false)
   (.sq (.rg [
     ⟨(some 27), none, .mv, [.tmp 9]⟩,
     ⟨(some 28), none, .call 70, [.tmp 27]⟩] false)
   (.cd (.tmp 28)
    (.rg [
      ⟨(some 29), none, .mv, [.tmp 8]⟩,
      ⟨(some 30), none, .bin .add, [.tmp 29, .c (.t (.int .i64 1))]⟩,
      ⟨(some 8), none, .mv, [.tmp 30]⟩] false)
    (.skip)))))
   (.rg [
     ⟨(some 23), none, .mv, [.tmp 9]⟩,
     ⟨(some 24), none, .bin .add, [.tmp 23, .c (.t (.int .i64 1))]⟩,
     ⟨(some 9), none, .mv, [.tmp 24]⟩] false))))))
  (.sq (.sq (.rg [
    ⟨(some 10), none, .mv, [.c (.t (.int .i64 1))]⟩] false)
  (.bk 2 (.lp (.sq (.sq (.rg [
     ⟨(some 31), none, .mv, [.tmp 10]⟩,
     ⟨(some 32), none, .mv, [.tmp 1]⟩,
     ⟨(some 33), none, .bin .lss, [.tmp 31, .tmp 32]⟩] false)
   (.cd (.tmp 33)
    (.skip)
    (.ex 2)))
   (.sq (.bk 3 (.rg [
     ⟨(some 36), none, .mv, [.tmp 8]⟩,
     ⟨(some 37), none, .mv, [.tmp 0]⟩,
     ⟨(some 38), none, .mv, [.tmp 10]⟩,
     ⟨(some 39), none, .call 48, [.tmp 37, .tmp 38]⟩,
     ⟨(some 40), none, .bin .add, [.tmp 36, .tmp 39]⟩,
     ⟨(some 8), none, .mv, [.tmp 40]⟩] false))
   (.rg [
     ⟨(some 34), none, .mv, [.tmp 10]⟩,
     ⟨(some 35), none, .bin .add, [.tmp 34, .c (.t (.int .i64 1))]⟩,
     ⟨(some 10), none, .mv, [.tmp 35]⟩] false))))))
  (.sq (.rg [
    ⟨(some 41), none, .mv, [.tmp 8]⟩,
    ⟨(some 42), none, .mv, [.tmp 2]⟩,
    ⟨(some 43), none, .bin .add, [.tmp 41, .tmp 42]⟩,
    ⟨(some 44), none, .bin .sub, [.tmp 43, .c (.t (.int .i64 1))]⟩,
    ⟨(some 6), none, .mv, [.tmp 44]⟩,
    ⟨(some 7), none, .mv, [.c (.t (.int .i64 0))]⟩] false)
  (.rt))))))
theorem k_67 : ecF Try.prog 67 = some (45, c_tallystoneref06_Of_67, [.tm 6, .tm 7]) := by kernel_rfl

/-- tallystone/tallystoneref06.Valid -/
def c_tallystoneref06_Valid_69 : EC :=
  .sq (.rg [
    ⟨(some 2), none, .mv, [.c (.t (.bool false))]⟩] false)
  (.sq (.rg [
    ⟨(some 3), none, .mv, [.tmp 0]⟩,
    ⟨(some 4), none, .bin .geq, [.tmp 3, .c (.t (.int .i64 (-25567)))]⟩,
    ⟨(some 5), none, .mv, [.tmp 4]⟩,
    ⟨(some 6), some (5, true), .mv, [.tmp 0]⟩,
    ⟨(some 7), some (5, true), .bin .leq, [.tmp 6, .c (.t (.int .i64 84005))]⟩,
    ⟨(some 8), none, .pick, [.tmp 5, .tmp 7, .c (.t (.bool false))]⟩,
    ⟨(some 2), none, .mv, [.tmp 8]⟩] false)
  (.rt))
theorem k_69 : ecF Try.prog 69 = some (9, c_tallystoneref06_Valid_69, [.tm 2]) := by kernel_rfl

/-- tallystone/tallystoneref06.leap -/
def c_tallystoneref06_leap_70 : EC :=
  .sq (.rg [
    ⟨(some 2), none, .mv, [.c (.t (.bool false))]⟩] false)
  (.sq (.rg [
    ⟨(some 3), none, .mv, [.tmp 0]⟩,
    ⟨(some 4), none, .bin .rem, [.tmp 3, .c (.t (.int .i64 4))]⟩,
    ⟨(some 5), none, .bin .eql, [.tmp 4, .c (.t (.int .i64 0))]⟩,
    ⟨(some 6), none, .mv, [.tmp 5]⟩,
    ⟨(some 7), some (6, true), .mv, [.tmp 0]⟩,
    ⟨(some 8), some (6, true), .bin .rem, [.tmp 7, .c (.t (.int .i64 100))]⟩,
    ⟨(some 9), some (6, true), .bin .neq, [.tmp 8, .c (.t (.int .i64 0))]⟩,
    ⟨(some 10), some (6, true), .mv, [.tmp 9]⟩,
    ⟨(some 11), some (10, false), .mv, [.tmp 0]⟩,
    ⟨(some 12), some (10, false), .bin .rem, [.tmp 11, .c (.t (.int .i64 400))]⟩,
    ⟨(some 13), some (10, false), .bin .eql, [.tmp 12, .c (.t (.int .i64 0))]⟩,
    ⟨(some 14), some (6, true), .pick, [.tmp 10, .c (.t (.bool true)), .tmp 13]⟩,
    ⟨(some 15), none, .pick, [.tmp 6, .tmp 14, .c (.t (.bool false))]⟩,
    ⟨(some 2), none, .mv, [.tmp 15]⟩] false)
  (.rt))
theorem k_70 : ecF Try.prog 70 = some (16, c_tallystoneref06_leap_70, [.tm 2]) := by kernel_rfl

/-- tallystone/group.account -/
def c_group_account_71 : EC :=
  .sq (.rg [
    ⟨(some 8), none, .alloc [.t (.int .i64 0), .t (.int .i64 0), .t (.int .i64 0), .t (.int .i64 0)], []⟩] false)
  (.sq (.rg [
    ⟨(some 9), none, .mv, [.tmp 0]⟩,
    ⟨(some 10), none, .mv, [.tmp 1]⟩,
    ⟨(some 11), none, .mv, [.tmp 2]⟩,
    ⟨(some 12), none, .mv, [.tmp 3]⟩,
    ⟨(some 13), none, .build [.t (.int .i64 0), .t (.int .i64 0), .t (.int .i64 0), .t (.int .i64 0)] [(0, 1), (1, 1), (2, 1), (3, 1)], [.tmp 9, .tmp 10, .tmp 11, .tmp 12]⟩,
    ⟨none, none, .store 4, [.tmp 8, .tmp 13]⟩] false)
  (.rt))
theorem k_71 : ecF Try.prog 71 = some (14, c_group_account_71, [.ce 8 4 true]) := by kernel_rfl

/-- tallystone/group.currency -/
def c_group_currency_72 : EC :=
  .sq (.rg [
    ⟨(some 2), none, .mv, [.c (.t (.bool false))]⟩] false)
  (.sq (.sq (.rg [
    ⟨(some 4), none, .mv, [.tmp 0]⟩,
    ⟨(some 5), none, .lenS, [.tmp 4]⟩,
    ⟨(some 6), none, .mv, [.c (.t (.int .i64 0))]⟩] false)
  (.bk 0 (.lp (.sq (.rg [
     ⟨(some 7), none, .bin .lss, [.tmp 6, .tmp 5]⟩] false)
   (.sq (.cd (.tmp 7)
    (.skip)
    (.ex 0))
   (.sq (.bk 1 (.sq (.rg [
     ⟨(some 8), none, .mv, [.tmp 6]⟩,
     ⟨(some 3), none, .mv, [.tmp 8]⟩] false)
   (.sq (.rg [
     ⟨(some 9), none, .mv, [.tmp 0]⟩,
     ⟨(some 10), none, .mv, [.tmp 3]⟩,
     ⟨(some 11), none, .ixS, [.tmp 9, .tmp 10]⟩,
     ⟨(some 12), none, .bin .lss, [.tmp 11, .c (.t (.int .u8 65))]⟩,
     ⟨(some 13), none, .mv, [.tmp 12]⟩,
     ⟨(some 14), some (13, false), .mv, [.tmp 0]⟩,
     ⟨(some 15), some (13, false), .mv, [.tmp 3]⟩,
     ⟨(some 16), some (13, false), .ixS, [.tmp 14, .tmp 15]⟩,
     ⟨(some 17), some (13, false), .bin .gtr, [.tmp 16, .c (.t (.int .u8 90))]⟩,
     ⟨(some 18), none, .pick, [.tmp 13, .c (.t (.bool true)), .tmp 17]⟩] false)
   (.cd (.tmp 18)
    (.sq (.rg [
      ⟨(some 2), none, .mv, [.c (.t (.bool false))]⟩] false)
    (.rt))
    (.skip)))))
   (.rg [
     ⟨(some 19), none, .bin .add, [.tmp 6, .c (.t (.int .i64 1))]⟩,
     ⟨(some 6), none, .mv, [.tmp 19]⟩] false)))))))
  (.sq (.rg [
    ⟨(some 20), none, .mv, [.tmp 0]⟩,
    ⟨(some 21), none, .lenS, [.tmp 20]⟩,
    ⟨(some 22), none, .bin .eql, [.tmp 21, .c (.t (.int .i64 3))]⟩,
    ⟨(some 2), none, .mv, [.tmp 22]⟩] false)
  (.rt)))
theorem k_72 : ecF Try.prog 72 = some (23, c_group_currency_72, [.tm 2]) := by kernel_rfl

/-- tallystone/calendar.Valid -/
def c_calendar_Valid_73 : EC :=
  .sq (.rg [
    ⟨(some 1), none, .box, [.tmp 0]⟩,
    ⟨(some 2), none, .mv, [.c (.t (.bool false))]⟩] false)
  (.sq (.sq (.rg [
    ⟨(some 5), none, .faddr 1, [.tmp 1]⟩,
    ⟨(some 6), none, .load 1 false, [.tmp 5]⟩,
    ⟨(some 7), none, .bin .lss, [.tmp 6, .c (.t (.int .i64 1))]⟩,
    ⟨(some 8), none, .mv, [.tmp 7]⟩,
    ⟨(some 9), some (8, false), .faddr 1, [.tmp 1]⟩,
    ⟨(some 10), some (8, false), .load 1 false, [.tmp 9]⟩,
    ⟨(some 11), some (8, false), .bin .gtr, [.tmp 10, .c (.t (.int .i64 12))]⟩,
    ⟨(some 12), none, .pick, [.tmp 8, .c (.t (.bool true)), .tmp 11]⟩,
    ⟨(some 13), none, .mv, [.tmp 12]⟩,
    ⟨(some 14), some (13, false), .faddr 2, [.tmp 1]⟩,
    ⟨(some 15), some (13, false), .load 1 false, [.tmp 14]⟩,
    ⟨(some 16), some (13, false), .bin .lss, [.tmp 15, .c (.t (.int .i64 1))]⟩,
    ⟨(some 17), none, .pick, [.tmp 13, .c (.t (.bool true)), .tmp 16]⟩,
    ⟨(some 18), none, .mv, [.tmp 17]⟩,
    ⟨(some 19), some (18, false), .faddr 2, [.tmp 1]⟩,
    ⟨(some 20), some (18, false), .load 1 false, [.tmp 19]⟩,
    ⟨(some 21), some (18, false), .bin .gtr, [.tmp 20, .c (.t (.int .i64 120))]⟩,
    ⟨(some 22), none, .pick, [.tmp 18, .c (.t (.bool true)), .tmp 21]⟩,
    ⟨(some 23), none, .mv, [.tmp 22]⟩,
    ⟨(some 24), some (23, false), .faddr 0, [.tmp 1]⟩,
    ⟨(some 25), some (23, false), .load 1 false, [.tmp 24]⟩,
    ⟨(some 26), some (23, false), .bin .lss, [.tmp 25, .c (.t (.int .i64 1900))]⟩,
    ⟨(some 27), none, .pick, [.tmp 23, .c (.t (.bool true)), .tmp 26]⟩,
    ⟨(some 28), none, .mv, [.tmp 27]⟩,
    ⟨(some 29), some (28, false), .faddr 0, [.tmp 1]⟩,
    ⟨(some 30), some (28, false), .load 1 false, [.tmp 29]⟩,
    ⟨(some 31), some (28, false), .bin .gtr, [.tmp 30, .c (.t (.int .i64 2199))]⟩,
    ⟨(some 32), none, .pick, [.tmp 28, .c (.t (.bool true)), .tmp 31]⟩] false)
  (.cd (.tmp 32)
   (.sq (.rg [
     ⟨(some 2), none, .mv, [.c (.t (.bool false))]⟩] false)
   (.rt))
   (.skip)))
  (.sq (.rg [
    ⟨(some 34), none, .load 3 true, [.tmp 1]⟩,
    ⟨(some 35), none, .faddr 2, [.tmp 1]⟩,
    ⟨(some 36), none, .load 1 false, [.tmp 35]⟩,
    ⟨(some 37), none, .bin .sub, [.tmp 36, .c (.t (.int .i64 1))]⟩,
    ⟨(some 38), none, .call 77, [.tmp 34, .tmp 37]⟩,
    ⟨(some 33), none, .mv, [.tmp 38]⟩,
    ⟨(some 39), none, .ext 0, [.tmp 33]⟩,
    ⟨(some 40), none, .ext 1, [.tmp 33]⟩,
    ⟨(some 3), none, .mv, [.tmp 39]⟩,
    ⟨(some 4), none, .mv, [.tmp 40]⟩] false)
  (.sq (.rg [
    ⟨(some 41), none, .mv, [.tmp 4]⟩,
    ⟨(some 42), none, .bin .eql, [.tmp 41, .c (.t (.int .i64 0))]⟩,
    ⟨(some 2), none, .mv, [.tmp 42]⟩] false)
  (.rt))))
theorem k_73 : ecF Try.prog 73 = some (43, c_calendar_Valid_73, [.tm 2]) := by kernel_rfl

/-- tallystone/calendar.check -/
def c_calendar_check_76 : EC :=
  .sq (.rg [
    ⟨(some 2), none, .box, [.tmp 0]⟩,
    ⟨(some 4), none, .mv, [.c (.t (.int .i64 0))]⟩] false)
  (.sq (.bk 0 (.sq (.rg [
    ⟨(some 6), none, .load 3 true, [.tmp 2]⟩,
    ⟨(some 7), none, .call 73, [.tmp 6]⟩,
    ⟨(some 8), none, .un .not, [.tmp 7]⟩,
    ⟨(some 5), none, .mv, [.tmp 8]⟩] false)
  (.cd (.tmp 5)
   (.sq (.rg [
     ⟨(some 4), none, .mv, [.c (.t (.int .i64 1))]⟩] false)
   (.rt))
   (.sq (.rg [
     ⟨(some 10), none, .mv, [.tmp 1]⟩,
     ⟨(some 11), none, .bin .lss, [.tmp 10, .c (.t (.int .i64 0))]⟩,
     ⟨(some 12), none, .mv, [.tmp 11]⟩,
     ⟨(some 13), some (12, false), .mv, [.tmp 1]⟩,
     ⟨(some 14), some (12, false), .faddr 2, [.tmp 2]⟩,
     ⟨(some 15), some (12, false), .load 1 false, [.tmp 14]⟩,
     ⟨(some 16), some (12, false), .bin .geq, [.tmp 13, .tmp 15]⟩,
     ⟨(some 17), none, .pick, [.tmp 12, .c (.t (.bool true)), .tmp 16]⟩,
     ⟨(some 9), none, .mv, [.tmp 17]⟩] false)
   (.cd (.tmp 9)
    (.sq (.rg [
      ⟨(some 4), none, .mv, [.c (.t (.int .i64 2))]⟩] false)
    (.rt))
    (.skip))))))
  (.sq (.rg [
    ⟨(some 4), none, .mv, [.c (.t (.int .i64 0))]⟩] false)
  (.rt)))
theorem k_76 : ecF Try.prog 76 = some (18, c_calendar_check_76, [.tm 4]) := by kernel_rfl

/-- tallystone/calendar.first -/
def c_calendar_first_77 : EC :=
  .sq (.rg [
    ⟨(some 2), none, .box, [.tmp 0]⟩,
    ⟨(some 4), none, .mv, [.c (.t (.int .i64 0))]⟩,
    ⟨(some 5), none, .mv, [.c (.t (.int .i64 0))]⟩] false)
  (.sq (.rg [
    ⟨(some 7), none, .faddr 0, [.tmp 2]⟩,
    ⟨(some 8), none, .load 1 false, [.tmp 7]⟩,
    ⟨(some 9), none, .bin .mul, [.c (.t (.int .i64 12)), .tmp 8]⟩,
    ⟨(some 10), none, .faddr 1, [.tmp 2]⟩,
    ⟨(some 11), none, .load 1 false, [.tmp 10]⟩,
    ⟨(some 12), none, .bin .add, [.tmp 9, .tmp 11]⟩,
    ⟨(some 13), none, .bin .sub, [.tmp 12, .c (.t (.int .i64 1))]⟩,
    ⟨(some 14), none, .mv, [.tmp 1]⟩,
    ⟨(some 15), none, .bin .add, [.tmp 13, .tmp 14]⟩,
    ⟨(some 6), none, .mv, [.tmp 15]⟩] false)
  (.sq (.rg [
    ⟨(some 16), none, .mv, [.tmp 6]⟩,
    ⟨(some 17), none, .bin .quo, [.tmp 16, .c (.t (.int .i64 12))]⟩,
    ⟨(some 18), none, .mv, [.tmp 6]⟩,
    ⟨(some 19), none, .bin .rem, [.tmp 18, .c (.t (.int .i64 12))]⟩,
    ⟨(some 20), none, .bin .add, [.tmp 19, .c (.t (.int .i64 1))]⟩,
    ⟨(some 21), none, .call 93, [.tmp 17, .tmp 20, .c (.t (.int .i64 1))]⟩,
    ⟨(some 22), none, .ext 0, [.tmp 21]⟩,
    ⟨(some 23), none, .ext 1, [.tmp 21]⟩,
    ⟨(some 4), none, .mv, [.tmp 22]⟩,
    ⟨(some 5), none, .mv, [.tmp 23]⟩] false)
  (.rt)))
theorem k_77 : ecF Try.prog 77 = some (24, c_calendar_first_77, [.tm 4, .tm 5]) := by kernel_rfl

/-- tallystone/date.Civil -/
def c_date_Civil_78 : EC :=
  .sq (.rg [
    ⟨(some 2), none, .mv, [.c (.t (.int .i64 0))]⟩,
    ⟨(some 3), none, .mv, [.c (.t (.int .i64 0))]⟩,
    ⟨(some 4), none, .mv, [.c (.t (.int .i64 0))]⟩,
    ⟨(some 5), none, .mv, [.c (.t (.int .i64 0))]⟩] false)
  (.sq (.sq (.rg [
    ⟨(some 6), none, .mv, [.tmp 0]⟩,
    ⟨(some 7), none, .call 94, [.tmp 6]⟩,
    ⟨(some 8), none, .un .not, [.tmp 7]⟩] false)
  (.cd (.tmp 8)
   (.sq (.rg [
     ⟨(some 2), none, .mv, [.c (.t (.int .i64 0))]⟩,
     ⟨(some 3), none, .mv, [.c (.t (.int .i64 0))]⟩,
     ⟨(some 4), none, .mv, [.c (.t (.int .i64 0))]⟩,
     ⟨(some 5), none, .mv, [.c (.t (.int .i64 2))]⟩] false)
   (.rt))
   (.skip)))
  (.sq (.rg [
    ⟨(some 9), none, .mv, [.tmp 0]⟩,
    ⟨(some 10), none, .bin .quo, [.tmp 9, .c (.t (.int .i64 366))]⟩,
    ⟨(some 11), none, .bin .add, [.c (.t (.int .i64 1970)), .tmp 10]⟩,
    ⟨(some 12), none, .bin .sub, [.tmp 11, .c (.t (.int .i64 2))]⟩,
    ⟨(some 2), none, .mv, [.tmp 12]⟩] false)
  (.sq (.bk 0 (.lp (.sq (.sq (.rg [
     ⟨(some 13), none, .mv, [.tmp 2]⟩,
     ⟨(some 14), none, .bin .lss, [.tmp 13, .c (.t (.int .i64 1900))]⟩,
     ⟨(some 15), none, .mv, [.tmp 14]⟩,
     ⟨(some 16), some (15, false), .mv, [.tmp 2]⟩,
     ⟨(some 17), some (15, false), .bin .add, [.tmp 16, .c (.t (.int .i64 1))]⟩,
     ⟨(some 18), some (15, false), .call 95, [.tmp 17]⟩,
     ⟨(some 19), some (15, false), .mv, [.tmp 0]⟩,
     ⟨(some 20), some (15, false), .bin .leq, [.tmp 18, .tmp 19]⟩,
     ⟨(some 21), none, .pick, [.tmp 15, .c (.t (.bool true)), .tmp 20]⟩] false)
   (.cd (.tmp 21)
    (.skip)
    (.ex 0)))
   (.bk 1 (.rg [
     ⟨(some 22), none, .mv, [.tmp 2]⟩,
     ⟨(some 23), none, .bin .add, [.tmp 22, .c (.t (.int .i64 1))]⟩,
     ⟨(some 2), none, .mv, [.tmp 23]⟩] false)))))
  (.sq (.rg [
    ⟨(some 24), none, .mv, [.tmp 0]⟩,
    ⟨(some 25), none, .mv, [.tmp 2]⟩,
    ⟨(some 26), none, .call 95, [.tmp 25]⟩,
    ⟨(some 27), none, .bin .sub, [.tmp 24, .tmp 26]⟩,
    ⟨(some 4), none, .mv, [.tmp 27]⟩] false)
  (.sq (.rg [
    ⟨(some 3), none, .mv, [.c (.t (.int .i64 1))]⟩] false)
  (.sq (.bk 2 (.lp (.sq (.sq (.rg [
     ⟨(some 28), none, .mv, [.tmp 4]⟩,
     ⟨(some 29), none, .mv, [.tmp 2]⟩,
     ⟨(some 30), none, .mv, [.tmp 3]⟩,
     ⟨(some 31), none, .call 79, [.tmp 29, .tmp 30]⟩,
     ⟨(some 32), none, .bin .geq, [.tmp 28, .tmp 31]⟩] false)
   (.cd (.tmp 32)
    (.skip)
    (.ex 2)))
   (.bk 3 (.sq (.rg [
     ⟨(some 33), none, .mv, [.tmp 4]⟩,
     ⟨(some 34), none, .mv, [.tmp 2]⟩,
     ⟨(some 35), none, .mv, [.tmp 3]⟩,
     ⟨(some 36), none, .call 79, [.tmp 34, .tmp 35]⟩,
     ⟨(some 37), none, .bin .sub, [.tmp 33, .tmp 36]⟩,
     ⟨(some 4), none, .mv, [.tmp 37]⟩] false)
   (.rg [
     ⟨(some 38), none, .mv, [.tmp 3]⟩,
     ⟨(some 39), none, .bin .add, [.tmp 38, .c (.t (.int .i64 1))]⟩,
     ⟨(some 3), none, .mv, [.tmp 39]⟩] false))))))
  (.sq (.rg [
    ⟨(some 40), none, .mv, [.tmp 2]⟩,
    ⟨(some 41), none, .mv, [.tmp 3]⟩,
    ⟨(some 42), none, .mv, [.tmp 4]⟩,
    ⟨(some 43), none, .bin .add, [.tmp 42, .c (.t (.int .i64 1))]⟩,
    ⟨(some 2), none, .mv, [.tmp 40]⟩,
    ⟨(some 3), none, .mv, [.tmp 41]⟩,
    ⟨(some 4), none, .mv, [.tmp 43]⟩,
    ⟨(some 5), none, .mv, [.c (.t (.int .i64 0))]⟩] false)
  (.rt))))))))
theorem k_78 : ecF Try.prog 78 = some (44, c_date_Civil_78, [.tm 2, .tm 3, .tm 4, .tm 5]) := by kernel_rfl

/-- tallystone/date.Days -/
def c_date_Days_79 : EC :=
  .sq (.rg [
    ⟨(some 4), none, .mv, [.c (.t (.int .i64 0))]⟩] false)
  (.sq (.sq (.rg [
    ⟨(some 6), none, .mv, [.tmp 0]⟩,
    ⟨(some 7), none, .bin .lss, [.tmp 6, .c (.t (.int .i64 1900))]⟩,
    ⟨(some 8), none, .mv, [.tmp 7]⟩,
    ⟨(some 9), some (8, false), .mv, [.tmp 0]⟩,
    ⟨(some 10), some (8, false), .bin .gtr, [.tmp 9, .c (.t (.int .i64 2199))]⟩,
    ⟨(some 11), none, .pick, [.tmp 8, .c (.t (.bool true)), .tmp 10]⟩,
    ⟨(some 12), none, .mv, [.tmp 11]⟩,
    ⟨(some 13), some (12, false), .mv, [.tmp 1]⟩,
    ⟨(some 14), some (12, false), .bin .lss, [.tmp 13, .c (.t (.int .i64 1))]⟩,
    ⟨(some 15), none, .pick, [.tmp 12, .c (.t (.bool true)), .tmp 14]⟩,
    ⟨(some 16), none, .mv, [.tmp 15]⟩,
    ⟨(some 17), some (16, false), .mv, [.tmp 1]⟩,
    ⟨(some 18), some (16, false), .bin .gtr, [.tmp 17, .c (.t (.int .i64 12))]⟩,
    ⟨(some 19), none, .pick, [.tmp 16, .c (.t (.bool true)), .tmp 18]⟩] false)
  (.cd (.tmp 19)
   (.sq (.rg [
     ⟨(some 4), none, .mv, [.c (.t (.int .i64 0))]⟩] false)
   (.rt))
   (.skip)))
  (.sq (.rg [
    ⟨(some 20), none, .build [.t (.int .i64 0), .t (.int .i64 0), .t (.int .i64 0), .t (.int .i64 0), .t (.int .i64 0), .t (.int .i64 0), .t (.int .i64 0), .t (.int .i64 0), .t (.int .i64 0), .t (.int .i64 0), .t (.int .i64 0), .t (.int .i64 0)] [(0, 1), (1, 1), (2, 1), (3, 1), (4, 1), (5, 1), (6, 1), (7, 1), (8, 1), (9, 1), (10, 1), (11, 1)], [.c (.t (.int .i64 31)), .c (.t (.int .i64 28)), .c (.t (.int .i64 31)), .c (.t (.int .i64 30)), .c (.t (.int .i64 31)), .c (.t (.int .i64 30)), .c (.t (.int .i64 31)), .c (.t (.int .i64 31)), .c (.t (.int .i64 30)), .c (.t (.int .i64 31)), .c (.t (.int .i64 30)), .c (.t (.int .i64 31))]⟩,
    ⟨(some 5), none, .alloc [.t (.int .i64 0), .t (.int .i64 0), .t (.int .i64 0), .t (.int .i64 0), .t (.int .i64 0), .t (.int .i64 0), .t (.int .i64 0), .t (.int .i64 0), .t (.int .i64 0), .t (.int .i64 0), .t (.int .i64 0), .t (.int .i64 0)], []⟩,
    ⟨none, none, .store 12, [.tmp 5, .tmp 20]⟩] false)
  (.sq (.sq (.rg [
    ⟨(some 21), none, .mv, [.tmp 1]⟩,
    ⟨(some 22), none, .bin .eql, [.tmp 21, .c (.t (.int .i64 2))]⟩,
    ⟨(some 23), none, .mv, [.tmp 22]⟩,
    ⟨(some 24), some (23, true), .mv, [.tmp 0]⟩,
    ⟨(some 25), some (23, true), .call 96, [.tmp 24]⟩,
    ⟨(some 26), none, .pick, [.tmp 23, .tmp 25, .c (.t (.bool false))]⟩] false)
  (.cd (.tmp 26)
   (.sq (.rg [
     ⟨(some 4), none, .mv, [.c (.t (.int .i64 29))]⟩] false)
   (.rt))
   (.skip)))
  (.sq (.rg [
    ⟨(some 27), none, .mv, [.tmp 1]⟩,
    ⟨(some 28), none, .bin .sub, [.tmp 27, .c (.t (.int .i64 1))]⟩,
    ⟨(some 29), none, .iaA 12 1, [.tmp 5, .tmp 28]⟩,
    ⟨(some 30), none, .load 1 false, [.tmp 29]⟩,
    ⟨(some 4), none, .mv, [.tmp 30]⟩] false)
  (.rt)))))
theorem k_79 : ecF Try.prog 79 = some (31, c_date_Days_79, [.tm 4]) := by kernel_rfl

/-- tallystone/tallystoneref08.proper -/
def c_tallystoneref08_proper_80 : EC :=
  .sq (.rg [
    ⟨(some 4), none, .box, [.tmp 1]⟩,
    ⟨(some 6), none, .mv, [.c (.t (.bool false))]⟩] false)
  (.sq (.sq (.rg [
    ⟨(some 9), none, .faddr 0, [.tmp 4]⟩,
    ⟨(some 10), none, .load 1 false, [.tmp 9]⟩,
    ⟨(some 11), none, .bin .lss, [.tmp 10, .c (.t (.int .i64 1))]⟩,
    ⟨(some 12), none, .mv, [.tmp 11]⟩,
    ⟨(some 13), some (12, false), .faddr 0, [.tmp 4]⟩,
    ⟨(some 14), some (12, false), .load 1 false, [.tmp 13]⟩,
    ⟨(some 15), some (12, false), .bin .gtr, [.tmp 14, .c (.t (.int .i64 99999))]⟩,
    ⟨(some 16), none, .pick, [.tmp 12, .c (.t (.bool true)), .tmp 15]⟩,
    ⟨(some 17), none, .mv, [.tmp 16]⟩,
    ⟨(some 18), some (17, false), .faddr 1, [.tmp 4]⟩,
    ⟨(some 19), some (17, false), .load 1 false, [.tmp 18]⟩,
    ⟨(some 20), some (17, false), .bin .lss, [.tmp 19, .c (.t (.int .i64 1))]⟩,
    ⟨(some 21), none, .pick, [.tmp 17, .c (.t (.bool true)), .tmp 20]⟩,
    ⟨(some 22), none, .mv, [.tmp 21]⟩,
    ⟨(some 23), some (22, false), .faddr 1, [.tmp 4]⟩,
    ⟨(some 24), some (22, false), .load 1 false, [.tmp 23]⟩,
    ⟨(some 25), some (22, false), .bin .gtr, [.tmp 24, .c (.t (.int .i64 5))]⟩,
    ⟨(some 26), none, .pick, [.tmp 22, .c (.t (.bool true)), .tmp 25]⟩] false)
  (.cd (.tmp 26)
   (.sq (.rg [
     ⟨(some 6), none, .mv, [.c (.t (.bool false))]⟩] false)
   (.rt))
   (.skip)))
  (.sq (.sq (.rg [
    ⟨(some 27), none, .mv, [.tmp 2]⟩,
    ⟨(some 28), none, .mv, [.tmp 27]⟩,
    ⟨(some 29), some (28, true), .faddr 2, [.tmp 4]⟩,
    ⟨(some 30), some (28, true), .load 1 false, [.tmp 29]⟩,
    ⟨(some 31), some (28, true), .bin .lss, [.tmp 30, .c (.t (.int .i64 1))]⟩,
    ⟨(some 32), some (28, true), .mv, [.tmp 31]⟩,
    ⟨(some 33), some (32, false), .faddr 2, [.tmp 4]⟩,
    ⟨(some 34), some (32, false), .load 1 false, [.tmp 33]⟩,
    ⟨(some 35), some (32, false), .bin .gtr, [.tmp 34, .c (.t (.int .i64 3))]⟩,
    ⟨(some 36), some (28, true), .pick, [.tmp 32, .c (.t (.bool true)), .tmp 35]⟩,
    ⟨(some 37), none, .pick, [.tmp 28, .tmp 36, .c (.t (.bool false))]⟩,
    ⟨(some 38), none, .mv, [.tmp 37]⟩,
    ⟨(some 39), some (38, false), .mv, [.tmp 2]⟩,
    ⟨(some 40), some (38, false), .un .not, [.tmp 39]⟩,
    ⟨(some 41), some (38, false), .mv, [.tmp 40]⟩,
    ⟨(some 42), some (41, true), .faddr 2, [.tmp 4]⟩,
    ⟨(some 43), some (41, true), .load 1 false, [.tmp 42]⟩,
    ⟨(some 44), some (41, true), .bin .neq, [.tmp 43, .c (.t (.int .i64 0))]⟩,
    ⟨(some 45), some (38, false), .pick, [.tmp 41, .tmp 44, .c (.t (.bool false))]⟩,
    ⟨(some 46), none, .pick, [.tmp 38, .c (.t (.bool true)), .tmp 45]⟩] false)
  (.cd (.tmp 46)
   (.sq (.rg [
     ⟨(some 6), none, .mv, [.c (.t (.bool false))]⟩] false)
   (.rt))
   (.skip)))
  (.sq (.sq (.rg [
    ⟨(some 47), none, .faddr 3, [.tmp 4]⟩,
    ⟨(some 48), none, .load 1 false, [.tmp 47]⟩,
    ⟨(some 49), none, .bin .eql, [.tmp 48, .c (.t (.int .i64 0))]⟩] false)
  (.cd (.tmp 49)
   (.sq (.rg [
     ⟨(some 6), none, .mv, [.c (.t (.bool true))]⟩] false)
   (.rt))
   (.skip)))
  (.sq (.rg [
    ⟨(some 51), none, .mv, [.tmp 0]⟩,
    ⟨(some 52), none, .faddr 3, [.tmp 4]⟩,
    ⟨(some 53), none, .load 1 false, [.tmp 52]⟩,
    ⟨(some 54), none, .call 50, [.tmp 51, .tmp 53]⟩,
    ⟨(some 50), none, .mv, [.tmp 54]⟩,
    ⟨(some 55), none, .ext 0, [.tmp 50]⟩,
    ⟨(some 56), none, .ext 1, [.tmp 50]⟩,
    ⟨(some 7), none, .alloc [.t (.int .i64 0), .t (.int .i64 0), .t (.int .i64 0), .t (.int .i64 0)], []⟩,
    ⟨none, none, .store 4, [.tmp 7, .tmp 55]⟩,
    ⟨(some 8), none, .mv, [.tmp 56]⟩] false)
  (.sq (.rg [
    ⟨(some 57), none, .mv, [.tmp 8]⟩,
    ⟨(some 58), none, .mv, [.tmp 57]⟩,
    ⟨(some 59), some (58, true), .faddr 0, [.tmp 7]⟩,
    ⟨(some 60), some (58, true), .load 1 false, [.tmp 59]⟩,
    ⟨(some 61), some (58, true), .faddr 0, [.tmp 4]⟩,
    ⟨(some 62), some (58, true), .load 1 false, [.tmp 61]⟩,
    ⟨(some 63), some (58, true), .bin .neq, [.tmp 60, .tmp 62]⟩,
    ⟨(some 64), none, .pick, [.tmp 58, .tmp 63, .c (.t (.bool false))]⟩,
    ⟨(some 65), none, .mv, [.tmp 64]⟩,
    ⟨(some 66), some (65, true), .faddr 1, [.tmp 7]⟩,
    ⟨(some 67), some (65, true), .load 1 false, [.tmp 66]⟩,
    ⟨(some 68), some (65, true), .faddr 1, [.tmp 4]⟩,
    ⟨(some 69), some (65, true), .load 1 false, [.tmp 68]⟩,
    ⟨(some 70), some (65, true), .bin .eql, [.tmp 67, .tmp 69]⟩,
    ⟨(some 71), none, .pick, [.tmp 65, .tmp 70, .c (.t (.bool false))]⟩,
    ⟨(some 6), none, .mv, [.tmp 71]⟩] false)
  (.rt))))))
theorem k_80 : ecF Try.prog 80 = some (72, c_tallystoneref08_proper_80, [.tm 6]) := by kernel_rfl

/-- tallystone/tallystoneref08.climb -/
def c_tallystoneref08_climb_81 : EC :=
  .sq (.rg [
    ⟨(some 4), none, .mv, [.c (.snil)]⟩] false)
  (.sq (.rg [
    ⟨(some 5), none, .mv, [.c (.snil)]⟩] false)
  (.sq (.sq (.rg [
    ⟨(some 6), none, .mv, [.c (.t (.int .i64 0))]⟩] false)
  (.bk 0 (.lp (.sq (.sq (.rg [
     ⟨(some 9), none, .mv, [.tmp 6]⟩,
     ⟨(some 10), none, .mv, [.tmp 0]⟩,
     ⟨(some 11), none, .lenL, [.tmp 10]⟩,
     ⟨(some 12), none, .bin .leq, [.tmp 9, .tmp 11]⟩] false)
   (.cd (.tmp 12)
    (.skip)
    (.ex 0)))
   (.sq (.bk 1 (.sq (.rg [
     ⟨(some 16), none, .mv, [.tmp 0]⟩,
     ⟨(some 17), none, .mv, [.tmp 1]⟩,
     ⟨(some 18), none, .call 50, [.tmp 16, .tmp 17]⟩,
     ⟨(some 15), none, .mv, [.tmp 18]⟩,
     ⟨(some 19), none, .ext 0, [.tmp 15]⟩,
     ⟨(some 20), none, .ext 1, [.tmp 15]⟩,
     ⟨(some 7), none, .alloc [.t (.int .i64 0), .t (.int .i64 0), .t (.int .i64 0), .t (.int .i64 0)], []⟩,
     ⟨none, none, .store 4, [.tmp 7, .tmp 19]⟩,
     ⟨(some 8), none, .mv, [.tmp 20]⟩] false)
   (.sq (.sq (.rg [
     ⟨(some 21), none, .mv, [.tmp 8]⟩,
     ⟨(some 22), none, .un .not, [.tmp 21]⟩] false)
   (.cd (.tmp 22)
    (.ex 0)
    (.skip)))
   (.sq (.rg [
     ⟨(some 23), none, .mv, [.tmp 5]⟩,
     ⟨(some 24), none, .mv, [.tmp 1]⟩,
     ⟨(some 25), none, .bsl 1, [.tmp 24]⟩,
     ⟨(some 26), none, .app 3 1 8, [.tmp 23, .tmp 25]⟩,
     ⟨(some 5), none, .mv, [.tmp 26]⟩] false)
   (.rg [
     ⟨(some 27), none, .faddr 3, [.tmp 7]⟩,
     ⟨(some 28), none, .load 1 false, [.tmp 27]⟩,
     ⟨(some 1), none, .mv, [.tmp 28]⟩] false)))))
   (.rg [
     ⟨(some 13), none, .mv, [.tmp 6]⟩,
     ⟨(some 14), none, .bin .add, [.tmp 13, .c (.t (.int .i64 1))]⟩,
     ⟨(some 6), none, .mv, [.tmp 14]⟩] false))))))
  (.sq (.rg [
    ⟨(some 29), none, .mv, [.tmp 5]⟩,
    ⟨(some 4), none, .mv, [.tmp 29]⟩] false)
  (.rt))))
theorem k_81 : ecF Try.prog 81 = some (30, c_tallystoneref08_climb_81, [.tm 4]) := by kernel_rfl

/-- tallystone/tallystoneref10.letter -/
def c_tallystoneref10_letter_82 : EC :=
  .sq (.rg [
    ⟨(some 2), none, .mv, [.c (.t (.bool false))]⟩] false)
  (.sq (.rg [
    ⟨(some 3), none, .mv, [.tmp 0]⟩,
    ⟨(some 4), none, .bin .geq, [.tmp 3, .c (.t (.int .u8 97))]⟩,
    ⟨(some 5), none, .mv, [.tmp 4]⟩,
    ⟨(some 6), some (5, true), .mv, [.tmp 0]⟩,
    ⟨(some 7), some (5, true), .bin .leq, [.tmp 6, .c (.t (.int .u8 122))]⟩,
    ⟨(some 8), none, .pick, [.tmp 5, .tmp 7, .c (.t (.bool false))]⟩,
    ⟨(some 9), none, .mv, [.tmp 8]⟩,
    ⟨(some 10), some (9, false), .mv, [.tmp 0]⟩,
    ⟨(some 11), some (9, false), .bin .geq, [.tmp 10, .c (.t (.int .u8 65))]⟩,
    ⟨(some 12), some (9, false), .mv, [.tmp 11]⟩,
    ⟨(some 13), some (12, true), .mv, [.tmp 0]⟩,
    ⟨(some 14), some (12, true), .bin .leq, [.tmp 13, .c (.t (.int .u8 90))]⟩,
    ⟨(some 15), some (9, false), .pick, [.tmp 12, .tmp 14, .c (.t (.bool false))]⟩,
    ⟨(some 16), none, .pick, [.tmp 9, .c (.t (.bool true)), .tmp 15]⟩,
    ⟨(some 2), none, .mv, [.tmp 16]⟩] false)
  (.rt))
theorem k_82 : ecF Try.prog 82 = some (17, c_tallystoneref10_letter_82, [.tm 2]) := by kernel_rfl

/-- tallystone/chart.Valid -/
def c_chart_Valid_83 : EC :=
  .sq (.rg [
    ⟨(some 4), none, .mv, [.c (.t (.bool false))]⟩] false)
  (.sq (.sq (.rg [
    ⟨(some 7), none, .mv, [.tmp 0]⟩,
    ⟨(some 8), none, .lenL, [.tmp 7]⟩,
    ⟨(some 9), none, .mv, [.c (.t (.int .i64 0))]⟩] false)
  (.bk 0 (.lp (.sq (.rg [
     ⟨(some 10), none, .bin .lss, [.tmp 9, .tmp 8]⟩] false)
   (.sq (.cd (.tmp 10)
    (.skip)
    (.ex 0))
   (.sq (.bk 1 (.sq (.rg [
     ⟨(some 11), none, .mv, [.tmp 9]⟩,
     ⟨(some 12), none, .iaS 4, [.tmp 7, .tmp 9]⟩,
     ⟨(some 13), none, .load 4 true, [.tmp 12]⟩,
     ⟨(some 6), none, .alloc [.t (.int .i64 0), .t (.int .i64 0), .t (.int .i64 0), .t (.int .i64 0)], []⟩,
     ⟨(some 5), none, .mv, [.tmp 11]⟩,
     ⟨none, none, .store 4, [.tmp 6, .tmp 13]⟩] false)
   (.sq (.rg [
     ⟨(some 14), none, .mv, [.tmp 5]⟩,
     ⟨(some 15), none, .bin .gtr, [.tmp 14, .c (.t (.int .i64 0))]⟩,
     ⟨(some 16), none, .mv, [.tmp 15]⟩,
     ⟨(some 17), some (16, true), .mv, [.tmp 0]⟩,
     ⟨(some 18), some (16, true), .mv, [.tmp 5]⟩,
     ⟨(some 19), some (16, true), .bin .sub, [.tmp 18, .c (.t (.int .i64 1))]⟩,
     ⟨(some 20), some (16, true), .iaS 4, [.tmp 17, .tmp 19]⟩,
     ⟨(some 21), some (16, true), .faddr 0, [.tmp 20]⟩,
     ⟨(some 22), some (16, true), .load 1 false, [.tmp 21]⟩,
     ⟨(some 23), some (16, true), .faddr 0, [.tmp 6]⟩,
     ⟨(some 24), some (16, true), .load 1 false, [.tmp 23]⟩,
     ⟨(some 25), some (16, true), .bin .geq, [.tmp 22, .tmp 24]⟩,
     ⟨(some 26), none, .pick, [.tmp 16, .tmp 25, .c (.t (.bool false))]⟩,
     ⟨(some 27), none, .mv, [.tmp 26]⟩,
     ⟨(some 28), some (27, false), .mv, [.tmp 0]⟩,
     ⟨(some 29), some (27, false), .load 4 true, [.tmp 6]⟩,
     ⟨(some 30), some (27, false), .mv, [.tmp 1]⟩,
     ⟨(some 31), some (27, false), .call 97, [.tmp 28, .tmp 29, .tmp 30]⟩,
     ⟨(some 32), some (27, false), .un .not, [.tmp 31]⟩,
     ⟨(some 33), none, .pick, [.tmp 27, .c (.t (.bool true)), .tmp 32]⟩] true)
   (.cd (.tmp 33)
    (.sq (.rg [
      ⟨(some 4), none, .mv, [.c (.t (.bool false))]⟩] false)
    (.rt))
    (.skip)))))
   (.rg [
     ⟨(some 34), none, .bin .add, [.tmp 9, .c (.t (.int .i64 1))]⟩,
     ⟨(some 9), none, .mv, [.tmp 34]⟩] false)))))))
  (.sq (.rg [
    ⟨(some 35), none, .mv, [.tmp 0]⟩,
    ⟨(some 36), none, .lenL, [.tmp 35]⟩,
    ⟨(some 37), none, .bin .leq, [.tmp 36, .c (.t (.int .i64 200))]⟩,
    ⟨(some 4), none, .mv, [.tmp 37]⟩] false)
  (.rt)))
theorem k_83 : ecF Try.prog 83 = some (38, c_chart_Valid_83, [.tm 4]) := by kernel_rfl

/-- slices.ContainsFunc[[]tallystone/api.Account,tallystone/api.Account] -/
def c_api_Account__84 : EC :=
  .sq (.rg [
    ⟨(some 4), none, .mv, [.c (.t (.bool false))]⟩] false)
  (.sq (.rg [
    ⟨(some 5), none, .mv, [.tmp 0]⟩,
    ⟨(some 6), none, .mv, [.tmp 1]⟩,
    ⟨(some 7), none, .call 56, [.tmp 5, .tmp 6]⟩,
    ⟨(some 8), none, .bin .geq, [.tmp 7, .c (.t (.int .i64 0))]⟩,
    ⟨(some 4), none, .mv, [.tmp 8]⟩] false)
  (.rt))
theorem k_84 : ecF Try.prog 84 = some (9, c_api_Account__84, [.tm 4]) := by kernel_rfl

/-- tallystone/group.accounts$1 -/
def c_group_accountsS1_85 : EC :=
  .sq (.rg [
    ⟨(some 1), none, .box, [.tmp 0]⟩,
    ⟨(some 2), none, .mv, [.c (.t (.bool false))]⟩] false)
  (.sq (.rg [
    ⟨(some 3), none, .load 4 true, [.tmp 1]⟩,
    ⟨(some 4), none, .call 86, [.tmp 3]⟩,
    ⟨(some 5), none, .un .not, [.tmp 4]⟩,
    ⟨(some 2), none, .mv, [.tmp 5]⟩] false)
  (.rt))
theorem k_85 : ecF Try.prog 85 = some (6, c_group_accountsS1_85, [.tm 2]) := by kernel_rfl

/-- tallystone/group.based -/
def c_group_based_86 : EC :=
  .sq (.rg [
    ⟨(some 1), none, .box, [.tmp 0]⟩,
    ⟨(some 2), none, .mv, [.c (.t (.bool false))]⟩] false)
  (.sq (.sq (.rg [
    ⟨(some 3), none, .faddr 1, [.tmp 1]⟩,
    ⟨(some 4), none, .load 1 false, [.tmp 3]⟩] false)
  (.bk 0 (.sq (.sq (.rg [
    ⟨(some 6), none, .bin .eql, [.tmp 4, .c (.t (.int .i64 1))]⟩,
    ⟨(some 5), none, .mv, [.tmp 6]⟩] false)
  (.cd (.tmp 5)
   (.skip)
   (.rg [
     ⟨(some 7), none, .bin .eql, [.tmp 4, .c (.t (.int .i64 2))]⟩,
     ⟨(some 5), none, .mv, [.tmp 7]⟩] false)))
  (.cd (.tmp 5)
   (.sq (.rg [
     ⟨(some 8), none, .faddr 2, [.tmp 1]⟩,
     ⟨(some 9), none, .load 1 false, [.tmp 8]⟩,
     ⟨(some 10), none, .bin .eql, [.tmp 9, .c (.t (.int .i64 1))]⟩,
     ⟨(some 11), none, .mv, [.tmp 10]⟩,
     ⟨(some 12), some (11, false), .faddr 2, [.tmp 1]⟩,
     ⟨(some 13), some (11, false), .load 1 false, [.tmp 12]⟩,
     ⟨(some 14), some (11, false), .bin .eql, [.tmp 13, .c (.t (.int .i64 3))]⟩,
     ⟨(some 15), none, .pick, [.tmp 11, .c (.t (.bool true)), .tmp 14]⟩,
     ⟨(some 2), none, .mv, [.tmp 15]⟩] false)
   (.rt))
   (.sq (.rg [
     ⟨(some 17), none, .bin .eql, [.tmp 4, .c (.t (.int .i64 3))]⟩,
     ⟨(some 16), none, .mv, [.tmp 17]⟩] false)
   (.cd (.tmp 16)
    (.sq (.rg [
      ⟨(some 18), none, .faddr 2, [.tmp 1]⟩,
      ⟨(some 19), none, .load 1 false, [.tmp 18]⟩,
      ⟨(some 20), none, .bin .eql, [.tmp 19, .c (.t (.int .i64 3))]⟩,
      ⟨(some 2), none, .mv, [.tmp 20]⟩] false)
    (.rt))
    (.skip)))))))
  (.sq (.rg [
    ⟨(some 21), none, .faddr 2, [.tmp 1]⟩,
    ⟨(some 22), none, .load 1 false, [.tmp 21]⟩,
    ⟨(some 23), none, .bin .eql, [.tmp 22, .c (.t (.int .i64 2))]⟩,
    ⟨(some 2), none, .mv, [.tmp 23]⟩] false)
  (.rt)))
theorem k_86 : ecF Try.prog 86 = some (24, c_group_based_86, [.tm 2]) := by kernel_rfl

/-- tallystone/group.roles -/
def c_group_roles_87 : EC :=
  .sq (.rg [
    ⟨(some 1), none, .box, [.tmp 0]⟩,
    ⟨(some 2), none, .mv, [.c (.snil)]⟩] false)
  (.sq (.rg [
    ⟨(some 3), none, .faddr 0, [.tmp 1]⟩,
    ⟨(some 4), none, .load 1 false, [.tmp 3]⟩,
    ⟨(some 5), none, .build [.t (.str []), .t (.int .i64 0), .t (.int .i64 0), .t (.int .i64 0), .t (.bool false)] [(0, 1), (1, 1), (2, 1), (3, 1), (4, 1)], [.c (.t (.str [105, 110, 118, 101, 115, 116, 109, 101, 110, 116])), .tmp 4, .c (.t (.int .i64 1)), .c (.t (.int .i64 3)), .c (.t (.bool true))]⟩,
    ⟨(some 6), none, .faddr 1, [.tmp 1]⟩,
    ⟨(some 7), none, .load 1 false, [.tmp 6]⟩,
    ⟨(some 8), none, .build [.t (.str []), .t (.int .i64 0), .t (.int .i64 0), .t (.int .i64 0), .t (.bool false)] [(0, 1), (1, 1), (2, 1), (3, 1), (4, 1)], [.c (.t (.str [103, 111, 111, 100, 119, 105, 108, 108])), .tmp 7, .c (.t (.int .i64 1)), .c (.t (.int .i64 3)), .c (.t (.bool false))]⟩,
    ⟨(some 9), none, .faddr 2, [.tmp 1]⟩,
    ⟨(some 10), none, .load 1 false, [.tmp 9]⟩,
    ⟨(some 11), none, .build [.t (.str []), .t (.int .i64 0), .t (.int .i64 0), .t (.int .i64 0), .t (.bool false)] [(0, 1), (1, 1), (2, 1), (3, 1), (4, 1)], [.c (.t (.str [97, 115, 115, 111, 99, 105, 97, 116, 101, 115])), .tmp 10, .c (.t (.int .i64 1)), .c (.t (.int .i64 3)), .c (.t (.bool false))]⟩,
    ⟨(some 12), none, .faddr 3, [.tmp 1]⟩,
    ⟨(some 13), none, .load 1 false, [.tmp 12]⟩,
    ⟨(some 14), none, .build [.t (.str []), .t (.int .i64 0), .t (.int .i64 0), .t (.int .i64 0), .t (.bool false)] [(0, 1), (1, 1), (2, 1), (3, 1), (4, 1)], [.c (.t (.str [105, 110, 118, 101, 110, 116, 111, 114, 121])), .tmp 13, .c (.t (.int .i64 1)), .c (.t (.int .i64 1)), .c (.t (.bool true))]⟩,
    ⟨(some 15), none, .faddr 4, [.tmp 1]⟩,
    ⟨(some 16), none, .load 1 false, [.tmp 15]⟩,
    ⟨(some 17), none, .build [.t (.str []), .t (.int .i64 0), .t (.int .i64 0), .t (.int .i64 0), .t (.bool false)] [(0, 1), (1, 1), (2, 1), (3, 1), (4, 1)], [.c (.t (.str [114, 101, 115, 101, 114, 118, 101])), .tmp 16, .c (.t (.int .i64 3)), .c (.t (.int .i64 3)), .c (.t (.bool false))]⟩,
    ⟨(some 18), none, .faddr 5, [.tmp 1]⟩,
    ⟨(some 19), none, .load 1 false, [.tmp 18]⟩,
    ⟨(some 20), none, .build [.t (.str []), .t (.int .i64 0), .t (.int .i64 0), .t (.int .i64 0), .t (.bool false)] [(0, 1), (1, 1), (2, 1), (3, 1), (4, 1)], [.c (.t (.str [109, 105, 110, 111, 114, 105, 116, 121])), .tmp 19, .c (.t (.int .i64 3)), .c (.t (.int .i64 3)), .c (.t (.bool false))]⟩,
    ⟨(some 21), none, .faddr 6, [.tmp 1]⟩,
    ⟨(some 22), none, .load 1 false, [.tmp 21]⟩,
    ⟨(some 23), none, .build [.t (.str []), .t (.int .i64 0), .t (.int .i64 0), .t (.int .i64 0), .t (.bool false)] [(0, 1), (1, 1), (2, 1), (3, 1), (4, 1)], [.c (.t (.str [114, 101, 116, 97, 105, 110, 101, 100])), .tmp 22, .c (.t (.int .i64 3)), .c (.t (.int .i64 3)), .c (.t (.bool true))]⟩,
    ⟨(some 24), none, .faddr 7, [.tmp 1]⟩,
    ⟨(some 25), none, .load 1 false, [.tmp 24]⟩,
    ⟨(some 26), none, .build [.t (.str []), .t (.int .i64 0), .t (.int .i64 0), .t (.int .i64 0), .t (.bool false)] [(0, 1), (1, 1), (2, 1), (3, 1), (4, 1)], [.c (.t (.str [97, 99, 113, 117, 105, 114, 101, 100])), .tmp 25, .c (.t (.int .i64 3)), .c (.t (.int .i64 3)), .c (.t (.bool false))]⟩,
    ⟨(some 27), none, .faddr 8, [.tmp 1]⟩,
    ⟨(some 28), none, .load 1 false, [.tmp 27]⟩,
    ⟨(some 29), none, .build [.t (.str []), .t (.int .i64 0), .t (.int .i64 0), .t (.int .i64 0), .t (.bool false)] [(0, 1), (1, 1), (2, 1), (3, 1), (4, 1)], [.c (.t (.str [111, 119, 110, 101, 114, 115])), .tmp 28, .c (.t (.int .i64 3)), .c (.t (.int .i64 3)), .c (.t (.bool false))]⟩,
    ⟨(some 30), none, .faddr 9, [.tmp 1]⟩,
    ⟨(some 31), none, .load 1 false, [.tmp 30]⟩,
    ⟨(some 32), none, .build [.t (.str []), .t (.int .i64 0), .t (.int .i64 0), .t (.int .i64 0), .t (.bool false)] [(0, 1), (1, 1), (2, 1), (3, 1), (4, 1)], [.c (.t (.str [100, 105, 115, 112, 111, 115, 97, 108])), .tmp 31, .c (.t (.int .i64 4)), .c (.t (.int .i64 2)), .c (.t (.bool false))]⟩,
    ⟨(some 33), none, .faddr 10, [.tmp 1]⟩,
    ⟨(some 34), none, .load 1 false, [.tmp 33]⟩,
    ⟨(some 35), none, .build [.t (.str []), .t (.int .i64 0), .t (.int .i64 0), .t (.int .i64 0), .t (.bool false)] [(0, 1), (1, 1), (2, 1), (3, 1), (4, 1)], [.c (.t (.str [97, 115, 115, 111, 99, 105, 97, 116, 101, 80, 114, 111, 102, 105, 116])), .tmp 34, .c (.t (.int .i64 4)), .c (.t (.int .i64 2)), .c (.t (.bool false))]⟩,
    ⟨(some 36), none, .faddr 11, [.tmp 1]⟩,
    ⟨(some 37), none, .load 1 false, [.tmp 36]⟩,
    ⟨(some 38), none, .build [.t (.str []), .t (.int .i64 0), .t (.int .i64 0), .t (.int .i64 0), .t (.bool false)] [(0, 1), (1, 1), (2, 1), (3, 1), (4, 1)], [.c (.t (.str [100, 105, 118, 105, 100, 101, 110, 100, 115])), .tmp 37, .c (.t (.int .i64 4)), .c (.t (.int .i64 2)), .c (.t (.bool true))]⟩,
    ⟨(some 39), none, .faddr 12, [.tmp 1]⟩,
    ⟨(some 40), none, .load 1 false, [.tmp 39]⟩,
    ⟨(some 41), none, .build [.t (.str []), .t (.int .i64 0), .t (.int .i64 0), .t (.int .i64 0), .t (.bool false)] [(0, 1), (1, 1), (2, 1), (3, 1), (4, 1)], [.c (.t (.str [109, 105, 110, 111, 114, 105, 116, 121, 80, 114, 111, 102, 105, 116])), .tmp 40, .c (.t (.int .i64 5)), .c (.t (.int .i64 2)), .c (.t (.bool false))]⟩,
    ⟨(some 42), none, .faddr 13, [.tmp 1]⟩,
    ⟨(some 43), none, .load 1 false, [.tmp 42]⟩,
    ⟨(some 44), none, .build [.t (.str []), .t (.int .i64 0), .t (.int .i64 0), .t (.int .i64 0), .t (.bool false)] [(0, 1), (1, 1), (2, 1), (3, 1), (4, 1)], [.c (.t (.str [100, 105, 102, 102, 101, 114, 101, 110, 99, 101])), .tmp 43, .c (.t (.int .i64 5)), .c (.t (.int .i64 2)), .c (.t (.bool false))]⟩,
    ⟨(some 45), none, .faddr 14, [.tmp 1]⟩,
    ⟨(some 46), none, .load 1 false, [.tmp 45]⟩,
    ⟨(some 47), none, .build [.t (.str []), .t (.int .i64 0), .t (.int .i64 0), .t (.int .i64 0), .t (.bool false)] [(0, 1), (1, 1), (2, 1), (3, 1), (4, 1)], [.c (.t (.str [109, 97, 114, 103, 105, 110])), .tmp 46, .c (.t (.int .i64 5)), .c (.t (.int .i64 2)), .c (.t (.bool false))]⟩,
    ⟨(some 48), none, .bsl 5, [.tmp 5, .tmp 8, .tmp 11, .tmp 14, .tmp 17, .tmp 20, .tmp 23, .tmp 26, .tmp 29, .tmp 32, .tmp 35, .tmp 38, .tmp 41, .tmp 44, .tmp 47]⟩,
    ⟨(some 2), none, .mv, [.tmp 48]⟩] false)
  (.rt))
theorem k_87 : ecF Try.prog 87 = some (49, c_group_roles_87, [.tm 2]) := by kernel_rfl

/-- tallystone/chart.Find -/
def c_chart_Find_88 : EC :=
  .sq (.rg [
    ⟨(some 4), none, .alloc [.t (.int .i64 0), .t (.int .i64 0), .t (.int .i64 0), .t (.int .i64 0)], []⟩,
    ⟨(some 5), none, .mv, [.c (.t (.bool false))]⟩] false)
  (.sq (.sq (.rg [
    ⟨(some 8), none, .mv, [.tmp 0]⟩,
    ⟨(some 9), none, .lenL, [.tmp 8]⟩,
    ⟨(some 10), none, .mv, [.c (.t (.int .i64 0))]⟩] false)
  (.bk 0 (.lp (.sq (.rg [
     ⟨(some 11), none, .bin .lss, [.tmp 10, .tmp 9]⟩] false)
   (.sq (.cd (.tmp 11)
    (.skip)
    (.ex 0))
   (.sq (.bk 1 (.sq (.rg [
     ⟨(some 12), none, .iaS 4, [.tmp 8, .tmp 10]⟩,
     ⟨(some 13), none, .load 4 true, [.tmp 12]⟩,
     ⟨(some 7), none, .alloc [.t (.int .i64 0), .t (.int .i64 0), .t (.int .i64 0), .t (.int .i64 0)], []⟩,
     ⟨none, none, .store 4, [.tmp 7, .tmp 13]⟩] false)
   (.sq (.rg [
     ⟨(some 14), none, .faddr 0, [.tmp 7]⟩,
     ⟨(some 15), none, .load 1 false, [.tmp 14]⟩,
     ⟨(some 16), none, .mv, [.tmp 1]⟩,
     ⟨(some 17), none, .bin .eql, [.tmp 15, .tmp 16]⟩] false)
   (.cd (.tmp 17)
    (.sq (.rg [
      ⟨(some 18), none, .load 4 true, [.tmp 7]⟩,
      ⟨none, none, .store 4, [.tmp 4, .tmp 18]⟩,
      ⟨(some 5), none, .mv, [.c (.t (.bool true))]⟩] false)
    (.rt))
    (.skip)))))
   (.rg [
     ⟨(some 19), none, .bin .add, [.tmp 10, .c (.t (.int .i64 1))]⟩,
     ⟨(some 10), none, .mv, [.tmp 19]⟩] false)))))))
  (.sq (.rg [
    ⟨(some 20), none, .build [.t (.int .i64 0), .t (.int .i64 0), .t (.int .i64 0), .t (.int .i64 0)] [], []⟩,
    ⟨none, none, .store 4, [.tmp 4, .tmp 20]⟩,
    ⟨(some 5), none, .mv, [.c (.t (.bool false))]⟩] false)
  (.rt)))
theorem k_88 : ecF Try.prog 88 = some (21, c_chart_Find_88, [.ce 4 4 true, .tm 5]) := by kernel_rfl

/-- tallystone/group.name -/
def c_group_name_89 : EC :=
  .sq (.rg [
    ⟨(some 2), none, .mv, [.c (.t (.bool false))]⟩] false)
  (.sq (.sq (.rg [
    ⟨(some 5), none, .mv, [.tmp 0]⟩,
    ⟨(some 6), none, .lenS, [.tmp 5]⟩,
    ⟨(some 7), none, .mv, [.c (.t (.int .i64 0))]⟩] false)
  (.bk 0 (.lp (.sq (.rg [
     ⟨(some 8), none, .bin .lss, [.tmp 7, .tmp 6]⟩] false)
   (.sq (.cd (.tmp 8)
    (.skip)
    (.ex 0))
   (.sq (.bk 1 (.sq (.rg [
     ⟨(some 9), none, .mv, [.tmp 7]⟩,
     ⟨(some 3), none, .mv, [.tmp 9]⟩] false)
   (.sq (.rg [
     ⟨(some 10), none, .mv, [.tmp 0]⟩,
     ⟨(some 11), none, .mv, [.tmp 3]⟩,
     ⟨(some 12), none, .ixS, [.tmp 10, .tmp 11]⟩,
     ⟨(some 4), none, .mv, [.tmp 12]⟩] false)
   (.sq (.rg [
     ⟨(some 13), none, .mv, [.tmp 4]⟩,
     ⟨(some 14), none, .call 98, [.tmp 13]⟩,
     ⟨(some 15), none, .un .not, [.tmp 14]⟩,
     ⟨(some 16), none, .mv, [.tmp 15]⟩,
     ⟨(some 17), some (16, true), .mv, [.tmp 3]⟩,
     ⟨(some 18), some (16, true), .bin .eql, [.tmp 17, .c (.t (.int .i64 0))]⟩,
     ⟨(some 19), some (16, true), .mv, [.tmp 18]⟩,
     ⟨(some 20), some (19, false), .mv, [.tmp 4]⟩,
     ⟨(some 21), some (19, false), .bin .neq, [.tmp 20, .c (.t (.int .u8 45))]⟩,
     ⟨(some 22), some (19, false), .mv, [.tmp 21]⟩,
     ⟨(some 23), some (22, true), .mv, [.tmp 4]⟩,
     ⟨(some 24), some (22, true), .bin .lss, [.tmp 23, .c (.t (.int .u8 48))]⟩,
     ⟨(some 25), some (22, true), .mv, [.tmp 24]⟩,
     ⟨(some 26), some (25, false), .mv, [.tmp 4]⟩,
     ⟨(some 27), some (25, false), .bin .gtr, [.tmp 26, .c (.t (.int .u8 57))]⟩,
     ⟨(some 28), some (22, true), .pick, [.tmp 25, .c (.t (.bool true)), .tmp 27]⟩,
     ⟨(some 29), some (19, false), .pick, [.tmp 22, .tmp 28, .c (.t (.bool false))]⟩,
     ⟨(some 30), some (16, true), .pick, [.tmp 19, .c (.t (.bool true)), .tmp 29]⟩,
     ⟨(some 31), none, .pick, [.tmp 16, .tmp 30, .c (.t (.bool false))]⟩] false)
   (.cd (.tmp 31)
    (.sq (.rg [
      ⟨(some 2), none, .mv, [.c (.t (.bool false))]⟩] false)
    (.rt))
    (.skip))))))
   (.rg [
     ⟨(some 32), none, .bin .add, [.tmp 7, .c (.t (.int .i64 1))]⟩,
     ⟨(some 7), none, .mv, [.tmp 32]⟩] false)))))))
  (.sq (.rg [
    ⟨(some 33), none, .mv, [.tmp 0]⟩,
    ⟨(some 34), none, .lenS, [.tmp 33]⟩,
    ⟨(some 35), none, .bin .geq, [.tmp 34, .c (.t (.int .i64 1))]⟩,
    ⟨(some 36), none, .mv, [.tmp 35]⟩,
    ⟨(some 37), some (36, true), .mv, [.tmp 0]⟩,
    ⟨(some 38), some (36, true), .lenS, [.tmp 37]⟩,
    ⟨(some 39), some (36, true), .bin .leq, [.tmp 38, .c (.t (.int .i64 16))]⟩,
    ⟨(some 40), none, .pick, [.tmp 36, .tmp 39, .c (.t (.bool false))]⟩,
    ⟨(some 2), none, .mv, [.tmp 40]⟩] false)
  (.rt)))
theorem k_89 : ecF Try.prog 89 = some (41, c_group_name_89, [.tm 2]) := by kernel_rfl

/-- slices.ContainsFunc[[]tallystone/api.Link,tallystone/api.Link] -/
def c_api_Link__91 : EC :=
  .sq (.rg [
    ⟨(some 4), none, .mv, [.c (.t (.bool false))]⟩] false)
  (.sq (.rg [
    ⟨(some 5), none, .mv, [.tmp 0]⟩,
    ⟨(some 6), none, .mv, [.tmp 1]⟩,
    ⟨(some 7), none, .call 100, [.tmp 5, .tmp 6]⟩,
    ⟨(some 8), none, .bin .geq, [.tmp 7, .c (.t (.int .i64 0))]⟩,
    ⟨(some 4), none, .mv, [.tmp 8]⟩] false)
  (.rt))
theorem k_91 : ecF Try.prog 91 = some (9, c_api_Link__91, [.tm 4]) := by kernel_rfl

/-- tallystone/date.Of -/
def c_date_Of_93 : EC :=
  .sq (.rg [
    ⟨(some 6), none, .mv, [.c (.t (.int .i64 0))]⟩,
    ⟨(some 7), none, .mv, [.c (.t (.int .i64 0))]⟩] false)
  (.sq (.sq (.rg [
    ⟨(some 10), none, .mv, [.tmp 2]⟩,
    ⟨(some 11), none, .bin .lss, [.tmp 10, .c (.t (.int .i64 1))]⟩,
    ⟨(some 12), none, .mv, [.tmp 11]⟩,
    ⟨(some 13), some (12, false), .mv, [.tmp 2]⟩,
    ⟨(some 14), some (12, false), .mv, [.tmp 0]⟩,
    ⟨(some 15), some (12, false), .mv, [.tmp 1]⟩,
    ⟨(some 16), some (12, false), .call 79, [.tmp 14, .tmp 15]⟩,
    ⟨(some 17), some (12, false), .bin .gtr, [.tmp 13, .tmp 16]⟩,
    ⟨(some 18), none, .pick, [.tmp 12, .c (.t (.bool true)), .tmp 17]⟩] false)
  (.cd (.tmp 18)
   (.sq (.rg [
     ⟨(some 6), none, .mv, [.c (.t (.int .i64 0))]⟩,
     ⟨(some 7), none, .mv, [.c (.t (.int .i64 2))]⟩] false)
   (.rt))
   (.skip)))
  (.sq (.rg [
    ⟨(some 19), none, .mv, [.tmp 0]⟩,
    ⟨(some 20), none, .call 95, [.tmp 19]⟩,
    ⟨(some 21), none, .mv, [.tmp 2]⟩,
    ⟨(some 22), none, .bin .add, [.tmp 20, .tmp 21]⟩,
    ⟨(some 23), none, .bin .sub, [.tmp 22, .c (.t (.int .i64 1))]⟩,
    ⟨(some 8), none, .mv, [.tmp 23]⟩] false)
  (.sq (.sq (.rg [
    ⟨(some 9), none, .mv, [.c (.t (.int .i64 1))]⟩] false)
  (.bk 0 (.lp (.sq (.sq (.rg [
     ⟨(some 24), none, .mv, [.tmp 9]⟩,
     ⟨(some 25), none, .mv, [.tmp 1]⟩,
     ⟨(some 26), none, .bin .lss, [.tmp 24, .tmp 25]⟩] false)
   (.cd (.tmp 26)
    (.skip)
    (.ex 0)))
   (.sq (.bk 1 (.rg [
     ⟨(some 29), none, .mv, [.tmp 8]⟩,
     ⟨(some 30), none, .mv, [.tmp 0]⟩,
     ⟨(some 31), none, .mv, [.tmp 9]⟩,
     ⟨(some 32), none, .call 79, [.tmp 30, .tmp 31]⟩,
     ⟨(some 33), none, .bin .add, [.tmp 29, .tmp 32]⟩,
     ⟨(some 8), none, .mv, [.tmp 33]⟩] false))
   (.rg [
     ⟨(some 27), none, .mv, [.tmp 9]⟩,
     ⟨(some 28), none, .bin .add, [.tmp 27, .c (.t (.int .i64 1))]⟩,
     ⟨(some 9), none, .mv, [.tmp 28]⟩] false))))))
  (.sq (.rg [
    ⟨(some 34), none, .mv, [.tmp 8]⟩,
    ⟨(some 6), none, .mv, [.tmp 34]⟩,
    ⟨(some 7), none, .mv, [.c (.t (.int .i64 0))]⟩] false)
  (.rt)))))
theorem k_93 : ecF Try.prog 93 = some (35, c_date_Of_93, [.tm 6, .tm 7]) := by kernel_rfl

/-- tallystone/date.Valid -/
def c_date_Valid_94 : EC :=
  .sq (.rg [
    ⟨(some 2), none, .mv, [.c (.t (.bool false))]⟩] false)
  (.sq (.rg [
    ⟨(some 3), none, .mv, [.tmp 0]⟩,
    ⟨(some 4), none, .bin .geq, [.tmp 3, .c (.t (.int .i64 (-25567)))]⟩,
    ⟨(some 5), none, .mv, [.tmp 4]⟩,
    ⟨(some 6), some (5, true), .mv, [.tmp 0]⟩,
    ⟨(some 7), some (5, true), .bin .leq, [.tmp 6, .c (.t (.int .i64 84005))]⟩,
    ⟨(some 8), none, .pick, [.tmp 5, .tmp 7, .c (.t (.bool false))]⟩,
    ⟨(some 2), none, .mv, [.tmp 8]⟩] false)
  (.rt))
theorem k_94 : ecF Try.prog 94 = some (9, c_date_Valid_94, [.tm 2]) := by kernel_rfl

/-- tallystone/date.begin -/
def c_date_begin_95 : EC :=
  .sq (.rg [
    ⟨(some 2), none, .mv, [.c (.t (.int .i64 0))]⟩] false)
  (.sq (.rg [
    ⟨(some 3), none, .mv, [.tmp 0]⟩,
    ⟨(some 4), none, .bin .sub, [.tmp 3, .c (.t (.int .i64 1))]⟩,
    ⟨(some 0), none, .mv, [.tmp 4]⟩] false)
  (.sq (.rg [
    ⟨(some 5), none, .mv, [.tmp 0]⟩,
    ⟨(some 6), none, .bin .mul, [.c (.t (.int .i64 365)), .tmp 5]⟩,
    ⟨(some 7), none, .mv, [.tmp 0]⟩,
    ⟨(some 8), none, .bin .quo, [.tmp 7, .c (.t (.int .i64 4))]⟩,
    ⟨(some 9), none, .bin .add, [.tmp 6, .tmp 8]⟩,
    ⟨(some 10), none, .mv, [.tmp 0]⟩,
    ⟨(some 11), none, .bin .quo, [.tmp 10, .c (.t (.int .i64 100))]⟩,
    ⟨(some 12), none, .bin .sub, [.tmp 9, .tmp 11]⟩,
    ⟨(some 13), none, .mv, [.tmp 0]⟩,
    ⟨(some 14), none, .bin .quo, [.tmp 13, .c (.t (.int .i64 400))]⟩,
    ⟨(some 15), none, .bin .add, [.tmp 12, .tmp 14]⟩,
    ⟨(some 16), none, .bin .sub, [.tmp 15, .c (.t (.int .i64 719162))]⟩,
    ⟨(some 2), none, .mv, [.tmp 16]⟩] false)
  (.rt)))
theorem k_95 : ecF Try.prog 95 = some (17, c_date_begin_95, [.tm 2]) := by kernel_rfl

/-- tallystone/date.leap -/
def c_date_leap_96 : EC :=
  .sq (.rg [
    ⟨(some 2), none, .mv, [.c (.t (.bool false))]⟩] false)
  (.sq (.rg [
    ⟨(some 3), none, .mv, [.tmp 0]⟩,
    ⟨(some 4), none, .bin .rem, [.tmp 3, .c (.t (.int .i64 4))]⟩,
    ⟨(some 5), none, .bin .eql, [.tmp 4, .c (.t (.int .i64 0))]⟩,
    ⟨(some 6), none, .mv, [.tmp 5]⟩,
    ⟨(some 7), some (6, true), .mv, [.tmp 0]⟩,
    ⟨(some 8), some (6, true), .bin .rem, [.tmp 7, .c (.t (.int .i64 100))]⟩,
    ⟨(some 9), some (6, true), .bin .neq, [.tmp 8, .c (.t (.int .i64 0))]⟩,
    ⟨(some 10), some (6, true), .mv, [.tmp 9]⟩,
    ⟨(some 11), some (10, false), .mv, [.tmp 0]⟩,
    ⟨(some 12), some (10, false), .bin .rem, [.tmp 11, .c (.t (.int .i64 400))]⟩,
    ⟨(some 13), some (10, false), .bin .eql, [.tmp 12, .c (.t (.int .i64 0))]⟩,
    ⟨(some 14), some (6, true), .pick, [.tmp 10, .c (.t (.bool true)), .tmp 13]⟩,
    ⟨(some 15), none, .pick, [.tmp 6, .tmp 14, .c (.t (.bool false))]⟩,
    ⟨(some 2), none, .mv, [.tmp 15]⟩] false)
  (.rt))
theorem k_96 : ecF Try.prog 96 = some (16, c_date_leap_96, [.tm 2]) := by kernel_rfl

/-- tallystone/chart.proper -/
def c_chart_proper_97 : EC :=
  .sq (.rg [
    ⟨(some 4), none, .box, [.tmp 1]⟩,
    ⟨(some 6), none, .mv, [.c (.t (.bool false))]⟩] false)
  (.sq (.sq (.rg [
    ⟨(some 12), none, .faddr 0, [.tmp 4]⟩,
    ⟨(some 13), none, .load 1 false, [.tmp 12]⟩,
    ⟨(some 14), none, .bin .lss, [.tmp 13, .c (.t (.int .i64 1))]⟩,
    ⟨(some 15), none, .mv, [.tmp 14]⟩,
    ⟨(some 16), some (15, false), .faddr 0, [.tmp 4]⟩,
    ⟨(some 17), some (15, false), .load 1 false, [.tmp 16]⟩,
    ⟨(some 18), some (15, false), .bin .gtr, [.tmp 17, .c (.t (.int .i64 99999))]⟩,
    ⟨(some 19), none, .pick, [.tmp 15, .c (.t (.bool true)), .tmp 18]⟩,
    ⟨(some 20), none, .mv, [.tmp 19]⟩,
    ⟨(some 21), some (20, false), .faddr 1, [.tmp 4]⟩,
    ⟨(some 22), some (20, false), .load 1 false, [.tmp 21]⟩,
    ⟨(some 23), some (20, false), .bin .lss, [.tmp 22, .c (.t (.int .i64 1))]⟩,
    ⟨(some 24), none, .pick, [.tmp 20, .c (.t (.bool true)), .tmp 23]⟩,
    ⟨(some 25), none, .mv, [.tmp 24]⟩,
    ⟨(some 26), some (25, false), .faddr 1, [.tmp 4]⟩,
    ⟨(some 27), some (25, false), .load 1 false, [.tmp 26]⟩,
    ⟨(some 28), some (25, false), .bin .gtr, [.tmp 27, .c (.t (.int .i64 5))]⟩,
    ⟨(some 29), none, .pick, [.tmp 25, .c (.t (.bool true)), .tmp 28]⟩] false)
  (.cd (.tmp 29)
   (.sq (.rg [
     ⟨(some 6), none, .mv, [.c (.t (.bool false))]⟩] false)
   (.rt))
   (.skip)))
  (.sq (.sq (.rg [
    ⟨(some 30), none, .mv, [.tmp 2]⟩,
    ⟨(some 31), none, .mv, [.tmp 30]⟩,
    ⟨(some 32), some (31, true), .faddr 2, [.tmp 4]⟩,
    ⟨(some 33), some (31, true), .load 1 false, [.tmp 32]⟩,
    ⟨(some 34), some (31, true), .bin .lss, [.tmp 33, .c (.t (.int .i64 1))]⟩,
    ⟨(some 35), some (31, true), .mv, [.tmp 34]⟩,
    ⟨(some 36), some (35, false), .faddr 2, [.tmp 4]⟩,
    ⟨(some 37), some (35, false), .load 1 false, [.tmp 36]⟩,
    ⟨(some 38), some (35, false), .bin .gtr, [.tmp 37, .c (.t (.int .i64 3))]⟩,
    ⟨(some 39), some (31, true), .pick, [.tmp 35, .c (.t (.bool true)), .tmp 38]⟩,
    ⟨(some 40), none, .pick, [.tmp 31, .tmp 39, .c (.t (.bool false))]⟩,
    ⟨(some 41), none, .mv, [.tmp 40]⟩,
    ⟨(some 42), some (41, false), .mv, [.tmp 2]⟩,
    ⟨(some 43), some (41, false), .un .not, [.tmp 42]⟩,
    ⟨(some 44), some (41, false), .mv, [.tmp 43]⟩,
    ⟨(some 45), some (44, true), .faddr 2, [.tmp 4]⟩,
    ⟨(some 46), some (44, true), .load 1 false, [.tmp 45]⟩,
    ⟨(some 47), some (44, true), .bin .neq, [.tmp 46, .c (.t (.int .i64 0))]⟩,
    ⟨(some 48), some (41, false), .pick, [.tmp 44, .tmp 47, .c (.t (.bool false))]⟩,
    ⟨(some 49), none, .pick, [.tmp 41, .c (.t (.bool true)), .tmp 48]⟩] false)
  (.cd (.tmp 49)
   (.sq (.rg [
     ⟨(some 6), none, .mv, [.c (.t (.bool false))]⟩] false)
   (.rt))
   (.skip)))
  (.sq (.sq (.rg [
    ⟨(some 50), none, .faddr 3, [.tmp 4]⟩,
    ⟨(some 51), none, .load 1 false, [.tmp 50]⟩,
    ⟨(some 52), none, .bin .eql, [.tmp 51, .c (.t (.int .i64 0))]⟩] false)
  (.cd (.tmp 52)
   (.sq (.rg [
     ⟨(some 6), none, .mv, [.c (.t (.bool true))]⟩] false)
   (.rt))
   (.skip)))
  (.sq (.rg [
    ⟨(some 54), none, .mv, [.tmp 0]⟩,
    ⟨(some 55), none, .faddr 3, [.tmp 4]⟩,
    ⟨(some 56), none, .load 1 false, [.tmp 55]⟩,
    ⟨(some 57), none, .call 88, [.tmp 54, .tmp 56]⟩,
    ⟨(some 53), none, .mv, [.tmp 57]⟩,
    ⟨(some 58), none, .ext 0, [.tmp 53]⟩,
    ⟨(some 59), none, .ext 1, [.tmp 53]⟩,
    ⟨(some 7), none, .alloc [.t (.int .i64 0), .t (.int .i64 0), .t (.int .i64 0), .t (.int .i64 0)], []⟩,
    ⟨none, none, .store 4, [.tmp 7, .tmp 58]⟩,
    ⟨(some 8), none, .mv, [.tmp 59]⟩] false)
  (.sq (.sq (.rg [
    ⟨(some 60), none, .mv, [.tmp 8]⟩,
    ⟨(some 61), none, .un .not, [.tmp 60]⟩,
    ⟨(some 62), none, .mv, [.tmp 61]⟩,
    ⟨(some 63), some (62, false), .faddr 0, [.tmp 7]⟩,
    ⟨(some 64), some (62, false), .load 1 false, [.tmp 63]⟩,
    ⟨(some 65), some (62, false), .faddr 0, [.tmp 4]⟩,
    ⟨(some 66), some (62, false), .load 1 false, [.tmp 65]⟩,
    ⟨(some 67), some (62, false), .bin .eql, [.tmp 64, .tmp 66]⟩,
    ⟨(some 68), none, .pick, [.tmp 62, .c (.t (.bool true)), .tmp 67]⟩,
    ⟨(some 69), none, .mv, [.tmp 68]⟩,
    ⟨(some 70), some (69, false), .faddr 1, [.tmp 7]⟩,
    ⟨(some 71), some (69, false), .load 1 false, [.tmp 70]⟩,
    ⟨(some 72), some (69, false), .faddr 1, [.tmp 4]⟩,
    ⟨(some 73), some (69, false), .load 1 false, [.tmp 72]⟩,
    ⟨(some 74), some (69, false), .bin .neq, [.tmp 71, .tmp 73]⟩,
    ⟨(some 75), none, .pick, [.tmp 69, .c (.t (.bool true)), .tmp 74]⟩] false)
  (.cd (.tmp 75)
   (.sq (.rg [
     ⟨(some 6), none, .mv, [.c (.t (.bool false))]⟩] false)
   (.rt))
   (.skip)))
  (.sq (.rg [
    ⟨(some 76), none, .mv, [.tmp 0]⟩,
    ⟨(some 77), none, .faddr 0, [.tmp 4]⟩,
    ⟨(some 78), none, .load 1 false, [.tmp 77]⟩,
    ⟨(some 79), none, .call 101, [.tmp 76, .tmp 78]⟩,
    ⟨(some 9), none, .mv, [.tmp 79]⟩] false)
  (.sq (.rg [
    ⟨(some 81), none, .mv, [.tmp 0]⟩,
    ⟨(some 82), none, .mv, [.tmp 9]⟩,
    ⟨(some 83), none, .mv, [.tmp 9]⟩,
    ⟨(some 84), none, .lenL, [.tmp 83]⟩,
    ⟨(some 85), none, .bin .sub, [.tmp 84, .c (.t (.int .i64 1))]⟩,
    ⟨(some 86), none, .iaS 1, [.tmp 82, .tmp 85]⟩,
    ⟨(some 87), none, .load 1 false, [.tmp 86]⟩,
    ⟨(some 88), none, .call 88, [.tmp 81, .tmp 87]⟩,
    ⟨(some 80), none, .mv, [.tmp 88]⟩,
    ⟨(some 89), none, .ext 0, [.tmp 80]⟩,
    ⟨(some 90), none, .ext 1, [.tmp 80]⟩,
    ⟨(some 10), none, .alloc [.t (.int .i64 0), .t (.int .i64 0), .t (.int .i64 0), .t (.int .i64 0)], []⟩,
    ⟨none, none, .store 4, [.tmp 10, .tmp 89]⟩,
    ⟨(some 11), none, .mv, [.tmp 90]⟩] false)
  (.sq (.rg [
    ⟨(some 91), none, .faddr 3, [.tmp 10]⟩,
    ⟨(some 92), none, .load 1 false, [.tmp 91]⟩,
    ⟨(some 93), none, .bin .eql, [.tmp 92, .c (.t (.int .i64 0))]⟩,
    ⟨(some 6), none, .mv, [.tmp 93]⟩] false)
  (.rt)))))))))
theorem k_97 : ecF Try.prog 97 = some (94, c_chart_proper_97, [.tm 6]) := by kernel_rfl

/-- tallystone/group.letter -/
def c_group_letter_98 : EC :=
  .sq (.rg [
    ⟨(some 2), none, .mv, [.c (.t (.bool false))]⟩] false)
  (.sq (.rg [
    ⟨(some 3), none, .mv, [.tmp 0]⟩,
    ⟨(some 4), none, .bin .geq, [.tmp 3, .c (.t (.int .u8 97))]⟩,
    ⟨(some 5), none, .mv, [.tmp 4]⟩,
    ⟨(some 6), some (5, true), .mv, [.tmp 0]⟩,
    ⟨(some 7), some (5, true), .bin .leq, [.tmp 6, .c (.t (.int .u8 122))]⟩,
    ⟨(some 8), none, .pick, [.tmp 5, .tmp 7, .c (.t (.bool false))]⟩,
    ⟨(some 9), none, .mv, [.tmp 8]⟩,
    ⟨(some 10), some (9, false), .mv, [.tmp 0]⟩,
    ⟨(some 11), some (9, false), .bin .geq, [.tmp 10, .c (.t (.int .u8 65))]⟩,
    ⟨(some 12), some (9, false), .mv, [.tmp 11]⟩,
    ⟨(some 13), some (12, true), .mv, [.tmp 0]⟩,
    ⟨(some 14), some (12, true), .bin .leq, [.tmp 13, .c (.t (.int .u8 90))]⟩,
    ⟨(some 15), some (9, false), .pick, [.tmp 12, .tmp 14, .c (.t (.bool false))]⟩,
    ⟨(some 16), none, .pick, [.tmp 9, .c (.t (.bool true)), .tmp 15]⟩,
    ⟨(some 2), none, .mv, [.tmp 16]⟩] false)
  (.rt))
theorem k_98 : ecF Try.prog 98 = some (17, c_group_letter_98, [.tm 2]) := by kernel_rfl

/-- tallystone/mapping.link -/
def c_mapping_link_99 : EC :=
  .sq (.rg [
    ⟨(some 3), none, .box, [.tmp 0]⟩,
    ⟨(some 5), none, .box, [.tmp 2]⟩,
    ⟨(some 6), none, .mv, [.c (.t (.bool false))]⟩] false)
  (.sq (.rg [
    ⟨(some 12), none, .faddr 2, [.tmp 3]⟩,
    ⟨(some 13), none, .load 1 false, [.tmp 12]⟩,
    ⟨(some 14), none, .faddr 0, [.tmp 5]⟩,
    ⟨(some 15), none, .load 1 false, [.tmp 14]⟩,
    ⟨(some 16), none, .call 88, [.tmp 13, .tmp 15]⟩,
    ⟨(some 11), none, .mv, [.tmp 16]⟩,
    ⟨(some 17), none, .ext 0, [.tmp 11]⟩,
    ⟨(some 18), none, .ext 1, [.tmp 11]⟩,
    ⟨(some 7), none, .alloc [.t (.int .i64 0), .t (.int .i64 0), .t (.int .i64 0), .t (.int .i64 0)], []⟩,
    ⟨none, none, .store 4, [.tmp 7, .tmp 17]⟩,
    ⟨(some 8), none, .mv, [.tmp 18]⟩] false)
  (.sq (.rg [
    ⟨(some 20), none, .mv, [.tmp 1]⟩,
    ⟨(some 21), none, .faddr 1, [.tmp 5]⟩,
    ⟨(some 22), none, .load 1 false, [.tmp 21]⟩,
    ⟨(some 23), none, .call 88, [.tmp 20, .tmp 22]⟩,
    ⟨(some 19), none, .mv, [.tmp 23]⟩,
    ⟨(some 24), none, .ext 0, [.tmp 19]⟩,
    ⟨(some 25), none, .ext 1, [.tmp 19]⟩,
    ⟨(some 9), none, .alloc [.t (.int .i64 0), .t (.int .i64 0), .t (.int .i64 0), .t (.int .i64 0)], []⟩,
    ⟨none, none, .store 4, [.tmp 9, .tmp 24]⟩,
    ⟨(some 10), none, .mv, [.tmp 25]⟩] false)
  (.sq (.rg [
    ⟨(some 26), none, .mv, [.tmp 8]⟩,
    ⟨(some 27), none, .mv, [.tmp 26]⟩,
    ⟨(some 28), some (27, true), .mv, [.tmp 10]⟩,
    ⟨(some 29), none, .pick, [.tmp 27, .tmp 28, .c (.t (.bool false))]⟩,
    ⟨(some 30), none, .mv, [.tmp 29]⟩,
    ⟨(some 31), some (30, true), .faddr 1, [.tmp 7]⟩,
    ⟨(some 32), some (30, true), .load 1 false, [.tmp 31]⟩,
    ⟨(some 33), some (30, true), .faddr 1, [.tmp 9]⟩,
    ⟨(some 34), some (30, true), .load 1 false, [.tmp 33]⟩,
    ⟨(some 35), some (30, true), .bin .eql, [.tmp 32, .tmp 34]⟩,
    ⟨(some 36), none, .pick, [.tmp 30, .tmp 35, .c (.t (.bool false))]⟩,
    ⟨(some 37), none, .mv, [.tmp 36]⟩,
    ⟨(some 38), some (37, true), .faddr 2, [.tmp 5]⟩,
    ⟨(some 39), some (37, true), .load 1 false, [.tmp 38]⟩,
    ⟨(some 40), some (37, true), .call 94, [.tmp 39]⟩,
    ⟨(some 41), none, .pick, [.tmp 37, .tmp 40, .c (.t (.bool false))]⟩,
    ⟨(some 6), none, .mv, [.tmp 41]⟩] false)
  (.rt))))
theorem k_99 : ecF Try.prog 99 = some (42, c_mapping_link_99, [.tm 6]) := by kernel_rfl

/-- slices.IndexFunc[[]tallystone/api.Link,tallystone/api.Link] -/
def c_api_Link__100 : EC :=
  .sq (.rg [
    ⟨(some 4), none, .mv, [.c (.t (.int .i64 0))]⟩] false)
  (.sq (.sq (.rg [
    ⟨(some 6), none, .mv, [.tmp 0]⟩,
    ⟨(some 7), none, .lenL, [.tmp 6]⟩,
    ⟨(some 8), none, .mv, [.c (.t (.int .i64 0))]⟩] false)
  (.bk 0 (.lp (.sq (.rg [
     ⟨(some 9), none, .bin .lss, [.tmp 8, .tmp 7]⟩] false)
   (.sq (.cd (.tmp 9)
    (.skip)
    (.ex 0))
   (.sq (.bk 1 (.sq (.rg [
     ⟨(some 10), none, .mv, [.tmp 8]⟩,
     ⟨(some 5), none, .mv, [.tmp 10]⟩] false)
   (.sq (.rg [
     ⟨(some 11), none, .mv, [.tmp 1]⟩,
     ⟨(some 12), none, .mv, [.tmp 0]⟩,
     ⟨(some 13), none, .mv, [.tmp 5]⟩,
     ⟨(some 14), none, .iaS 3, [.tmp 12, .tmp 13]⟩,
     ⟨(some 15), none, .load 3 true, [.tmp 14]⟩,
     ⟨(some 16), none, .callv, [.tmp 11, .tmp 15]⟩] false)
   (.cd (.tmp 16)
    (.sq (.rg [
      ⟨(some 17), none, .mv, [.tmp 5]⟩,
      ⟨(some 4), none, .mv, [.tmp 17]⟩] false)
    (.rt))
    (.skip)))))
   (.rg [
     ⟨(some 18), none, .bin .add, [.tmp 8, .c (.t (.int .i64 1))]⟩,
     ⟨(some 8), none, .mv, [.tmp 18]⟩] false)))))))
  (.sq (.rg [
    ⟨(some 4), none, .mv, [.c (.t (.int .i64 (-1)))]⟩] false)
  (.rt)))
theorem k_100 : ecF Try.prog 100 = some (19, c_api_Link__100, [.tm 4]) := by kernel_rfl

theorem mix : Try.prog.follows .mixedOrders = true := by kernel_rfl
end Go.Proofs.Ythfnaaeddlnckaa
