/-
  treatylaw27.awake: it returns true.
-/
import Derived.Test.YtjbaildaifdgiaaBound
import Derived.Test.YtjbaildaifdgiaaSame
namespace Go.Proofs.Ytjbaildaifdgiaa
open Go.RowKit
set_option linter.unusedVariables false

def exL7 : List P2 := [⟨10, 20⟩]
def exP7 : List P2 := [⟨0, 8⟩, ⟨20, 8⟩, ⟨30, 8⟩]
theorem exB1 : boundB exP7 24 exL7 [6, 6, 0, 0] = true := by decide +kernel
theorem exB2 : boundB exP7 24 exL7 [7, 6, 0, 0] = true := by decide +kernel
theorem exB3 : boundB exP7 24 exL7 [5, 6, 0, 0] = false := by decide +kernel
theorem exB4 : boundB exP7 24 exL7 [6, 6, 0] = false := by decide +kernel

set_option maxHeartbeats 1000000 in
theorem awake27_any (w : World) :
    Calls Try.prog 11 #[] w fun e w' => e = .returned (.bool true) ∧ Below w.heap.size w w' := by
  go_enter Try.func11, Try.ntmps11
  go_wp2_with fail
  obtain ⟨w1, hw1⟩ : ∃ w1 : World, w1 = w.alloc (.cells #[.int .i64 10, .int .i64 20] 75) := ⟨_, rfl⟩
  obtain ⟨w2, hw2⟩ : ∃ w2 : World, w2 = w1.alloc (.cells #[.int .i64 0, .int .i64 8, .int .i64 20, .int .i64 8, .int .i64 30, .int .i64 8] 48) := ⟨_, rfl⟩
  have hl : Pairs w2 0 (some ⟨w.heap.size, 0, none⟩) exL7 := by
    have h1 : Pairs w1 w.heap.size (some ⟨w.heap.size, 0, none⟩) exL7 := by rw [hw1]; exact pairs_new w exL7 _
    rw [hw2]; exact (h1.below (below_alloc _ _)).low (Nat.zero_le _)
  have hs1 : w1.heap.size = w.heap.size + 1 := by rw [hw1]; simp
  have hs2 : w2.heap.size = w.heap.size + 2 := by rw [hw2]; simp [hs1]
  have hp : Pairs w2 0 (some ⟨w.heap.size + 1, 0, none⟩) exP7 := by
    rw [hw2, ← hs1]; exact (pairs_new w1 exP7 _).low (Nat.zero_le _)
  have hb2 : Below w.heap.size w w2 := by
    rw [hw2, hw1]; exact (below_alloc w _).alloc (by simp) _
  rw [← hw1, ← hw2]
  clear hw1 hw2 hs1
  have b3 := below_alloc w2 (.cells #[.int .i64 6, .int .i64 6, .int .i64 0, .int .i64 0] 3)
  have C1 := bound_any (some ⟨w.heap.size + 1, 0, none⟩) 3 exP7 24 (some ⟨w.heap.size, 0, none⟩) 1 exL7 (some ⟨w2.heap.size, 0, none⟩) 4 [6, 6, 0, 0] _ (by decide) (by decide) (by simp) (hp.below b3) (hl.below b3) ((ints_new w2 [6, 6, 0, 0] 3).low (Nat.zero_le _))
  rw [exB1] at C1
  rw [hs2] at C1
  refine C1.mono ?_
  rintro e w3 ⟨rfl, hb3⟩
  clear C1 hs2
  have hb23 : Below w2.heap.size w2 w3 := b3.trans (hb3.mono b3.size)
  clear b3 hb3
  go_wp2_with fail
  have b4 := below_alloc w3 (.cells #[.int .i64 7, .int .i64 6, .int .i64 0, .int .i64 0] 3)
  have C2 := bound_any (some ⟨w.heap.size + 1, 0, none⟩) 3 exP7 24 (some ⟨w.heap.size, 0, none⟩) 1 exL7 (some ⟨w3.heap.size, 0, none⟩) 4 [7, 6, 0, 0] _ (by decide) (by decide) (by simp) ((hp.below hb23).below b4) ((hl.below hb23).below b4) ((ints_new w3 [7, 6, 0, 0] 3).low (Nat.zero_le _))
  rw [exB2] at C2
  refine C2.mono ?_
  rintro e w4 ⟨rfl, hb4⟩
  clear C2
  have hb24 : Below w2.heap.size w2 w4 := hb23.trans ((b4.trans (hb4.mono b4.size)).mono hb23.size)
  clear b4 hb4 hb23
  go_wp2_with fail
  have b5 := below_alloc w4 (.cells #[.int .i64 5, .int .i64 6, .int .i64 0, .int .i64 0] 3)
  have C3 := bound_any (some ⟨w.heap.size + 1, 0, none⟩) 3 exP7 24 (some ⟨w.heap.size, 0, none⟩) 1 exL7 (some ⟨w4.heap.size, 0, none⟩) 4 [5, 6, 0, 0] _ (by decide) (by decide) (by simp) ((hp.below hb24).below b5) ((hl.below hb24).below b5) ((ints_new w4 [5, 6, 0, 0] 3).low (Nat.zero_le _))
  rw [exB3] at C3
  refine C3.mono ?_
  rintro e w5 ⟨rfl, hb5⟩
  clear C3
  have hb25 : Below w2.heap.size w2 w5 := hb24.trans ((b5.trans (hb5.mono b5.size)).mono hb24.size)
  clear b5 hb5 hb24
  go_wp2_with fail
  have b6 := below_alloc w5 (.cells #[.int .i64 6, .int .i64 6, .int .i64 0] 3)
  have C4 := bound_any (some ⟨w.heap.size + 1, 0, none⟩) 3 exP7 24 (some ⟨w.heap.size, 0, none⟩) 1 exL7 (some ⟨w5.heap.size, 0, none⟩) 3 [6, 6, 0] _ (by decide) (by decide) (by simp) ((hp.below hb25).below b6) ((hl.below hb25).below b6) ((ints_new w5 [6, 6, 0] 3).low (Nat.zero_le _))
  rw [exB4] at C4
  refine C4.mono ?_
  rintro e w6 ⟨rfl, hb6⟩
  clear C4
  have hb26 : Below w2.heap.size w2 w6 := hb25.trans ((b6.trans (hb6.mono b6.size)).mono hb25.size)
  clear b6 hb6 hb25
  go_wp2_with fail
  go_ret
  exact ⟨rfl, hb2.trans (hb26.mono hb2.size)⟩

end Go.Proofs.Ytjbaildaifdgiaa
