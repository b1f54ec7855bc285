/-
  treatylaw26.awake: it returns true.
-/
import Derived.Test.YtjbaildaifdgiaaSame
import Derived.Test.YtjbaildaifdgiaaSpans
import Derived.Test.YtjbaildaifdgiaaEq2
namespace Go.Proofs.Ytjbaildaifdgiaa
open Go.RowKit
set_option linter.unusedVariables false

def exL : List P2 := [⟨10, 20⟩]
def exP : List P2 := [⟨0, 8⟩, ⟨20, 8⟩, ⟨30, 8⟩]
theorem exChk : chkErr exP 24 exL = 0 := by decide +kernel
theorem exVals : valuesF exP 24 exL = [6, 6, 0, 0] := by decide +kernel
theorem exSpans : (spansOf exP 24 exL).length = 1 ∧ (spansOf exP 24 exL).flatMap P2.cells = [.int .i64 1, .int .i64 2] := by
  have h : spansOf exP 24 exL = [⟨1, 2⟩] := by rfl
  rw [h]; exact ⟨rfl, rfl⟩

set_option maxHeartbeats 1000000 in
theorem awake26_any (w : World) :
    Calls Try.prog 18 #[] w fun e w' => e = .returned (.bool true) ∧ Below w.heap.size w w' := by
  go_enter Try.func18, Try.ntmps18
  go_wp2_with fail
  obtain ⟨w1, hw1⟩ : ∃ w1 : World, w1 = w.alloc (.cells #[.int .i64 10, .int .i64 20] 75) := ⟨_, rfl⟩
  obtain ⟨w2, hw2⟩ : ∃ w2 : World, w2 = w1.alloc (.cells #[.int .i64 0, .int .i64 8, .int .i64 20, .int .i64 8, .int .i64 30, .int .i64 8] 48) := ⟨_, rfl⟩
  have hl : Pairs w2 0 (some ⟨w.heap.size, 0, none⟩) exL := by
    have h1 : Pairs w1 w.heap.size (some ⟨w.heap.size, 0, none⟩) exL := by rw [hw1]; exact pairs_new w exL _
    rw [hw2]; exact (h1.below (below_alloc _ _)).low (Nat.zero_le _)
  have hs1 : w1.heap.size = w.heap.size + 1 := by rw [hw1]; simp
  have hp : Pairs w2 0 (some ⟨w.heap.size + 1, 0, none⟩) exP := by
    rw [hw2, ← hs1]; exact (pairs_new w1 exP _).low (Nat.zero_le _)
  have hb2 : Below w.heap.size w w2 := by
    rw [hw2, hw1]; exact (below_alloc w _).alloc (by simp) _
  rw [← hw1, ← hw2]
  clear hw1 hw2 hs1
  have C1 := values_any (some ⟨w.heap.size + 1, 0, none⟩) 3 exP 24 (some ⟨w.heap.size, 0, none⟩) 1 exL w2 (by decide) (by decide) hp hl
  rw [exVals, exChk] at C1
  refine C1.mono ?_
  rintro e w3 ⟨G, cc, rfl, hG, hb3⟩
  clear C1
  go_wp2_with fail
  have hb23 := hb2.trans (hb3.mono hb2.size)
  have C2 := spans_any (some ⟨w.heap.size + 1, 0, none⟩) 3 exP 24 (some ⟨w.heap.size, 0, none⟩) 1 exL w3 (by decide) (by decide) (hp.below hb3) (hl.below hb3)
  rw [exSpans.1, exSpans.2, exChk] at C2
  refine C2.mono ?_
  rintro e w4 ⟨v, rfl, hown, hb4⟩
  clear C2
  have hb24 := hb23.trans (hb4.mono hb23.size)
  have hG4 := (hG.below hb4).low (Nat.zero_le _)
  go_wp2_with fail
  have hb5 := below_alloc w4 (.cells #[.int .i64 6, .int .i64 6, .int .i64 0, .int .i64 0] 3)
  have C3 := sameInts_any G (some ⟨w4.heap.size, 0, none⟩) cc 4 [6, 6, 0, 0] [6, 6, 0, 0] (w4.alloc (.cells #[.int .i64 6, .int .i64 6, .int .i64 0, .int .i64 0] 3)) (hG4.below hb5) ((ints_new w4 [6, 6, 0, 0] _).low (Nat.zero_le _)) (by simp) (by simp)
  rw [show sameB [6, 6, 0, 0] [6, 6, 0, 0] = true from by decide] at C3
  refine C3.mono ?_
  rintro e w5 ⟨rfl, hb6⟩
  clear C3
  obtain ⟨A, c, rfl, _⟩ := own_shape hown
  have hpr : Pairs w4 w3.heap.size A [⟨1, 2⟩] := pairs_of_own (xs := [⟨1, 2⟩]) hown
  obtain ⟨g, off, rfl, _, _, s0, s1⟩ := ((hpr.below hb5).below hb6).at_ (i := 0) rfl
  simp only [Nat.zero_mul, Nat.add_zero] at s0 s1
  have hbw : Below w.heap.size w w5 := (hb24.trans (hb5.mono hb24.size)).trans (hb6.mono (Nat.le_trans hb24.size hb5.size))
  clear hpr hown hb5 hb6 hb24 hb23 hG hG4 hp hl
  have heq := eql2 1 2 1 2
  go_wp2_with fail
  go_ret
  exact ⟨rfl, hbw⟩

end Go.Proofs.Ytjbaildaifdgiaa
