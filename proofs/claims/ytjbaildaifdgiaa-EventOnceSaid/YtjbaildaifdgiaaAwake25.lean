/-
  treatylaw25.awake: true.
-/
import Derived.Test.YtjbaildaifdgiaaAsg2
import Derived.Test.YtjbaildaifdgiaaSame
import Derived.Test.YtjbaildaifdgiaaPerils
namespace Go.Proofs.Ytjbaildaifdgiaa
open Go.RowKit
set_option linter.unusedVariables false

def exL5 : List Los := [⟨1, 0, 0, 10, 2, 0, 0, 0, 0, 0⟩, ⟨2, 0, 0, 30, 2, 0, 0, 0, 0, 0⟩, ⟨3, 0, 0, 30, 3, 0, 0, 0, 0, 0⟩]
def exW5 : List Win := [⟨2, 10, 20⟩, ⟨2, 30, 31⟩]
theorem exA5 : asgF exL5 exW5 = [0, 1, -1] := by decide +kernel
theorem exP5 : perilsF exL5 = [2, 3] := by
  unfold perilsF
  rw [show perilsL exL5 = [2, 2, 3] from rfl, List.mergeSort_of_pairwise (by decide)]
  decide +kernel
theorem exS1 : sameB [2, 3] [2, 3] = true := by decide
theorem exS2 : sameB [0, 1, -1] [0, 1, -1] = true := by decide

set_option maxRecDepth 100000 in
set_option maxHeartbeats 1000000 in
theorem awake25_any (w : World) :
    Calls Try.prog 33 #[] w fun e w' => e = .returned (.bool true) ∧ Below w.heap.size w w' := by
  go_enter Try.func33, Try.ntmps33
  go_wp2_with fail
  obtain ⟨w1, hw1⟩ : ∃ w1 : World, w1 = w.alloc (.cells (exL5.flatMap Los.cells).toArray 65) := ⟨_, rfl⟩
  obtain ⟨w2, hw2⟩ : ∃ w2 : World, w2 = w1.alloc (.cells (exW5.flatMap Win.cells).toArray 69) := ⟨_, rfl⟩
  have hs1 : w1.heap.size = w.heap.size + 1 := by rw [hw1]; simp
  have hl1 : Losses w1 0 (some ⟨w.heap.size, 0, none⟩) exL5 := by rw [hw1]; exact (sl_new (enc := Los.cells) (k := 10) (fun _ => rfl) w exL5 _).low (Nat.zero_le _)
  have hl2 : Losses w2 0 (some ⟨w.heap.size, 0, none⟩) exL5 := by rw [hw2]; exact hl1.below (below_alloc _ _)
  have hv2 : Wins w2 0 (some ⟨w.heap.size + 1, 0, none⟩) exW5 := by rw [hw2, ← hs1]; exact (sl_new (enc := Win.cells) (k := 3) (fun _ => rfl) w1 exW5 _).low (Nat.zero_le _)
  have hb2 : Below w.heap.size w w2 := by rw [hw2, hw1]; exact (below_alloc w _).alloc (by simp) _
  have C1 := assign_any (some ⟨w.heap.size, 0, none⟩) 3 exL5 (some ⟨w.heap.size + 1, 0, none⟩) 2 exW5 w2 (by decide) (by decide) hl2 hv2
  rw [exA5] at C1
  rw [hw2, hw1] at C1
  refine C1.mono ?_
  rw [← hw1, ← hw2]
  rintro e w3 ⟨G, g, rfl, hG, hb3⟩
  clear C1 hw1 hw2 hs1 hl1 hv2
  have hb03 := hb2.trans (hb3.mono hb2.size)
  have hl3 := hl2.below hb3
  have C2 : Hid (∀ W, Losses W 0 (some ⟨w.heap.size, 0, none⟩) exL5 → _) := fun W h => perils_any (some ⟨w.heap.size, 0, none⟩) 3 exL5 W (by decide) h
  rw [exP5] at C2
  clear hb2 hb3 hl2
  go_wp2_with fail
  refine (C2.out _ hl3).mono ?_
  rintro e w4 ⟨v, rfl, hv, hb4⟩
  obtain ⟨V, vc, rfl, _⟩ := own_shape hv
  have hV : Ints w4 w3.heap.size V [2, 3] := ints_of_own hv
  have hb04 := hb03.trans (hb4.mono hb03.size)
  have hG4 := hG.below hb4
  clear hb4 hv hG hl3 C2
  go_wp2_with fail
  have b5 := below_alloc w4 (.cells #[.int .i64 2, .int .i64 3] 3)
  have S1 := sameInts_any V (some ⟨w4.heap.size, 0, none⟩) vc 2 [2, 3] [2, 3] _ ((hV.below b5).low (Nat.zero_le _)) ((ints_new w4 [2, 3] 3).low (Nat.zero_le _)) (by decide) (by decide)
  rw [exS1] at S1
  refine S1.mono ?_
  rintro e w5 ⟨rfl, hb5⟩
  have hb45 : Below w4.heap.size w4 w5 := b5.trans (hb5.mono b5.size)
  have hb05 := hb04.trans (hb45.mono hb04.size)
  have hG5 := hG4.below hb45
  clear S1 b5 hb5 hb45 hb04 hG4 hV
  go_wp2_with fail
  have b6 := below_alloc w5 (.cells #[.int .i64 0, .int .i64 1, .int .i64 (-1)] 3)
  have S2 := sameInts_any G (some ⟨w5.heap.size, 0, none⟩) g 3 [0, 1, -1] [0, 1, -1] _ ((hG5.below b6).low (Nat.zero_le _)) ((ints_new w5 [0, 1, -1] 3).low (Nat.zero_le _)) (by decide) (by decide)
  rw [exS2] at S2
  refine S2.mono ?_
  rintro e w6 ⟨rfl, hb6⟩
  have hb56 : Below w5.heap.size w5 w6 := b6.trans (hb6.mono b6.size)
  have hb06 := hb05.trans (hb56.mono hb05.size)
  clear S2 b6 hb6 hb56 hb05 hG5
  go_wp2_with fail
  go_ret
  exact ⟨rfl, hb06⟩

end Go.Proofs.Ytjbaildaifdgiaa
