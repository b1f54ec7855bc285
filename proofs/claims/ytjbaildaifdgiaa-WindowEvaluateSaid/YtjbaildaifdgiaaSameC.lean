/-
  treatyref25.SameChoice on two choices with the same data.
-/
import Derived.Test.YtjbaildaifdgiaaSameW
import Derived.Test.YtjbaildaifdgiaaSame
import Derived.Deep.RegionHeld3
import Derived.Outline
namespace Go.Proofs.Ytjbaildaifdgiaa
open Go.RowKit
set_option linter.unusedVariables false

theorem sameB_refl (xs : List Int) : sameB xs xs = true := by simp [sameB]

set_option maxHeartbeats 1000000 in
theorem sameChoice_self (W T R W' T' R' : Option Addr) (wc tc rc wc' tc' rc' : Nat) (ws : List Win) (ts rs : List Int) (tot : Int) (w : World)
    (hwl : ws.length ≤ 9223372036854775807) (htl : ts.length ≤ 9223372036854775807) (hrl : rs.length ≤ 9223372036854775807)
    (hW : Wins w 0 W ws) (hT : Ints w 0 T ts) (hR : Ints w 0 R rs) (hW' : Wins w 0 W' ws) (hT' : Ints w 0 T' ts) (hR' : Ints w 0 R' rs) :
    Calls Try.prog 32 #[.agg #[.slice W ws.length wc, .slice T ts.length tc, .slice R rs.length rc, .int .i64 tot], .agg #[.slice W' ws.length wc', .slice T' ts.length tc', .slice R' rs.length rc', .int .i64 tot]] w fun e w' => e = .returned (.bool true) ∧ Below w.heap.size w w' := by
  have C1 : Hid (∀ V, Wins V 0 W ws → Wins V 0 W' ws → _) := fun V h h' => sameWindows_self W W' wc wc' ws V hwl h h'
  have C2 : Hid (∀ V, Ints V 0 T ts → Ints V 0 T' ts → _) := fun V h h' => sameInts_any T T' tc tc' ts ts V h h' htl htl
  have C3 : Hid (∀ V, Ints V 0 R rs → Ints V 0 R' rs → _) := fun V h h' => sameInts_any R R' rc rc' rs rs V h h' hrl hrl
  rw [sameB_refl] at C2 C3
  obtain ⟨nw, hnw⟩ : ∃ k, k = ws.length := ⟨_, rfl⟩
  obtain ⟨nt, hnt⟩ : ∃ k, k = ts.length := ⟨_, rfl⟩
  obtain ⟨nr, hnr⟩ : ∃ k, k = rs.length := ⟨_, rfl⟩
  rw [← hnw] at C1 ⊢
  rw [← hnt] at C2 ⊢
  rw [← hnr] at C3 ⊢
  clear hnw hnt hnr hwl htl hrl
  go_enter Try.func32, Try.ntmps32
  go_wp2_with fail
  obtain ⟨w1, hw1⟩ : ∃ w1 : World, w1 = (w.alloc (.cells #[.slice W nw wc, .slice T nt tc, .slice R nr rc, .int .i64 tot] 59)).alloc (.cells #[.slice W' nw wc', .slice T' nt tc', .slice R' nr rc', .int .i64 tot] 59) := ⟨_, rfl⟩
  have hb1 : Below w.heap.size w w1 := by rw [hw1]; exact (below_alloc w _).alloc (by simp) _
  have hA : w1.heap[w.heap.size]? = some (.cells #[.slice W nw wc, .slice T nt tc, .slice R nr rc, .int .i64 tot] 59 (0, 0)) := by
    rw [hw1]; exact (Below.heap_alloc _ _ _ (by simp)).trans (heap_alloc_new w _)
  have hB : w1.heap[w.heap.size + 1]? = some (.cells #[.slice W' nw wc', .slice T' nt tc', .slice R' nr rc', .int .i64 tot] 59 (0, 0)) := by
    have h := heap_alloc_new (w.alloc (.cells #[.slice W nw wc, .slice T nt tc, .slice R nr rc, .int .i64 tot] 59)) (.cells #[.slice W' nw wc', .slice T' nt tc', .slice R' nr rc', .int .i64 tot] 59)
    have e : (w.alloc (.cells #[.slice W nw wc, .slice T nt tc, .slice R nr rc, .int .i64 tot] 59)).heap.size = w.heap.size + 1 := by simp
    rw [e] at h; rw [hw1]; exact h
  have hs1 : w.heap.size + 1 < w1.heap.size := by rw [hw1]; simp
  rw [← hw1]
  clear hw1
  refine (C1.out _ (hW.below hb1) (hW'.below hb1)).mono ?_
  rintro e w2 ⟨rfl, hb2⟩
  have hA2 := (hb2.block _ (by omega)).trans hA
  have hB2 := (hb2.block _ (by omega)).trans hB
  have hs2 := Nat.lt_of_lt_of_le hs1 hb2.size
  have hb02 := hb1.trans (hb2.mono hb1.size)
  have a1 : w2.cell? ⟨w.heap.size, 1, none⟩ = some (.slice T nt tc) := by simp [World.cell?, hA2]
  have d1 : w2.cell? ⟨w.heap.size + 1, 1, none⟩ = some (.slice T' nt tc') := by simp [World.cell?, hB2]
  clear hb1 hb2 hA hB hs1
  go_wp2_with fail
  refine (C2.out _ (hT.below hb02) (hT'.below hb02)).mono ?_
  rintro e w3 ⟨rfl, hb3⟩
  have hA3 := (hb3.block _ (by omega)).trans hA2
  have hB3 := (hb3.block _ (by omega)).trans hB2
  have hs3 := Nat.lt_of_lt_of_le hs2 hb3.size
  have hb03 := hb02.trans (hb3.mono hb02.size)
  have a2 : w3.cell? ⟨w.heap.size, 2, none⟩ = some (.slice R nr rc) := by simp [World.cell?, hA3]
  have d2 : w3.cell? ⟨w.heap.size + 1, 2, none⟩ = some (.slice R' nr rc') := by simp [World.cell?, hB3]
  clear hb02 hb3 hA2 hB2 hs2 a1 d1
  go_wp2_with fail
  refine (C3.out _ (hR.below hb03) (hR'.below hb03)).mono ?_
  rintro e w4 ⟨rfl, hb4⟩
  have hA4 := (hb4.block _ (by omega)).trans hA3
  have hB4 := (hb4.block _ (by omega)).trans hB3
  have a3 : w4.cell? ⟨w.heap.size, 3, none⟩ = some (.int .i64 tot) := by simp [World.cell?, hA4]
  have d3 : w4.cell? ⟨w.heap.size + 1, 3, none⟩ = some (.int .i64 tot) := by simp [World.cell?, hB4]
  have hb04 := hb03.trans (hb4.mono hb03.size)
  clear hb03 hb4 hA3 hB3 a2 d2
  go_wp2_with fail
  go_ret
  exact ⟨rfl, hb04⟩

end Go.Proofs.Ytjbaildaifdgiaa
