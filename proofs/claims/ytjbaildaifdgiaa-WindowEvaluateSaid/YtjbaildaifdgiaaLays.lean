/-
  treatymade2.Layers: layers that are accepted.
-/
import Derived.Test.YtjbaildaifdgiaaPts
import Derived.Deep.RegionHeld3
import Derived.Deep.RegionWith
namespace Go.Proofs.Ytjbaildaifdgiaa
open Go.RowKit
set_option linter.unusedVariables false

theorem Try.infoLayer : (Try.prog.info? 75).map (fun i => (i.zero, i.size, i.bytes)) = some (some (.agg #[.int .i64 0, .int .i64 0]), 2, 16) := by kernel_rfl

theorem mul_small {r s : Int} (h0 : 0 ≤ r) (h1 : r < 2) (h2 : 0 ≤ s) (h3 : s < 50) : 0 ≤ r * s ∧ r * s < 50 := by
  obtain rfl | rfl : r = 0 ∨ r = 1 := by omega
  · omega
  · omega

set_option maxHeartbeats 1000000 in
theorem layers_any (bd : Nat) (w : World) (hd : Deck w bd) :
    Calls Try.prog 19 #[.pointer (some ⟨bd, 0, none⟩)] w fun e w' => ∃ (v : Value) (xs : List P2), e = .returned v ∧ 1 ≤ xs.length ∧ xs.length ≤ 3 ∧ xs.all okLay = true ∧ w'.ownsRow w.heap.size 75 2 v xs.length (xs.flatMap P2.cells) ∧ Deck w' bd ∧ w.grownBy w' (some bd) := by
  obtain ⟨i0, hi, hz0, hz1, hz2⟩ := info_parts Try.infoLayer
  have hlt := hd.lt
  go_enter Try.func19, Try.ntmps19
  go_wp2_with fail
  refine (small_any bd w hd).mono ?_
  rintro e w1 ⟨r, rfl, hr0, hr1, hd1, hg1⟩
  go_wp2_with fail
  refine (next_any bd 3 w1 (by omega) (by omega) hd1).mono ?_
  rintro e w2 ⟨r', rfl, hr0', hr1', hd2, hg2⟩
  go_wp2_with fail
  go_loopw [3, 4, 5, 6] (fun v t k _ wr => ∃ (xs : List P2) (from_ : Int) (kk : Nat), t = .int .i64 from_ ∧ k = .int .i64 kk ∧ 1 ≤ xs.length + kk ∧ xs.length + kk ≤ 3 ∧ 0 ≤ from_ ∧ from_ ≤ 268435456 + 268435506 * (xs.length : Int) ∧ xs.all okLay = true ∧ wr.ownsRow w.heap.size 75 2 v xs.length (xs.flatMap P2.cells) ∧ Deck wr bd ∧ w.grownBy wr (some bd)) (fun _ _ k _ _ => (intOf k).toNat)
  case atStart =>
    obtain ⟨rn, rfl⟩ := Int.eq_ofNat_of_zero_le hr0'
    exact ⟨[], r, 1 + rn, rfl, val_int (by omega), by simp, by simp; omega, hr0, by simp; omega, rfl, own_nil _ _ _ _, hd2, only_trans hg1 hg2⟩
  case round =>
    obtain ⟨xs, from_, kk, rfl, rfl, hkn1, hkn2, hf0, hf1, hall, hown, hdk, hgr⟩ := hrel
    have HALL := Lib.hid hall
    clear hall
    by_cases hk : 0 < kk
    · go_wp2_with fail
      refine (small_any bd wr hdk).mono ?_
      rintro e w3 ⟨r3, rfl, hr30, hr31, hd3, hg3⟩
      have hown3 := hown.kept hg3 (own_far hown hlt)
      have hgr3 := only_trans hgr hg3
      have hlow := own_low hown3
      go_wp2_with (at_builtin; refine wpList_append_own _ rfl (.tmp 21) (.tmp 23) 23 rfl w.heap.size 75 i0 _ 2 16 Try.underlying23 hi hz0 hz1 hz2 rfl (by decide) _ _ _ rfl ((hown3.alloc _).alloc _) ⟨w3.heap.size + 1, 0, none⟩ 1 1 [.int .i64 from_, .int .i64 (1 + r3)] rfl rfl ?c1 ?c2 ?c3 ?c4 ?c5 ?_)
      case c1 =>
        have := cell_new (w3.alloc (.cells #[.int .i64 from_, .int .i64 (1 + r3)] 75)) [.int .i64 from_, .int .i64 (1 + r3)] 75
        simpa using this
      case c2 => intro u hu; simp at hu; rcases hu with rfl | rfl <;> rfl
      case c3 => unfold maxLen; omega
      case c4 => omega
      case c5 => have := hgr3.size; simp; omega
      intro v' w4 hown4 hg4 _
      have hgr4 : w.grownBy w4 (some bd) := only_grown (only_alloc (only_alloc hgr3 _) _) hg4 hlow
      have hd4 : Deck w4 bd := ((hd3.below ((Below.refl _ _).alloc (Nat.le_refl _) _)).below ((Below.refl _ _).alloc (Nat.le_refl _) _)).grown hg4 (fun g hg => by have := hlow g hg; omega)
      have hbx : w4.cell? ⟨w3.heap.size, 1, none⟩ = some (.int .i64 (1 + r3)) := by
        refine hg4.cell (v := .int .i64 (1 + r3)) ?_ (fun e => ?_)
        · simp
        · have := own_lt hown3 w3.heap.size e.symm; omega
      have hbne : w3.heap.size ≠ bd := by have := hd3.lt; omega
      go_wp2_with fail
      have hd4' : Deck w4.drew bd := hd4
      go_region_held3 (fun W => W.cell? ⟨w3.heap.size, 1, none⟩ = some (.int .i64 (1 + r3)))
        (first | go_keep | exact hc6 | exact hc5)
        (first | (go_at_call 37; (with_reducible refine (next_any bd 2 _ (by omega) (by omega) hd4').mono ?_); rintro e w5 ⟨r4, rfl, h40, h41, hd5, hg5⟩; have hc5 : w5.cell? ⟨w3.heap.size, 1, none⟩ = some (.int .i64 (1 + r3)) := hg5.cell hbx (fun e => hbne (by injection e))) | (go_at_call 37; (with_reducible refine (next_any bd 50 _ (by omega) (by omega) hd5).mono ?_); rintro e w6 ⟨r5, rfl, h50, h51, hd6, hg6⟩; have hc6 : w6.cell? ⟨w3.heap.size, 1, none⟩ = some (.int .i64 (1 + r3)) := hg6.cell hc5 (fun e => hbne (by injection e))))
      have hms := mul_small h40 h41 h50 h51
      rw [IntWalk.i64_in (r4 * r5) (by omega), IntWalk.i64_in (1 + r3 + r4 * r5) (by omega), IntWalk.i64_in (from_ + (1 + r3 + r4 * r5)) (by omega)]
      go_wp2_with fail
      go_roundw
      case rel =>
        refine ⟨xs ++ [⟨from_, 1 + r3⟩], from_ + (1 + r3 + r4 * r5), kk - 1, rfl, val_int (by omega), by simp; omega, by simp; omega, by omega, by simp; omega, ?_, ?_, hd6, ?_⟩
        · rw [List.all_append, HALL.out]
          have : okLay ⟨from_, 1 + r3⟩ = true := (okLay_iff _).2 ⟨hf0, by dsimp only; omega, by dsimp only; omega, by dsimp only; omega⟩
          simp [this]
        · rw [List.flatMap_append, List.length_append]
          have h6 := (World.ownsRow.kept hown4 (w' := w5) ⟨hg5.os, hg5.tape, hg5.output, hg5.size, hg5.block⟩ (own_far hown4 hlt))
          exact h6.kept hg6 (own_far h6 hlt)
        · exact only_trans (only_trans hgr4 ⟨hg5.os, hg5.tape, hg5.output, hg5.size, hg5.block⟩) hg6
      case measure => simp [intOf]; omega
    · obtain rfl : kk = 0 := by omega
      go_wp2_with fail
      go_ret
      exact ⟨_, xs, rfl, by omega, by omega, HALL.out, hown, hdk, hgr⟩

end Go.Proofs.Ytjbaildaifdgiaa
