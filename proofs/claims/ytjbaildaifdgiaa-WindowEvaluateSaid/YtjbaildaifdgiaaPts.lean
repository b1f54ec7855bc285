/-
  treatymade2.Points: points in ascending order; treatymade2.Layers: layers that are accepted.
-/
import Derived.Test.YtjbaildaifdgiaaOwn
import Derived.Test.YtjbaildaifdgiaaValDef
namespace Go.Proofs.Ytjbaildaifdgiaa
open Go.RowKit
set_option linter.unusedVariables false

theorem Try.infoPoint : (Try.prog.info? 48).map (fun i => (i.zero, i.size, i.bytes)) = some (some (.agg #[.int .i64 0, .int .i64 0]), 2, 16) := by kernel_rfl

/-- Points that the deck makes: ascending hours from 1 on, at most the last one's; small amounts. -/
structure MadePts (xs : List P2) (last : Int) : Prop where
  each : ∀ p ∈ xs, 1 ≤ p.a ∧ p.a ≤ last ∧ 0 ≤ p.b ∧ p.b < 268435456
  asc : xs.Pairwise (fun p q => p.a < q.a)
theorem MadePts.nil : MadePts [] 0 := ⟨by simp, List.Pairwise.nil⟩
theorem MadePts.snoc {xs : List P2} {last : Int} (h : MadePts xs last) (h0 : 0 ≤ last) {r s : Int} (hr : 0 ≤ r) (hs0 : 0 ≤ s) (hs1 : s < 268435456) : MadePts (xs ++ [⟨last + (1 + r), s⟩]) (last + (1 + r)) := by
  refine ⟨fun p hp => ?_, ?_⟩
  · rcases List.mem_append.1 hp with hp | hp
    · have := h.each p hp; omega
    · obtain rfl : p = _ := by simpa using hp
      dsimp only; omega
  · rw [List.pairwise_append]
    refine ⟨h.asc, by simp, fun a ha b hb => ?_⟩
    obtain rfl : b = _ := by simpa using hb
    have := h.each a ha
    dsimp only; omega

set_option maxHeartbeats 1000000 in
theorem points_any (bd : Nat) (N : Int) (w : World) (hN0 : 0 ≤ N) (hN : N ≤ 1000) (hd : Deck w bd) :
    Calls Try.prog 12 #[.pointer (some ⟨bd, 0, none⟩), .int .i64 N] w fun e w' => ∃ (v : Value) (xs : List P2) (last : Int), e = .returned v ∧ (xs.length : Int) ≤ N ∧ last ≤ 12 * (xs.length : Int) ∧ MadePts xs last ∧ w'.ownsRow w.heap.size 48 2 v xs.length (xs.flatMap P2.cells) ∧ Deck w' bd ∧ w.grownBy w' (some bd) := by
  obtain ⟨i0, hi, hz0, hz1, hz2⟩ := info_parts Try.infoPoint
  have hlt := hd.lt
  go_enter Try.func12, Try.ntmps12
  go_wp2_with fail
  refine (next_any bd (N + 1) w (by omega) (by omega) hd).mono ?_
  rintro e w1 ⟨r, rfl, hr0, hr1, hd1, hg1⟩
  go_wp2_with fail
  go_loopw [5, 6, 7] (fun v t k wr => ∃ (xs : List P2) (last : Int) (kk : Nat), t = .int .i64 last ∧ k = .int .i64 kk ∧ (xs.length : Int) + kk ≤ N ∧ 0 ≤ last ∧ last ≤ 12 * (xs.length : Int) ∧ MadePts xs last ∧ wr.ownsRow w.heap.size 48 2 v xs.length (xs.flatMap P2.cells) ∧ Deck wr bd ∧ w.grownBy wr (some bd)) (fun _ _ k _ => (intOf k).toNat)
  case atStart =>
    obtain ⟨rn, rfl⟩ := Int.eq_ofNat_of_zero_le hr0
    exact ⟨[], 0, rn, rfl, rfl, by simp; omega, by omega, by simp, MadePts.nil, own_nil _ _ _ _, hd1, hg1⟩
  case round =>
    obtain ⟨xs, last, kk, rfl, rfl, hkn, hl0, hl1, hmade, hown, hdk, hgr⟩ := hrel
    by_cases hk : 0 < kk
    · go_wp2_with fail
      refine (next_any bd 12 wr (by omega) (by omega) hdk).mono ?_
      rintro e w2 ⟨r2, rfl, hr20, hr21, hd2, hg2⟩
      go_wp2_with fail
      refine (small_any bd w2 hd2).mono ?_
      rintro e w3 ⟨r3, rfl, hr30, hr31, hd3, hg3⟩
      have hown3 := (hown.kept hg2 (own_far hown hlt)).kept hg3 (own_far (hown.kept hg2 (own_far hown hlt)) hlt)
      have hgr3 := only_trans (only_trans hgr hg2) hg3
      have hlow := own_low hown3
      go_wp2_with (at_builtin; refine wpList_append_own _ rfl (.tmp 21) (.tmp 26) 22 rfl w.heap.size 48 i0 _ 2 16 Try.underlying22 hi hz0 hz1 hz2 rfl (by decide) _ _ _ rfl (hown3.alloc _) ⟨w3.heap.size, 0, none⟩ 1 1 [.int .i64 (last + (1 + r2)), .int .i64 r3] rfl rfl ?c1 ?c2 ?c3 ?c4 ?c5 ?_)
      case c1 => exact cell_new _ _ _
      case c2 => intro u hu; simp at hu; rcases hu with rfl | rfl <;> rfl
      case c3 => unfold maxLen; omega
      case c4 => omega
      case c5 => have := hgr3.size; simp; omega
      intro v' w4 hown4 hg4 _
      have hgr4 : w.grownBy w4 (some bd) := only_grown (only_alloc hgr3 _) hg4 hlow
      have hd4 : Deck w4 bd := (hd3.below ((Below.refl _ _).alloc (Nat.le_refl _) _)).grown hg4 (fun g hg => by have := hlow g hg; omega)
      go_wp2_with fail
      go_roundw
      case rel =>
        refine ⟨xs ++ [⟨last + (1 + r2), r3⟩], last + (1 + r2), kk - 1, rfl, ?_, by simp; omega, by omega, by simp; omega, hmade.snoc hl0 hr20 hr30 hr31, ?_, hd4, hgr4⟩
        · exact val_int (by omega)
        · rw [List.flatMap_append, List.length_append]; exact hown4
      case measure => simp [intOf]; omega
    · obtain rfl : kk = 0 := by omega
      go_wp2_with fail
      go_ret
      exact ⟨_, xs, last, rfl, by omega, hl1, hmade, hown, hdk, hgr⟩

end Go.Proofs.Ytjbaildaifdgiaa
