/-
  Texts of the proof, one after the other.
-/
import Derived.Test.YtilkcailpkebdaaBase1
import Derived.Test.YtilkcailpkebdaaBase4
import Derived.Deep.DeepCutAuto
import Derived.Sort.Grow
import Derived.Test.YtilkcailpkebdaaShelf
import Derived.Test.YtilkcailpkebdaaBase3
import Derived.Test.YtilkcailpkebdaaBase2
import Derived.Shelf.SlSortCmp.WholeK
import Derived.Shelf.SlSortCmp.NoneTotal
import Derived.StillTailTactics
import Derived.Outline

/-
  treatymade2.Windows: valid windows for a length.
-/
namespace Go.Proofs.Ytilkcailpkebdaa
open Go.RowKit
set_option linter.unusedVariables false

theorem lt_of_heap {w : World} {b : Nat} {o : Obj} (h : w.heap[b]? = some o) : b < w.heap.size := by
  rcases Nat.lt_or_ge b w.heap.size with hlt | hge
  · exact hlt
  · rw [Array.getElem?_eq_none hge] at h; cases h
theorem own_low1 {w : World} {base base' : Nat} {e : TypeId} {size n : Nat} {v : Value} {xs : List Value} (h : w.ownsRow base e size v n xs) (hb : base' ≤ base) : w.ownsRow base' e size v n xs := by
  refine ⟨h.1, ?_⟩
  rcases h.2 with h0 | ⟨g, cap, cur, hv, hg, r⟩
  · exact .inl h0
  · exact .inr ⟨g, cap, cur, hv, by omega, r⟩

set_option maxRecDepth 100000 in
set_option maxHeartbeats 4000000 in
theorem mwindows_any (bd : Nat) (N : Int) (w : World) (hN0 : 1 ≤ N) (hN : N ≤ 1000) (hd : Deck w bd) :
    Calls Try.prog 22 #[.pointer (some ⟨bd, 0, none⟩), .int .i64 N] w fun e w' => ∃ (v : Value) (xs : List Win), e = .returned v ∧ xs.length ≤ 5 ∧ winsE xs N = 0 ∧ w'.ownsRow w.heap.size 53 3 v xs.length (xs.flatMap Win.cells) ∧ Deck w' bd ∧ w.grownBy w' (some bd) := by
  obtain ⟨i0, hi, hz0, hz1, hz2⟩ := info_parts Try.infoWindow
  have hlt := hd.lt
  go_enter Try.func22, Try.ntmps22
  go_wp2_with fail
  obtain ⟨w0, hw0⟩ : ∃ w0 : World, w0 = w.alloc (.cells #[.int .i64 0, .int .i64 0, .int .i64 0] 81) := ⟨_, rfl⟩
  have hh0 : w0.heap[w.heap.size]? = some (.cells #[.int .i64 0, .int .i64 0, .int .i64 0] 81 (0, 0)) := by rw [hw0]; exact heap_alloc_new w _
  have hd0 : Deck w0 bd := by rw [hw0]; exact hd.below (below_alloc1 _ _)
  have hg0 : w.grownBy w0 (some bd) := by rw [hw0]; exact only_alloc (only_refl _ _) _
  have hs0 : w0.heap.size = w.heap.size + 1 := by rw [hw0]; simp
  obtain ⟨bf, hbf⟩ : ∃ bf, bf = w.heap.size := ⟨_, rfl⟩
  rw [← hbf] at hh0
  have hbb : bd < bf := by omega
  have hbw : w.heap.size ≤ bf := by omega
  rw [← hw0, ← hbf]
  have HBF := Lib.hid hbf
  clear hw0 hbf hd
  refine (next_any bd 6 w0 (by omega) (by omega) hd0).mono ?_
  rintro e w1 ⟨r, rfl, hr0, hr1, hd1, hg1⟩
  have hh1 : w1.heap[bf]? = some (.cells #[.int .i64 0, .int .i64 0, .int .i64 0] 81 (0, 0)) := (hg1.block bf (lt_of_heap hh0) (fun e => by injection e with e; omega)).trans hh0
  have hg01 := only_trans hg0 hg1
  clear hh0 hd0 hg0 hg1
  have hs0' : w0.heap.size ≤ bf + 1 := by have := HBF.out; omega
  clear hs0
  go_wp2_with fail
  go_loopw [5, 7, 8, 9, 10, 11] (fun v t pp k _ _ wr => ∃ (xs : List Win) (fr per : Int) (kk : Nat) (a b c : Int), t = .int .i64 fr ∧ pp = .int .i64 per ∧ k = .int .i64 kk ∧ xs.length + kk ≤ 5 ∧ 0 ≤ fr ∧ fr + 19 * (kk : Int) ≤ 95 ∧ -1 ≤ per ∧ per ≤ 2 ∧ 0 ≤ a ∧ a ≤ 2000 ∧ 0 ≤ b ∧ b ≤ 2000 ∧ 0 ≤ c ∧ c ≤ 2000 ∧ MadeW N xs fr per (free3 a b c) ∧ wr.heap[bf]? = some (.cells #[.int .i64 a, .int .i64 b, .int .i64 c] 81 (0, 0)) ∧ wr.ownsRow (bf + 1) 53 3 v xs.length (xs.flatMap Win.cells) ∧ Deck wr bd ∧ w.grownBy wr (some bd)) (fun _ _ _ k _ _ _ => (intOf k).toNat)
  case atStart =>
    obtain ⟨rn, rfl⟩ := Int.eq_ofNat_of_zero_le hr0
    exact ⟨[], 0, -1, rn, 0, 0, 0, rfl, rfl, rfl, by simp; omega, by omega, by omega, by omega, by omega, by omega, by omega, by omega, by omega, by omega, by omega, MadeW.nil _ _, hh1, own_nil _ _ _ _, hd1, hg01⟩
  case round =>
    obtain ⟨xs, fr, per, kk, a, b, c, rfl, rfl, rfl, hkn, hf0, hf1, hp0, hp1, ha0, ha1, hb0, hb1, hc0, hc1, hmade, hh, hown, hdk, hgr⟩ := hrel
    have HMADE := Lib.hid hmade
    clear hmade hh1 hg01 hd1
    by_cases hk : 0 < kk
    case neg =>
      obtain rfl : kk = 0 := by omega
      go_wp2_with fail
      go_ret
      exact ⟨_, xs, rfl, by omega, HMADE.out.winsE (by omega) (by omega) (by omega), own_low1 hown (by omega), hdk, hgr⟩
    go_wp2_with fail
    refine (next_any bd 20 wr (by omega) (by omega) hdk).mono ?_
    rintro e w2 ⟨st, rfl, hst0, hst1, hd2, hg2⟩
    have hh2 : w2.heap[bf]? = some (.cells #[.int .i64 a, .int .i64 b, .int .i64 c] 81 (0, 0)) := (hg2.block bf (lt_of_heap hh) (fun e => by injection e with e; omega)).trans hh
    have hown2 := hown.kept hg2 (own_far hown (by omega))
    have hgr2 := only_trans hgr hg2
    clear hh hown hgr hg2 hdk
    go_upto_if 21 with fail
    go_cut [8] (fun s8 wc => ∃ per' : Int, s8 = .int .i64 per' ∧ -1 ≤ per' ∧ per' ≤ 2 ∧ MadeW N xs (fr + st) per' (free3 a b c) ∧ w2 = wc)
    case first =>
      by_cases hs : 0 < st
      · go_wp2_with fail
        go_meet
        exact ⟨-1, rfl, by omega, by omega, HMADE.out.step hs, rfl⟩
      · obtain rfl : st = 0 := by omega
        go_wp2_with fail
        go_meet
        exact ⟨per, rfl, hp0, hp1, by rw [Int.add_zero]; exact HMADE.out, rfl⟩
    case rest =>
      obtain ⟨per', rfl, hq0, hq1, hmade', rfl⟩ := hcut
      have HM2 := Lib.hid hmade'
      clear hmade' HMADE hp0 hp1
      go_wp2_with fail
      refine (next_any bd 3 w2 (by omega) (by omega) hd2).mono ?_
      rintro e w3 ⟨p, rfl, hpp0, hpp1, hd3, hg3⟩
      have hh3 : w3.heap[bf]? = some (.cells #[.int .i64 a, .int .i64 b, .int .i64 c] 81 (0, 0)) := (hg3.block bf (lt_of_heap hh2) (fun e => by injection e with e; omega)).trans hh2
      have hown3 := hown2.kept hg3 (own_far hown2 (by omega))
      have hgr3 := only_trans hgr2 hg3
      have n0 : w3.cell? ⟨bf, 0, none⟩ = some (.int .i64 a) := by simp [World.cell?, hh3]
      have n1 : w3.cell? ⟨bf, 1, none⟩ = some (.int .i64 b) := by simp [World.cell?, hh3]
      have n2 : w3.cell? ⟨bf, 2, none⟩ = some (.int .i64 c) := by simp [World.cell?, hh3]
      clear hh2 hown2 hgr2 hg3 hd2
      rcases (show p = 0 ∨ p = 1 ∨ p = 2 by omega) with rfl | rfl | rfl
      · by_cases hcont : 0 ≤ per' ∨ fr + st < a
        · by_cases hc1' : 0 ≤ per'
          · go_wp2_with fail
            go_roundw
            case rel => exact ⟨xs, fr + st, per', kk - 1, a, b, c, rfl, rfl, val_int (by omega), by omega, by omega, by omega, hq0, hq1, ha0, ha1, hb0, hb1, hc0, hc1, HM2.out, hh3, hown3, hd3, hgr3⟩
            case measure => simp [intOf]; omega
          · have hc2 : fr + st < a := by omega
            go_wp2_with fail
            go_roundw
            case rel => exact ⟨xs, fr + st, per', kk - 1, a, b, c, rfl, rfl, val_int (by omega), by omega, by omega, by omega, hq0, hq1, ha0, ha1, hb0, hb1, hc0, hc1, HM2.out, hh3, hown3, hd3, hgr3⟩
            case measure => simp [intOf]; omega
        · have hcA : ¬ 0 ≤ per' := by omega
          have hcB : ¬ fr + st < a := by omega
          clear hcont
          go_wp2_with fail
          refine (next_any bd N w3 (by omega) (by omega) hd3).mono ?_
          rintro e w4 ⟨r4, rfl, hr40, hr41, hd4, hg4⟩
          have hh4 : w4.heap[bf]? = some (.cells #[.int .i64 a, .int .i64 b, .int .i64 c] 81 (0, 0)) := (hg4.block bf (lt_of_heap hh3) (fun e => by injection e with e; omega)).trans hh3
          have hown4 := hown3.kept hg4 (own_far hown3 (by omega))
          have hgr4 := only_trans hgr3 hg4
          have m0 : w4.cell? ⟨bf, 0, none⟩ = some (.int .i64 a) := by simp [World.cell?, hh4]
          have mf : w4.frozen? ⟨bf, 0, none⟩ = false := by simp [World.frozen?, hh4]
          clear n0 n1 n2 hh3 hown3 hgr3 hg4 hd3
          go_upto_region 15 with fail
          obtain ⟨w5, hw5⟩ : ∃ w5 : World, w5 = w4.setCell ⟨bf, 0, none⟩ (.int .i64 (fr + st + 1 + r4)) := ⟨_, rfl⟩
          have hh5 : w5.heap[bf]? = some (.cells #[.int .i64 (fr + st + 1 + r4), .int .i64 b, .int .i64 c] 81 (0, 0)) := by rw [hw5]; simp [World.setCell, Array.getElem?_modify, hh4]
          have hown5 : w5.ownsRow (bf + 1) 53 3 u5 xs.length (xs.flatMap Win.cells) := by
            rw [hw5]; exact hown4.kept (row := some bf) (only_setCell (only_refl _ _) (.inl rfl) _) (own_far hown4 (by omega))
          have hd5 : Deck w5 bd := by rw [hw5]; exact hd4.keep fun k hk => Below.heap_setCell _ _ _ _ (by dsimp only; omega)
          have hgr5 : w.grownBy w5 (some bd) := by rw [hw5]; exact only_setCell hgr4 (.inr hbw) _
          have o0 : w5.cell? ⟨bf, 0, none⟩ = some (.int .i64 (fr + st + 1 + r4)) := by simp [World.cell?, hh5]
          rw [← hw5]
          have hlow := own_low hown5
          have hsz5 := lt_of_heap hh5
          clear hw5 hh4 hown4 hgr4 hd4 m0 mf
          go_wp2_with (at_builtin; refine wpList_append_own _ rfl (.tmp 46) (.tmp 53) 41 rfl (bf + 1) 53 i0 _ 3 24 Try.underlying41 hi hz0 hz1 hz2 rfl (by decide) _ _ _ rfl (hown5.alloc _) ⟨w5.heap.size, 0, none⟩ 1 1 [.int .i64 0, .int .i64 (fr + st), .int .i64 (fr + st + 1 + r4)] rfl rfl ?k1 ?k2 ?k3 ?k4 ?k5 ?_)
          case k1 => exact cell_new _ _ _
          case k2 => intro u hu; simp at hu; rcases hu with rfl | rfl | rfl <;> rfl
          case k3 => unfold maxLen; omega
          case k4 => omega
          case k5 => simp; omega
          intro v' w6 hown6 hg6 _
          have hgr6 : w.grownBy w6 (some bd) := only_grown (only_alloc hgr5 _) hg6 (fun g hg => by have := hlow g hg; omega)
          have hd6 : Deck w6 bd := (hd5.below (below_alloc1 _ _)).grown hg6 (fun g hg => by have := hlow g hg; omega)
          have hh6 : w6.heap[bf]? = some (.cells #[.int .i64 (fr + st + 1 + r4), .int .i64 b, .int .i64 c] 81 (0, 0)) := (hg6.block bf (by simp; omega) (fun e => by have := hlow bf e.symm; omega)).trans ((Below.heap_alloc w5 _ bf hsz5).trans hh5)
          clear hh5 hown5 hgr5 hd5 o0 hg6
          go_wp2_with fail
          go_roundw
          case rel =>
            refine ⟨xs ++ [⟨0, fr + st, fr + st + 1 + r4⟩], fr + st, 0, kk - 1, (fr + st + 1 + r4), b, c, rfl, rfl, val_int (by omega), by simp; omega, by omega, by omega, by omega, by omega, by omega, by omega, by omega, by omega, by omega, by omega, ?_, hh6, ?_, hd6, hgr6⟩
            · exact HM2.out.snoc (p := 0) (r := r4) (by omega) (by omega) (by omega) (by omega) (by omega) hr40 hr41 hN (by simp [free3]; omega) (by simp [free3]) (fun q hq => by unfold free3; repeat' split <;> first | rfl | (exfalso; omega))
            · rw [List.flatMap_append, List.length_append]; exact hown6
          case measure => simp [intOf]; omega
      · by_cases hcont : 1 ≤ per' ∨ fr + st < b
        · by_cases hc1' : 1 ≤ per'
          · go_wp2_with fail
            go_roundw
            case rel => exact ⟨xs, fr + st, per', kk - 1, a, b, c, rfl, rfl, val_int (by omega), by omega, by omega, by omega, hq0, hq1, ha0, ha1, hb0, hb1, hc0, hc1, HM2.out, hh3, hown3, hd3, hgr3⟩
            case measure => simp [intOf]; omega
          · have hc2 : fr + st < b := by omega
            go_wp2_with fail
            go_roundw
            case rel => exact ⟨xs, fr + st, per', kk - 1, a, b, c, rfl, rfl, val_int (by omega), by omega, by omega, by omega, hq0, hq1, ha0, ha1, hb0, hb1, hc0, hc1, HM2.out, hh3, hown3, hd3, hgr3⟩
            case measure => simp [intOf]; omega
        · have hcA : ¬ 1 ≤ per' := by omega
          have hcB : ¬ fr + st < b := by omega
          clear hcont
          go_wp2_with fail
          refine (next_any bd N w3 (by omega) (by omega) hd3).mono ?_
          rintro e w4 ⟨r4, rfl, hr40, hr41, hd4, hg4⟩
          have hh4 : w4.heap[bf]? = some (.cells #[.int .i64 a, .int .i64 b, .int .i64 c] 81 (0, 0)) := (hg4.block bf (lt_of_heap hh3) (fun e => by injection e with e; omega)).trans hh3
          have hown4 := hown3.kept hg4 (own_far hown3 (by omega))
          have hgr4 := only_trans hgr3 hg4
          have m0 : w4.cell? ⟨bf, 1, none⟩ = some (.int .i64 b) := by simp [World.cell?, hh4]
          have mf : w4.frozen? ⟨bf, 1, none⟩ = false := by simp [World.frozen?, hh4]
          clear n0 n1 n2 hh3 hown3 hgr3 hg4 hd3
          go_upto_region 15 with fail
          obtain ⟨w5, hw5⟩ : ∃ w5 : World, w5 = w4.setCell ⟨bf, 1, none⟩ (.int .i64 (fr + st + 1 + r4)) := ⟨_, rfl⟩
          have hh5 : w5.heap[bf]? = some (.cells #[.int .i64 a, .int .i64 (fr + st + 1 + r4), .int .i64 c] 81 (0, 0)) := by rw [hw5]; simp [World.setCell, Array.getElem?_modify, hh4]
          have hown5 : w5.ownsRow (bf + 1) 53 3 u5 xs.length (xs.flatMap Win.cells) := by
            rw [hw5]; exact hown4.kept (row := some bf) (only_setCell (only_refl _ _) (.inl rfl) _) (own_far hown4 (by omega))
          have hd5 : Deck w5 bd := by rw [hw5]; exact hd4.keep fun k hk => Below.heap_setCell _ _ _ _ (by dsimp only; omega)
          have hgr5 : w.grownBy w5 (some bd) := by rw [hw5]; exact only_setCell hgr4 (.inr hbw) _
          have o0 : w5.cell? ⟨bf, 1, none⟩ = some (.int .i64 (fr + st + 1 + r4)) := by simp [World.cell?, hh5]
          rw [← hw5]
          have hlow := own_low hown5
          have hsz5 := lt_of_heap hh5
          clear hw5 hh4 hown4 hgr4 hd4 m0 mf
          go_wp2_with (at_builtin; refine wpList_append_own _ rfl (.tmp 46) (.tmp 53) 41 rfl (bf + 1) 53 i0 _ 3 24 Try.underlying41 hi hz0 hz1 hz2 rfl (by decide) _ _ _ rfl (hown5.alloc _) ⟨w5.heap.size, 0, none⟩ 1 1 [.int .i64 1, .int .i64 (fr + st), .int .i64 (fr + st + 1 + r4)] rfl rfl ?k1 ?k2 ?k3 ?k4 ?k5 ?_)
          case k1 => exact cell_new _ _ _
          case k2 => intro u hu; simp at hu; rcases hu with rfl | rfl | rfl <;> rfl
          case k3 => unfold maxLen; omega
          case k4 => omega
          case k5 => simp; omega
          intro v' w6 hown6 hg6 _
          have hgr6 : w.grownBy w6 (some bd) := only_grown (only_alloc hgr5 _) hg6 (fun g hg => by have := hlow g hg; omega)
          have hd6 : Deck w6 bd := (hd5.below (below_alloc1 _ _)).grown hg6 (fun g hg => by have := hlow g hg; omega)
          have hh6 : w6.heap[bf]? = some (.cells #[.int .i64 a, .int .i64 (fr + st + 1 + r4), .int .i64 c] 81 (0, 0)) := (hg6.block bf (by simp; omega) (fun e => by have := hlow bf e.symm; omega)).trans ((Below.heap_alloc w5 _ bf hsz5).trans hh5)
          clear hh5 hown5 hgr5 hd5 o0 hg6
          go_wp2_with fail
          go_roundw
          case rel =>
            refine ⟨xs ++ [⟨1, fr + st, fr + st + 1 + r4⟩], fr + st, 1, kk - 1, a, (fr + st + 1 + r4), c, rfl, rfl, val_int (by omega), by simp; omega, by omega, by omega, by omega, by omega, by omega, by omega, by omega, by omega, by omega, by omega, ?_, hh6, ?_, hd6, hgr6⟩
            · exact HM2.out.snoc (p := 1) (r := r4) (by omega) (by omega) (by omega) (by omega) (by omega) hr40 hr41 hN (by simp [free3]; omega) (by simp [free3]) (fun q hq => by unfold free3; repeat' split <;> first | rfl | (exfalso; omega))
            · rw [List.flatMap_append, List.length_append]; exact hown6
          case measure => simp [intOf]; omega
      · by_cases hcont : 2 ≤ per' ∨ fr + st < c
        · by_cases hc1' : 2 ≤ per'
          · go_wp2_with fail
            go_roundw
            case rel => exact ⟨xs, fr + st, per', kk - 1, a, b, c, rfl, rfl, val_int (by omega), by omega, by omega, by omega, hq0, hq1, ha0, ha1, hb0, hb1, hc0, hc1, HM2.out, hh3, hown3, hd3, hgr3⟩
            case measure => simp [intOf]; omega
          · have hc2 : fr + st < c := by omega
            go_wp2_with fail
            go_roundw
            case rel => exact ⟨xs, fr + st, per', kk - 1, a, b, c, rfl, rfl, val_int (by omega), by omega, by omega, by omega, hq0, hq1, ha0, ha1, hb0, hb1, hc0, hc1, HM2.out, hh3, hown3, hd3, hgr3⟩
            case measure => simp [intOf]; omega
        · have hcA : ¬ 2 ≤ per' := by omega
          have hcB : ¬ fr + st < c := by omega
          clear hcont
          go_wp2_with fail
          refine (next_any bd N w3 (by omega) (by omega) hd3).mono ?_
          rintro e w4 ⟨r4, rfl, hr40, hr41, hd4, hg4⟩
          have hh4 : w4.heap[bf]? = some (.cells #[.int .i64 a, .int .i64 b, .int .i64 c] 81 (0, 0)) := (hg4.block bf (lt_of_heap hh3) (fun e => by injection e with e; omega)).trans hh3
          have hown4 := hown3.kept hg4 (own_far hown3 (by omega))
          have hgr4 := only_trans hgr3 hg4
          have m0 : w4.cell? ⟨bf, 2, none⟩ = some (.int .i64 c) := by simp [World.cell?, hh4]
          have mf : w4.frozen? ⟨bf, 2, none⟩ = false := by simp [World.frozen?, hh4]
          clear n0 n1 n2 hh3 hown3 hgr3 hg4 hd3
          go_upto_region 15 with fail
          obtain ⟨w5, hw5⟩ : ∃ w5 : World, w5 = w4.setCell ⟨bf, 2, none⟩ (.int .i64 (fr + st + 1 + r4)) := ⟨_, rfl⟩
          have hh5 : w5.heap[bf]? = some (.cells #[.int .i64 a, .int .i64 b, .int .i64 (fr + st + 1 + r4)] 81 (0, 0)) := by rw [hw5]; simp [World.setCell, Array.getElem?_modify, hh4]
          have hown5 : w5.ownsRow (bf + 1) 53 3 u5 xs.length (xs.flatMap Win.cells) := by
            rw [hw5]; exact hown4.kept (row := some bf) (only_setCell (only_refl _ _) (.inl rfl) _) (own_far hown4 (by omega))
          have hd5 : Deck w5 bd := by rw [hw5]; exact hd4.keep fun k hk => Below.heap_setCell _ _ _ _ (by dsimp only; omega)
          have hgr5 : w.grownBy w5 (some bd) := by rw [hw5]; exact only_setCell hgr4 (.inr hbw) _
          have o0 : w5.cell? ⟨bf, 2, none⟩ = some (.int .i64 (fr + st + 1 + r4)) := by simp [World.cell?, hh5]
          rw [← hw5]
          have hlow := own_low hown5
          have hsz5 := lt_of_heap hh5
          clear hw5 hh4 hown4 hgr4 hd4 m0 mf
          go_wp2_with (at_builtin; refine wpList_append_own _ rfl (.tmp 46) (.tmp 53) 41 rfl (bf + 1) 53 i0 _ 3 24 Try.underlying41 hi hz0 hz1 hz2 rfl (by decide) _ _ _ rfl (hown5.alloc _) ⟨w5.heap.size, 0, none⟩ 1 1 [.int .i64 2, .int .i64 (fr + st), .int .i64 (fr + st + 1 + r4)] rfl rfl ?k1 ?k2 ?k3 ?k4 ?k5 ?_)
          case k1 => exact cell_new _ _ _
          case k2 => intro u hu; simp at hu; rcases hu with rfl | rfl | rfl <;> rfl
          case k3 => unfold maxLen; omega
          case k4 => omega
          case k5 => simp; omega
          intro v' w6 hown6 hg6 _
          have hgr6 : w.grownBy w6 (some bd) := only_grown (only_alloc hgr5 _) hg6 (fun g hg => by have := hlow g hg; omega)
          have hd6 : Deck w6 bd := (hd5.below (below_alloc1 _ _)).grown hg6 (fun g hg => by have := hlow g hg; omega)
          have hh6 : w6.heap[bf]? = some (.cells #[.int .i64 a, .int .i64 b, .int .i64 (fr + st + 1 + r4)] 81 (0, 0)) := (hg6.block bf (by simp; omega) (fun e => by have := hlow bf e.symm; omega)).trans ((Below.heap_alloc w5 _ bf hsz5).trans hh5)
          clear hh5 hown5 hgr5 hd5 o0 hg6
          go_wp2_with fail
          go_roundw
          case rel =>
            refine ⟨xs ++ [⟨2, fr + st, fr + st + 1 + r4⟩], fr + st, 2, kk - 1, a, b, (fr + st + 1 + r4), rfl, rfl, val_int (by omega), by simp; omega, by omega, by omega, by omega, by omega, by omega, by omega, by omega, by omega, by omega, by omega, ?_, hh6, ?_, hd6, hgr6⟩
            · exact HM2.out.snoc (p := 2) (r := r4) (by omega) (by omega) (by omega) (by omega) (by omega) hr40 hr41 hN (by simp [free3]; omega) (by simp [free3]) (fun q hq => by unfold free3; repeat' split <;> first | rfl | (exfalso; omega))
            · rw [List.flatMap_append, List.length_append]; exact hown6
          case measure => simp [intOf]; omega

end Go.Proofs.Ytilkcailpkebdaa

/-
  Rows of a call's own behind the library's sort: the row put anew, cut, and the blocks that were made beside.
-/
namespace Go.Proofs.Ytilkcailpkebdaa
open Go.RowKit Go.Sort
set_option linter.unusedVariables false

theorem grown_grow (w : World) (os : Array Obj) : w.grownBy (Sort.grow w os) none :=
  ⟨rfl, rfl, rfl, by simp [Sort.grow], fun k hk _ => by simp only [Sort.grow]; rw [Array.getElem?_append_left hk]⟩
theorem heap_putRow {α : Type} [Inhabited α] (enc : α → Value) (w : World) (q blk off : Nat) (d : Array α) (k : Nat) : (putRow enc (Sort.ahead w q) blk off d).heap[k]? = if blk = k then (w.heap[k]?).map (onCells (putCells enc off d)) else w.heap[k]? := by
  unfold putRow mapBlock
  simp [Array.getElem?_modify]
theorem grown_putRow {α : Type} [Inhabited α] (enc : α → Value) (w : World) (q blk off : Nat) (d : Array α) : w.grownBy (putRow enc (Sort.ahead w q) blk off d) (some blk) :=
  ⟨rfl, rfl, rfl, by simp, fun k hk hne => by rw [heap_putRow, if_neg (fun h => hne (by rw [h]))]⟩
theorem flat_V1 (ys : List Int) : ys.flatMap V1 = ys.map (Value.int .i64) := by
  induction ys with
  | nil => rfl
  | cons y ys ih => simp [V1, ih]
theorem holds_of_own {w : World} {base g n cap : Nat} {e : TypeId} {zs : List Int} (h : w.ownsRow base e 1 (.slice (some ⟨g, 0, none⟩) n cap) n (zs.flatMap V1)) (hn : n = zs.length) : Holds (Value.int .i64) w g 0 zs.toArray := by
  intro j hj
  have hj' : j < zs.length := by simpa using hj
  subst hn
  refine ⟨?_, ?_⟩
  · rw [Nat.zero_add, h.cellAt j (by omega), flat_V1, List.getElem?_map, List.getElem?_eq_getElem hj']
    simp [getElem!_pos, hj']
  · rw [Nat.zero_add]; exact h.frozenAt j
theorem own_putRow {w : World} {base g n cap q : Nat} {e : TypeId} {xs : List Value} (h : w.ownsRow base e 1 (.slice (some ⟨g, 0, none⟩) n cap) n xs) (ys : List Int) (hy : ys.length = n) :
    (putRow (Value.int .i64) (Sort.ahead w q) g 0 ys.toArray).ownsRow base e 1 (.slice (some ⟨g, 0, none⟩) n cap) n (ys.flatMap V1) := by
  rcases h.2 with ⟨hv, _⟩ | ⟨g', cap', cur, hv, hb, hh, hnc, hcm, hsz, ht⟩
  · injection hv with h1; cases h1
  obtain ⟨rfl, rfl⟩ : g = g' ∧ cap = cap' := by injection hv with h1 h2 h3; injection h1 with h1; injection h1 with h1; exact ⟨h1, h3⟩
  refine ⟨by rw [flat_V1, List.length_map]; omega, .inr ⟨g, cap, putCells (Value.int .i64) 0 ys.toArray cur, rfl, hb, ?_, hnc, hcm, by simp [putCells, hsz], ?_⟩⟩
  · rw [heap_putRow, if_pos rfl, hh]; rfl
  · rw [flat_V1]
    apply List.ext_getElem?
    intro i
    by_cases hi : i < n
    · rw [List.getElem?_take_of_lt (by omega)]
      have hi1 : i < cur.size := by omega
      have hi2 : i < ys.length := by omega
      simp [putCells, hi1, hi2]
    · rw [List.getElem?_eq_none (by simp; omega), List.getElem?_eq_none (by simp; omega)]
theorem own_cut {w : World} {base g n m cap : Nat} {e : TypeId} {zs : List Int} {r : List Int} (h : w.ownsRow base e 1 (.slice (some ⟨g, 0, none⟩) n cap) n ((zs ++ r).flatMap V1)) (hm : m = zs.length) (hmn : m ≤ n) :
    w.ownsRow base e 1 (.slice (some ⟨g, 0, none⟩) m cap) m (zs.flatMap V1) := by
  rcases h.2 with ⟨hv, _⟩ | ⟨g', cap', cur, hv, hb, hh, hnc, hcm, hsz, ht⟩
  · injection hv with h1; cases h1
  obtain ⟨rfl, rfl⟩ : g = g' ∧ cap = cap' := by injection hv with h1 h2 h3; injection h1 with h1; injection h1 with h1; exact ⟨h1, h3⟩
  refine ⟨by rw [flat_V1, List.length_map]; omega, .inr ⟨g, cap, cur, rfl, hb, hh, by omega, hcm, hsz, ?_⟩⟩
  have h2 : (cur.toList.take (n * 1)).take m = zs.flatMap V1 := by
    rw [ht, List.flatMap_append, List.take_append_of_le_length (by rw [flat_V1, List.length_map]; omega), List.take_of_length_le (by rw [flat_V1, List.length_map]; omega)]
  rw [List.take_take, Nat.min_eq_left (by omega)] at h2
  rw [Nat.mul_one]; exact h2

end Go.Proofs.Ytilkcailpkebdaa

/-
  event.Perils: its contract.
-/
namespace Go.Proofs.Ytilkcailpkebdaa
open Go.RowKit
set_option linter.unusedVariables false

def perilsL (los : List Los) : List Int := los.map Los.peril
def perilsF (los : List Los) : List Int := Lib.compact ((perilsL los).mergeSort fun x y => decide (x ≤ y))
theorem compact_len (zs : List Int) : (Lib.compact zs).length ≤ zs.length := by
  unfold Lib.compact Lib.compactUpTo
  rw [List.length_map]
  refine Nat.le_trans (List.length_filter_le _ _) ?_
  simp
theorem perils_next {los : List Los} {k : Nat} {x : Los} (h : los[k]? = some x) : (perilsL (los.take k)).flatMap V1 ++ V1 x.peril = (perilsL (los.take (k + 1))).flatMap V1 := by
  rw [List.take_add_one, h]; simp [perilsL]

set_option maxRecDepth 100000 in
set_option maxHeartbeats 1000000 in
theorem perils_any (A : Option Addr) (c : Nat) (los : List Los) (w : World) (hll : los.length ≤ 1000) (hL : Losses w 0 A los) :
    Calls Try.prog 18 #[.slice A los.length c] w fun e w' => ∃ v, e = .returned v ∧ w'.ownsRow w.heap.size 3 1 v (perilsF los).length ((perilsF los).flatMap V1) ∧ Below w.heap.size w w' := by
  obtain ⟨n, hn⟩ : ∃ n, n = los.length := ⟨_, rfl⟩
  rw [← hn] at hll ⊢
  have HN := Lib.hid hn
  obtain ⟨i0, hi, hz0, hz1, hz2⟩ := info_parts Try.infoInt
  obtain ⟨w0, hmk, hown0, hg0⟩ := run_make_own (P := Try.prog) w w.heap.size 23 3 i0 _ 1 Try.underlying23 hi hz0 hz1 .i64 .i64 n (by rw [hz2]; omega) (by unfold maxLen; omega) (Nat.le_refl _)
  have hb0 : Below w.heap.size w w0 := (Below.refl _ _).grown hg0 (Nat.le_refl _) (fun g h => by cases h)
  clear hn hg0
  go_enter Try.func18, Try.ntmps18
  go_wp2_with fail
  go_loopw [3, 5, 11] (fun v _ ii wr => ∃ (k g cap : Nat), k ≤ n ∧ ii = .int .i64 k ∧ v = .slice (some ⟨g, 0, none⟩) k cap ∧ wr.ownsRow w.heap.size 3 1 v k ((perilsL (los.take k)).flatMap V1) ∧ Below w.heap.size w wr) (fun _ _ ii _ => n - (intOf ii).toNat)
  case atStart => exact ⟨0, _, _, Nat.zero_le _, rfl, rfl, hown0, hb0⟩
  case round =>
    obtain ⟨k, g, cap, hk, rfl, rfl, hown, hb⟩ := hrel
    clear hmk hown0 hb0
    by_cases hkn : k < n
    · obtain ⟨x, hx, _⟩ := drop_cons (xs := los) (i := k) (by rw [← HN.out]; exact hkn)
      obtain ⟨b, off, rfl, _, hbl, c0, c1, c2, c3, c4, c5, c6, c7, c8, c9⟩ := (hL.below hb).at_ hx
      have HX := Lib.hid hx
      clear hx
      obtain ⟨wb, hwb⟩ : ∃ wb : World, wb = wr.alloc (.cells #[.int .i64 x.id, .int .i64 x.pol, .int .i64 x.risk, .int .i64 x.hour, .int .i64 x.peril, .int .i64 x.area, .int .i64 x.cur, .int .i64 x.sum, .int .i64 x.amt, .int .i64 x.paid] 55) := ⟨_, rfl⟩
      have hbb : Below wr.heap.size wr wb := by rw [hwb]; exact (Below.refl _ _).alloc (Nat.le_refl _) _
      have hownb := own_below hown hbb
      have hb0b := hb.trans (hbb.mono hb.size)
      have p4 : wb.cell? ⟨wr.heap.size, 4, none⟩ = some (.int .i64 x.peril) := by rw [hwb]; simp
      go_upto_region 5 with fail
      rw [← hwb]
      clear hwb c0 c1 c2 c3 c4 c5 c6 c7 c8 c9 hown hbb
      go_wp2_with (at_builtin; refine wpList_append_own _ rfl (.tmp 15) (.tmp 18) 23 rfl w.heap.size 3 i0 _ 1 8 Try.underlying23 hi hz0 hz1 hz2 rfl (by decide) _ k _ rfl (own_below hownb ((Below.refl _ _).alloc (Nat.le_refl _) _)) ⟨wb.heap.size, 0, none⟩ 1 1 (V1 x.peril) rfl rfl ?c1 ?c2 ?c3 ?c4 ?c5 ?_)
      case c1 => exact cell_new wb (V1 x.peril) 3
      case c2 => intro u hu; simp [V1] at hu; rw [hu]; rfl
      case c3 => unfold maxLen; omega
      case c4 => omega
      case c5 => have := hb0b.size; simp; omega
      intro v' w8 hown8 hg8 _
      rw [perils_next HX.out] at hown8
      have hb08 : Below w.heap.size w w8 := ((hb0b.alloc hb0b.size _)).grown hg8 (by have := hb0b.size; simp; omega) (fun g' hg' => own_low hownb g' hg')
      rcases hown8.2 with ⟨_, h00⟩ | ⟨g8, cap8, cur8, rfl, _⟩
      · omega
      go_wp2_with fail
      go_roundw
      case rel => exact ⟨k + 1, g8, cap8, by omega, by go_num, rfl, hown8, hb08⟩
      case measure => simp [intOf]; omega
    · obtain rfl : k = n := by omega
      have hpl : Hid ((perilsL los).length = k) := by show (perilsL los).length = k; unfold perilsL; rw [List.length_map]; exact HN.out.symm
      rw [List.take_of_length_le (by rw [← HN.out]; exact Nat.le_refl _)] at hown
      have hms : Hid (((perilsL los).mergeSort fun x y => decide (x ≤ y)).length = k) := by show _ = k; rw [List.length_mergeSort]; exact hpl.out
      by_cases hk0 : k = 0
      · obtain rfl : k = 0 := hk0
        have hpf : Hid (perilsF los = []) := by
          have h0 : perilsL los = [] := List.eq_nil_of_length_eq_zero hpl.out
          show perilsF los = []
          refine List.eq_nil_of_length_eq_zero (Nat.le_zero.1 ?_)
          unfold perilsF
          refine Nat.le_trans (compact_len _) ?_
          rw [List.length_mergeSort, h0]; exact Nat.le_refl _
        go_wp2_with fail
        refine (Try.slices_Sort_int_none _ _ _).mono ?_
        rintro e w' ⟨rfl, rfl⟩
        go_wp2_with fail
        refine (Try.slices_Compact_int_empty _ _ _).mono ?_
        rintro e w' ⟨rfl, rfl⟩
        go_wp2_with fail
        go_ret
        refine ⟨_, rfl, ?_, hb⟩
        rw [hpf.out]
        rw [List.eq_nil_of_length_eq_zero hpl.out] at hown
        exact hown
      · have hglt := own_lt hown g rfl
        have hgw := own_low hown g rfl
        have CS := Lib.hid (Try.slices_Sort_int g 0 cap (perilsL los) wr (holds_of_own hown hpl.out.symm) hglt (by rw [hpl.out]; omega))
        have hncap : k ≤ cap := by
          obtain ⟨A', c', hv, hle⟩ := own_shape hown
          injection hv with _ _ h3; omega
        rw [hpl.out] at CS
        go_wp2_with fail
        refine CS.out.mono ?_
        rintro e w' ⟨rfl, q, os, hw'⟩
        have k1 := grown_putRow (Value.int .i64) wr q g 0 ((perilsL los).mergeSort fun x y => decide (x ≤ y)).toArray
        have o1 := own_putRow (q := q) hown ((perilsL los).mergeSort fun x y => decide (x ≤ y)) hms.out
        have k2 := grown_grow (Sort.putRow (Value.int .i64) (Sort.ahead wr q) g 0 ((perilsL los).mergeSort fun x y => decide (x ≤ y)).toArray) os
        rw [← hw'] at k2
        have o2 := o1.kept k2 (by simp [Value.ownBlock])
        have hb1 : Below w.heap.size w w' := (hb.grown k1 hb.size (fun g' hg' => by injection hg' with hg'; omega)).grown k2 (Nat.le_trans hb.size k1.size) (fun g' hg' => by cases hg')
        have CC := Lib.hid (Try.slices_Compact_int g 0 cap ((perilsL los).mergeSort fun x y => decide (x ≤ y)) w' (holds_of_own o2 hms.out.symm) (by rw [hms.out]; omega) (by rw [hms.out]; exact hncap))
        have hcl := Lib.hid (compact_len ((perilsL los).mergeSort fun x y => decide (x ≤ y)))
        rw [hms.out] at CC hcl
        clear hw' k1 o1 k2 hown CS
        go_wp2_with fail
        refine CC.out.mono ?_
        rintro e w3 ⟨rfl, q3, hw3⟩
        have k3 := grown_putRow (Value.int .i64) w' q3 g 0 (Lib.compact ((perilsL los).mergeSort fun x y => decide (x ≤ y)) ++ List.replicate (k - (Lib.compact ((perilsL los).mergeSort fun x y => decide (x ≤ y))).length) 0).toArray
        have o3 := own_putRow (q := q3) o2 (Lib.compact ((perilsL los).mergeSort fun x y => decide (x ≤ y)) ++ List.replicate (k - (Lib.compact ((perilsL los).mergeSort fun x y => decide (x ≤ y))).length) 0) (by rw [List.length_append, List.length_replicate]; have := hcl.out; omega)
        rw [← hw3] at k3 o3
        have o4 := own_cut o3 rfl hcl.out
        have hb3 : Below w.heap.size w w3 := hb1.grown k3 hb1.size (fun g' hg' => by injection hg' with hg'; omega)
        clear hw3 k3 o3 o2 CC
        go_wp2_with fail
        go_ret
        exact ⟨_, rfl, o4, hb3⟩

end Go.Proofs.Ytilkcailpkebdaa

/-
  The windows that are chosen, in plain Lean: collected by perils, in order of their first hours.
-/
namespace Go.Proofs.Ytilkcailpkebdaa
open Go.RowKit
set_option linter.unusedVariables false

def hourAt (ps : List P2) (i : Int) : Int := ((ps[i.toNat]?).map P2.a).getD 0
def winOf (p : Int) (ps : List P2) (s : P2) : Win := ⟨p, hourAt ps s.a, hourAt ps s.b + 1⟩
/-- The windows of a peril. -/
def winsP (los : List Los) (am : List Int) (n : Int) (ls : List P2) (p : Int) : List Win := (spansOf (ptsF los am p) n ls).map (winOf p (ptsF los am p))
def collW (los : List Los) (am : List Int) (n : Int) (ls : List P2) : List Win := (perilsF los).flatMap (winsP los am n ls)
def winLt (a b : Win) : Prop := a.fr < b.fr ∨ (a.fr = b.fr ∧ a.peril < b.peril)
instance (a b : Win) : Decidable (winLt a b) := inferInstanceAs (Decidable (_ ∨ _))
/-- Into a list in order. -/
def insW : List Win → Win → List Win
  | [], w => [w]
  | x :: xs, w => if winLt x w then x :: insW xs w else w :: x :: xs
def bestF (los : List Los) (am : List Int) (n : Int) (ls : List P2) : List Win := (collW los am n ls).foldl insW []
theorem insW_perm (l : List Win) (w : Win) : (insW l w).Perm (w :: l) := by
  induction l with
  | nil => exact List.Perm.refl _
  | cons x xs ih =>
    unfold insW
    split
    · exact (ih.cons x).trans (List.Perm.swap w x xs)
    · exact List.Perm.refl _
theorem insW_asc {l : List Win} {w : Win} (h : l.Pairwise (fun a b => ¬ winLt b a)) : (insW l w).Pairwise (fun a b => ¬ winLt b a) := by
  induction l with
  | nil => simp [insW]
  | cons x xs ih =>
    rw [List.pairwise_cons] at h
    unfold insW
    split
    · rename_i hlt
      rw [List.pairwise_cons]
      refine ⟨fun y hy => ?_, ih h.2⟩
      rcases List.mem_cons.1 ((insW_perm xs w).mem_iff.1 hy) with rfl | hy
      · unfold winLt at *; omega
      · exact h.1 y hy
    · rename_i hlt
      rw [List.pairwise_cons]
      refine ⟨fun y hy => ?_, List.pairwise_cons.2 h⟩
      rcases List.mem_cons.1 hy with rfl | hy
      · exact hlt
      · have := h.1 y hy
        unfold winLt at *; omega
theorem insW_all (ws : List Win) : ∀ l : List Win, l.Pairwise (fun a b => ¬ winLt b a) → (ws.foldl insW l).Pairwise (fun a b => ¬ winLt b a) ∧ (ws.foldl insW l).Perm (ws ++ l) := by
  induction ws with
  | nil => intro l h; exact ⟨h, List.Perm.refl _⟩
  | cons w ws ih =>
    intro l h
    obtain ⟨h1, h2⟩ := ih (insW l w) (insW_asc h)
    refine ⟨h1, h2.trans ?_⟩
    exact ((insW_perm l w).append_left ws).trans List.perm_middle
/-- The first hours of a peril's windows ascend. -/
theorem spans_asc (L : Int) (ls ps : List P2) : ∀ f i, (∀ s ∈ spansF L ls ps f i, (i : Int) ≤ s.a ∧ s.a < ps.length) ∧ (spansF L ls ps f i).Pairwise (fun a b => a.a < b.a) := by
  intro f
  induction f with
  | zero => intro i; simp [spansF]
  | succ f ih =>
    intro i
    by_cases hi : i < ps.length
    · obtain ⟨p, hp, hd⟩ := drop_cons (xs := ps) (i := i) hi
      by_cases he : valAt L ls ps i = valAt L ls ps (i + 1)
      · rw [spans_eq hp he]
        exact ⟨fun s hs => by have := (ih (i + 1)).1 s hs; omega, (ih (i + 1)).2⟩
      · obtain ⟨j, hj⟩ := findAt_some hd he
        have hb := findAt_bd hj
        rw [spans_hit hp he hj]
        refine ⟨fun s hs => ?_, List.pairwise_cons.2 ⟨fun s hs => ?_, (ih (j + 1)).2⟩⟩
        · rcases List.mem_cons.1 hs with rfl | hs
          · dsimp only; omega
          · have := (ih (j + 1)).1 s hs; omega
        · have := (ih (j + 1)).1 s hs; dsimp only; omega
    · rw [spans_end (by omega)]; simp
theorem hourAt_lt {ps : List P2} (h : ps.Pairwise (fun a b => a.a < b.a)) {i j : Int} (hi : 0 ≤ i) (hij : i < j) (hj : j < ps.length) : hourAt ps i < hourAt ps j := by
  unfold hourAt
  have h1 : i.toNat < ps.length := by omega
  have h2 : j.toNat < ps.length := by omega
  rw [List.getElem?_eq_getElem h1, List.getElem?_eq_getElem h2]
  exact (List.pairwise_iff_getElem.1 h) _ _ h1 h2 (by omega)
theorem winsP_asc (los : List Los) (am : List Int) (n : Int) (ls : List P2) (p : Int) : (winsP los am n ls p).Pairwise (fun a b => a.fr < b.fr) ∧ ∀ w ∈ winsP los am n ls p, w.peril = p := by
  constructor
  · unfold winsP spansOf
    split
    · have h := spans_asc n ls (ptsF los am p) (ptsF los am p).length 0
      refine List.pairwise_map.2 (h.2.imp_of_mem fun {a b} ha hb hab => ?_)
      have h1 := h.1 a ha
      have h2 := h.1 b hb
      exact hourAt_lt (List.pairwise_map.2 (asc_insAll _)) (by omega) hab h2.2
    · exact List.Pairwise.nil
  · intro w hw
    unfold winsP at hw
    obtain ⟨s, _, rfl⟩ := List.mem_map.1 hw
    rfl
theorem coll_key {los : List Los} {am : List Int} {n : Int} {ls : List P2} {a b : Win} (ha : a ∈ collW los am n ls) (hb : b ∈ collW los am n ls) (h1 : ¬ winLt a b) (h2 : ¬ winLt b a) : a = b := by
  unfold collW at ha hb
  obtain ⟨p, _, ha⟩ := List.mem_flatMap.1 ha
  obtain ⟨q, _, hb⟩ := List.mem_flatMap.1 hb
  have ea := (winsP_asc los am n ls p).2 a ha
  have eb := (winsP_asc los am n ls q).2 b hb
  unfold winLt at h1 h2
  have e1 : a.fr = b.fr := by omega
  have e2 : p = q := by omega
  subst e2
  have hp := (winsP_asc los am n ls p).1
  obtain ⟨i, hi, rfl⟩ := List.mem_iff_getElem.1 ha
  obtain ⟨j, hj, rfl⟩ := List.mem_iff_getElem.1 hb
  rcases Nat.lt_trichotomy i j with h | h | h
  · have := (List.pairwise_iff_getElem.1 hp) i j hi hj h; omega
  · subst h; rfl
  · have := (List.pairwise_iff_getElem.1 hp) j i hj hi h; omega
/-- Whatever is in order and has the same windows is the same list. -/
theorem best_ext {los : List Los} {am : List Int} {n : Int} {ls : List P2} {qs : List Win} (hp : qs.Perm (collW los am n ls)) (hs : qs.Pairwise (fun a b => ¬ winLt b a)) : qs = bestF los am n ls := by
  obtain ⟨h1, h2⟩ := insW_all (collW los am n ls) [] List.Pairwise.nil
  rw [List.append_nil] at h2
  refine List.Perm.eq_of_pairwise (le := fun a b => ¬ winLt b a) (fun a b ha hb h3 h4 => ?_) hs h1 (hp.trans h2.symm)
  exact coll_key (hp.mem_iff.1 ha) (h2.mem_iff.1 hb) h4 h3
theorem winsP_len (los : List Los) (am : List Int) (n : Int) (ls : List P2) (p : Int) : (winsP los am n ls p).length ≤ (ptsF los am p).length := by
  unfold winsP; rw [List.length_map]; exact spansOf_len _ _ _

end Go.Proofs.Ytilkcailpkebdaa

/-
  Rows of structs of a call's own behind the library's sort by a function.
-/
namespace Go.Proofs.Ytilkcailpkebdaa
open Go.RowKit Go.Sort
set_option linter.unusedVariables false

section
variable {α : Type} [Inhabited α] {enc : α → List Value} {k : Nat}

theorem flatK_list (hk : ∀ x, (enc x).length = k) (hk0 : 0 < k) (ys : List α) : (flatK enc k ys.toArray).toList = ys.flatMap enc := by
  apply List.ext_getElem?
  intro t
  by_cases ht : t < ys.length * k
  · have hi : t / k < ys.length := Nat.div_lt_of_lt_mul (by rw [Nat.mul_comm]; exact ht)
    have hm := Nat.mod_lt t hk0
    have hf := flat_get enc k hk ys (t / k) ys[t / k] (List.getElem?_eq_getElem hi) (t % k) hm
    rw [Nat.div_add_mod'] at hf
    rw [hf]
    have h1 : t < (flatK enc k ys.toArray).size := by simpa using ht
    have h2 : t % k < (enc ys[t / k]).length := by rw [hk]; exact hm
    have h3 := get_flatK enc k ys.toArray t (by simpa using ht)
    rw [getElem!_pos (flatK enc k ys.toArray) t h1] at h3
    rw [Array.getElem?_toList, Array.getElem?_eq_getElem h1, h3]
    simp only [List.getElem!_toArray]
    rw [getElem!_pos ys _ hi, getElem!_pos (enc ys[t / k]) (t % k) h2, List.getElem?_eq_getElem h2]
  · rw [List.getElem?_eq_none (by simp; omega), List.getElem?_eq_none (by rw [flat_len enc k hk]; omega)]
theorem holdsK_of_own (hk : ∀ x, (enc x).length = k) (hk0 : 0 < k) {w : World} {base g n cap : Nat} {e : TypeId} {zs : List α} (h : w.ownsRow base e k (.slice (some ⟨g, 0, none⟩) n cap) n (zs.flatMap enc)) (hn : n = zs.length) : HoldsK enc k w g 0 zs.toArray := by
  subst hn
  intro j hj
  have hj' : j < zs.length * k := by simpa using hj
  refine ⟨?_, by rw [Nat.zero_add]; exact h.frozenAt j⟩
  rw [Nat.zero_add, h.cellAt j (by omega), ← flatK_list hk hk0, Array.getElem?_toList, Array.getElem?_eq_getElem hj, getElem!_pos (flatK enc k zs.toArray) j hj]
  rfl
theorem own_sortK (hk : ∀ x, (enc x).length = k) (hk0 : 0 < k) {w : World} {base g n cap q : Nat} {e : TypeId} {xs : List Value} (h : w.ownsRow base e k (.slice (some ⟨g, 0, none⟩) n cap) n xs) (ys : List α) (hy : ys.length = n) :
    (putRowK enc k (Sort.ahead w q) g 0 ys.toArray).ownsRow base e k (.slice (some ⟨g, 0, none⟩) n cap) n (ys.flatMap enc) := by
  rcases h.2 with ⟨hv, _⟩ | ⟨g', cap', cur, hv, hb, hh, hnc, hcm, hsz, ht⟩
  · injection hv with h1; cases h1
  obtain ⟨rfl, rfl⟩ : g = g' ∧ cap = cap' := by injection hv with h1 h2 h3; injection h1 with h1; injection h1 with h1; exact ⟨h1, h3⟩
  have hle : n * k ≤ cap * k := Nat.mul_le_mul_right k hnc
  refine ⟨by rw [flat_len enc k hk, hy], .inr ⟨g, cap, putCells id 0 (flatK enc k ys.toArray) cur, rfl, hb, ?_, hnc, hcm, by simp [putCells, hsz], ?_⟩⟩
  · unfold putRowK; rw [heap_putRow, if_pos rfl, hh]; rfl
  · rw [← flatK_list hk hk0]
    apply List.ext_getElem?
    intro i
    by_cases hi : i < n * k
    · rw [List.getElem?_take_of_lt hi]
      have hi1 : i < cur.size := by omega
      have hi2 : i < (flatK enc k ys.toArray).size := by simp [hy]; exact hi
      have hi3 : i < ys.length * k := by rw [hy]; exact hi
      simp [putCells, hi1, hi3, getElem!_pos]
    · rw [List.getElem?_eq_none (by simp; omega), List.getElem?_eq_none (by simp [hy]; omega)]
theorem sorted_list {lt : α → α → Bool} {ds : List α} {d' : Array α} (hp : PermIn 0 ds.toArray.size ds.toArray d') (hs : SortedIn lt 0 ds.toArray.size d') : d'.toList.Perm ds ∧ d'.toList.Pairwise (fun a b => lt b a = false) := by
  obtain ⟨h1, _, h3⟩ := hp
  have e1 : (d'.extract 0 ds.toArray.size) = d' := by rw [← h1]; simp
  have e2 : (ds.toArray.extract 0 ds.toArray.size).toList = ds := by simp
  rw [e1, e2] at h3
  refine ⟨h3, List.pairwise_iff_getElem.2 fun i j hi hj hij => ?_⟩
  have hi' : i < d'.size := by simpa using hi
  have hj' : j < d'.size := by simpa using hj
  have := hs i j (Nat.zero_le _) hij (by rw [← h1]; exact hj')
  rw [getElem!_pos d' i hi', getElem!_pos d' j hj'] at this
  simpa using this
end

end Go.Proofs.Ytilkcailpkebdaa

/-
  cmp.Or, the order of windows, slices.SortFunc at windows: their contracts.
-/
namespace Go.Proofs.Ytilkcailpkebdaa
open Go.RowKit Go.Sort
set_option linter.unusedVariables false

def firstNZ : List Int → Int
  | [] => 0
  | x :: xs => if x ≠ 0 then x else firstNZ xs
set_option maxHeartbeats 400000 in
theorem or_any (A : Option Addr) (c : Nat) (xs : List Int) (w : World) (hl : xs.length ≤ 1000) (hX : Ints w 0 A xs) :
    Calls Try.prog 52 #[.slice A xs.length c] w fun e w' => e = .returned (.int .i64 (firstNZ xs)) ∧ w = w' := by
  obtain ⟨m, hm⟩ : ∃ m, m = xs.length := ⟨_, rfl⟩
  rw [← hm] at hl ⊢
  have HM := Lib.hid hm
  clear hm
  go_enter Try.func52, Try.ntmps52
  go_wp2_with fail
  go_loop [5, 8] (fun _ ii => ∃ k : Nat, ii = .int .i64 k ∧ k ≤ m ∧ firstNZ (xs.drop k) = firstNZ xs) (fun _ ii => m - (intOf ii).toNat)
  case atStart => exact ⟨0, rfl, Nat.zero_le _, by simp⟩
  case round =>
    obtain ⟨k, rfl, hk, hI⟩ := hrel
    have HI := Lib.hid hI
    clear hI
    by_cases hkm : k < m
    · obtain ⟨x, hx, hd⟩ := drop_cons (xs := xs) (i := k) (by rw [← HM.out]; exact hkm)
      obtain ⟨b, off, rfl, _, hbl, c0⟩ := hX.at_ hx
      have HD := Lib.hid hd
      clear hx hd
      by_cases h0 : x = 0
      · have q : (x != 0) = false := by simpa using h0
        have HI2 : Hid (firstNZ (xs.drop (k + 1)) = firstNZ xs) := by have h := HI.out; rw [HD.out, firstNZ, if_neg (by simpa using h0)] at h; exact h
        clear h0
        go_wp2_with fail
        go_round
        case rel => exact ⟨k + 1, by go_num, by omega, HI2.out⟩
        case measure => simp [intOf]; omega
      · have q : (x != 0) = true := by simpa using h0
        have HI2 : Hid (x = firstNZ xs) := by have h := HI.out; rw [HD.out, firstNZ, if_pos h0] at h; exact h
        clear h0
        go_wp2_with fail
        go_ret
        exact ⟨ret_int HI2.out, rfl⟩
    · have HI2 : Hid (0 = firstNZ xs) := by have h := HI.out; rw [List.drop_of_length_le (by rw [← HM.out]; omega)] at h; exact h
      go_wp2_with fail
      go_ret
      exact ⟨ret_int HI2.out, rfl⟩

theorem ints_drewX {W : World} {lo : Nat} {A : Option Addr} {xs : List Int} (h : Ints W lo A xs) : Ints W.drew lo A xs := h
theorem ints_newW (w : World) (r s : Int) : Ints ((w.alloc (.cells #[.int .i64 r, .int .i64 s] 3)).drew) w.heap.size (some ⟨w.heap.size, 0, none⟩) [r, s] := ints_drewX (ints_new w [r, s] 3)
instance : Inhabited Win := ⟨⟨0, 0, 0⟩⟩
def cmpWn (x y : Win) : Int := firstNZ [Lib.compareInt x.fr y.fr, Lib.compareInt x.peril y.peril]
theorem cmpWn_lt (x y : Win) : cmpWn x y < 0 ↔ winLt x y := by
  unfold cmpWn winLt firstNZ firstNZ firstNZ Lib.compareInt
  by_cases h1 : x.fr < y.fr
  · simp [h1]
  · by_cases h2 : y.fr < x.fr
    · simp [h1, h2]; omega
    · by_cases h3 : x.peril < y.peril
      · simp [h1, h2, h3]; omega
      · by_cases h4 : y.peril < x.peril
        · simp [h1, h2, h3, h4]
        · simp [h1, h2, h3, h4]
theorem ltWn (x y : Win) : ltOf cmpWn x y = decide (winLt x y) := by
  unfold ltOf
  rw [decide_eq_decide]; exact cmpWn_lt x y
theorem swoWn : SWO (ltOf cmpWn) where
  irrefl x := by rw [ltWn]; simp [winLt]
  trans x y z h1 h2 := by rw [ltWn] at *; have a := of_decide_eq_true h1; have b := of_decide_eq_true h2; exact decide_eq_true (by unfold winLt at *; omega)
  ntrans x y z h1 h2 := by rw [ltWn] at *; have a := of_decide_eq_false h1; have b := of_decide_eq_false h2; exact decide_eq_false (by unfold winLt at *; omega)

set_option maxRecDepth 100000 in
set_option maxHeartbeats 1000000 in
theorem closureWn (x y : Win) (W : World) : Calls Try.prog 51 #[.agg (Win.cells x).toArray, .agg (Win.cells y).toArray] W fun e w' => e = .returned (.int .i64 (cmpWn x y)) ∧ ∃ q os', w' = Sort.grow (W.drewN q) os' := by
  obtain ⟨xp, xf, xt⟩ := x
  obtain ⟨yp, yf, yt⟩ := y
  show Calls Try.prog 51 #[.agg #[.int .i64 xp, .int .i64 xf, .int .i64 xt], .agg #[.int .i64 yp, .int .i64 yf, .int .i64 yt]] W fun e w' => e = .returned (.int .i64 (firstNZ [Lib.compareInt xf yf, Lib.compareInt xp yp])) ∧ ∃ q os', w' = Sort.grow (W.drewN q) os'
  have C1 : Hid (∀ W', _) := fun W' => Try.cmp_Compare_int xf yf W'
  have C2 : Hid (∀ W', _) := fun W' => Try.cmp_Compare_int xp yp W'
  generalize Lib.compareInt xf yf = r at C1 ⊢
  generalize Lib.compareInt xp yp = s at C2 ⊢
  go_enter Try.func51, Try.ntmps51
  go_wp2_with fail
  obtain ⟨wq, hwq⟩ : ∃ wq : World, wq = (W.alloc (.cells #[.int .i64 xp, .int .i64 xf, .int .i64 xt] 53)).alloc (.cells #[.int .i64 yp, .int .i64 yf, .int .i64 yt] 53) := ⟨_, rfl⟩
  have x0 : wq.cell? ⟨W.heap.size, 0, none⟩ = some (.int .i64 xp) := by rw [hwq]; simp
  have x1 : wq.cell? ⟨W.heap.size, 1, none⟩ = some (.int .i64 xf) := by rw [hwq]; simp
  have y0 : wq.cell? ⟨W.heap.size + 1, 0, none⟩ = some (.int .i64 yp) := by rw [hwq]; simp
  have y1 : wq.cell? ⟨W.heap.size + 1, 1, none⟩ = some (.int .i64 yf) := by rw [hwq]; simp
  rw [← hwq]
  have HW := Lib.hid hwq
  clear hwq
  refine wp_region_still_tail 10 (by kernel_rfl) (by kernel_rfl) ?_
  simp only [List.take_succ_cons, List.take_zero, List.drop_succ_cons, List.drop_zero]
  still_step
  still_step
  still_step
  still_step
  still_call (C1.out _)
  still_step
  still_step
  still_step
  still_step
  still_call (C2.out _)
  refine wpStill_nil ?_
  have C3 := Lib.hid (or_any (some ⟨wq.heap.size, 0, none⟩) 2 [r, s] (wq.alloc (.cells #[.int .i64 r, .int .i64 s] 3)).drew (by simp) (Ints.low (ints_newW wq r s) (Nat.zero_le _)))
  go_wp2_with fail
  refine C3.out.mono ?_
  rintro e w' ⟨rfl, rfl⟩
  go_wp2_with fail
  go_ret
  exact ⟨rfl, 1, _, by rw [HW.out, alloc_eq_grow, alloc_eq_grow, alloc_eq_grow, grow_grow, grow_grow]; rfl⟩
theorem cmpLaysWn (blk off size : Nat) (w : World) : CmpLays Try.prog 51 #[] Win.cells 3 cmpWn blk off size w :=
  fun _ _ _ _ x y => closureWn x y _
theorem isAggWn (w : World) : (isAgg 53).run Try.prog w = .ok true w := by kernel_rfl
theorem sizeWn (w : World) : (Go.sizeOf 53).run Try.prog w = .ok 3 w := by kernel_rfl

/-- slices.SortFunc at windows: a permutation in order, in the same row. -/
theorem sortWn (g cap base n : Nat) (ws : List Win) (w : World) (hown : w.ownsRow base 53 3 (.slice (some ⟨g, 0, none⟩) n cap) n (ws.flatMap Win.cells)) (hn : n = ws.length) (hl : n ≤ 100000) :
    Calls Try.prog 50 #[.slice (some ⟨g, 0, none⟩) n cap, .func (.func 51) #[] #[]] w fun e w' => e = .returned (.tuple #[]) ∧
      ∃ qs : List Win, qs.Perm ws ∧ qs.Pairwise (fun a b => ¬ winLt b a) ∧ w'.ownsRow base 53 3 (.slice (some ⟨g, 0, none⟩) n cap) n (qs.flatMap Win.cells) ∧ w.grownBy w' (some g) := by
  have eg : ∀ args w, (callFunc 51 args).run Try.prog w = .ok (.enter 51 args) w := enters_of Try.func51 (by kernel_rfl) rfl
  have hH : HoldsK Win.cells 3 w g 0 ws.toArray := holdsK_of_own (enc := Win.cells) (k := 3) (fun _ => rfl) (by omega) hown hn
  have hcon := AnyQ.slices_SortFunc Try.sortWindow 3 isAggWn sizeWn Win.cells (fun _ => rfl) (fun x v hv => by simp [Win.cells] at hv; rcases hv with rfl | rfl | rfl <;> rfl) cmpWn swoWn 51 #[] g 0 cap ws.toArray w eg (cmpLaysWn g 0 ws.toArray.size w) hH (own_lt hown g rfl) (by simp only [List.size_toArray]; omega)
  change Calls Try.prog 50 _ _ _ at hcon
  have hsz : ws.toArray.size = n := by simp [hn]
  rw [hsz] at hcon
  refine hcon.mono ?_
  rintro e w' ⟨rfl, d', q, os, hpm, hst, rfl⟩
  rw [← hsz] at hpm hst
  obtain ⟨h1, h2⟩ := sorted_list hpm hst
  refine ⟨rfl, d'.toList, h1, ?_, ?_, ?_⟩
  · refine h2.imp ?_
    intro a b hab
    rw [ltWn] at hab
    exact of_decide_eq_false hab
  · have hlen : d'.toList.length = n := by rw [h1.length_eq]; exact hn.symm
    have o := own_sortK (enc := Win.cells) (k := 3) (fun _ => rfl) (by omega) (q := q) hown d'.toList hlen
    exact o.kept (grown_grow _ os) (by simp [Value.ownBlock])
  · exact only_grown (grown_putRow id w q g 0 _) (grown_grow _ os) (fun g' h => by cases h)

end Go.Proofs.Ytilkcailpkebdaa

/-
  The choice with given windows, in plain Lean.
-/
namespace Go.Proofs.Ytilkcailpkebdaa
open Go.RowKit
set_option linter.unusedVariables false

theorem totLoop_bd : ∀ (is l : List Int) (f : Nat → Int) (j : Nat), (∀ a ∈ l, 0 ≤ a) → f j ≤ totLoop is l f j ∧ totLoop is l f j ≤ f j + sumI l := by
  intro is
  induction is with
  | nil =>
    intro l f j h
    have : 0 ≤ sumI l := by
      induction l with
      | nil => simp [sumI]
      | cons a l ih => have h1 := h a (by simp); have h2 := ih (fun x hx => h x (by simp [hx])); simp only [sumI]; omega
    simp only [totLoop]; omega
  | cons i is ih =>
    intro l f j h
    cases l with
    | nil => simp [totLoop, sumI]
    | cons a l =>
      have ha := h a (by simp)
      simp only [totLoop, sumI]
      have h1 := ih l (if 0 ≤ i then addTo f i a else f) j (fun x hx => h x (by simp [hx]))
      have h2 : f j ≤ (if 0 ≤ i then addTo f i a else f) j ∧ (if 0 ≤ i then addTo f i a else f) j ≤ f j + a := by
        split
        · unfold addTo; split <;> omega
        · omega
      omega
theorem totF_bd {los : List Los} {am : List Int} {ws : List Win} (h : ∀ a ∈ am, 0 ≤ a) : ∀ t ∈ totF los am ws, 0 ≤ t ∧ t ≤ sumI am := by
  intro t ht
  unfold totF at ht
  obtain ⟨j, _, rfl⟩ := List.mem_map.1 ht
  have := totLoop_bd (asgF los ws) am (fun _ => 0) j h
  omega

def evalErr (los : List Los) (am : List Int) (ws : List Win) (n : Int) (ls : List P2) : Int :=
  if chkE los am ≠ 0 then chkE los am else if recErr 0 ls ≠ 0 then recErr 0 ls else winsE ws n
def recsF (ts : List Int) (ls : List P2) : List Int := ts.map fun t => recVal t ls
def evW (los : List Los) (am : List Int) (ws : List Win) (n : Int) (ls : List P2) : List Win := if evalErr los am ws n ls = 0 then ws else []
def evT (los : List Los) (am : List Int) (ws : List Win) (n : Int) (ls : List P2) : List Int := if evalErr los am ws n ls = 0 then totF los am ws else []
def evR (los : List Los) (am : List Int) (ws : List Win) (n : Int) (ls : List P2) : List Int := recsF (evT los am ws n ls) ls
theorem ev_bad {los : List Los} {am : List Int} {ws : List Win} {n : Int} {ls : List P2} (h : evalErr los am ws n ls ≠ 0) : evW los am ws n ls = [] ∧ evT los am ws n ls = [] ∧ evR los am ws n ls = [] := by
  unfold evR evW evT; rw [if_neg h, if_neg h]; exact ⟨rfl, rfl, rfl⟩
theorem ev_ok {los : List Los} {am : List Int} {ws : List Win} {n : Int} {ls : List P2} (h : evalErr los am ws n ls = 0) : evW los am ws n ls = ws ∧ evT los am ws n ls = totF los am ws ∧ evR los am ws n ls = recsF (totF los am ws) ls := by
  unfold evR evW evT; rw [if_pos h, if_pos h]; exact ⟨rfl, rfl, rfl⟩
theorem ev_parts {los : List Los} {am : List Int} {ws : List Win} {n : Int} {ls : List P2} (h1 : chkE los am = 0) (h2 : recErr 0 ls = 0) (h3 : winsE ws n = 0) : evalErr los am ws n ls = 0 := by
  unfold evalErr; rw [if_neg (by simp [h1]), if_neg (by simp [h2])]; exact h3
theorem sumR_next {ts : List Int} {ls : List P2} {k : Nat} {t s r : Int} (hd : ts.drop k = t :: ts.drop (k + 1)) (h : s + sumI (recsF (ts.drop k) ls) = r) : (s + recVal t ls) + sumI (recsF (ts.drop (k + 1)) ls) = r := by
  rw [hd] at h; unfold recsF at h ⊢; rw [List.map_cons, sumI] at h; omega
theorem winsE_len {ws : List Win} {n : Int} (h : winsE ws n = 0) : ws.length ≤ 64 := by
  unfold winsE at h; split at h <;> omega

end Go.Proofs.Ytilkcailpkebdaa
