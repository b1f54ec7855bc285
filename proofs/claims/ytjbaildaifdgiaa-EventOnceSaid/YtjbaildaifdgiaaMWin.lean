/-
  treatymade2.Windows: valid windows for a length.
-/
import Derived.Test.YtjbaildaifdgiaaMWinDef
import Derived.Test.YtjbaildaifdgiaaSameW
import Derived.Deep.DeepCutAuto
namespace Go.Proofs.Ytjbaildaifdgiaa
open Go.RowKit
set_option linter.unusedVariables false

theorem lt_of_heap {w : World} {b : Nat} {o : Obj} (h : w.heap[b]? = some o) : b < w.heap.size := by
  rcases Nat.lt_or_ge b w.heap.size with hlt | hge
  · exact hlt
  · rw [Array.getElem?_eq_none hge] at h; cases h
theorem own_low1 {w : World} {base base' : Nat} {e : TypeId} {size n : Nat} {v : Value} {xs : List Value} (h : w.ownsRow base e size v n xs) (hb : base' ≤ base) : w.ownsRow base' e size v n xs := by
  refine ⟨h.1, ?_⟩
  rcases h.2 with h0 | ⟨g, cap, cur, hv, hg, r⟩
  · exact .inl h0
  · exact .inr ⟨g, cap, cur, hv, by omega, r⟩

set_option maxRecDepth 100000 in
set_option maxHeartbeats 4000000 in
theorem mwindows_any (bd : Nat) (N : Int) (w : World) (hN0 : 1 ≤ N) (hN : N ≤ 1000) (hd : Deck w bd) :
    Calls Try.prog 29 #[.pointer (some ⟨bd, 0, none⟩), .int .i64 N] w fun e w' => ∃ (v : Value) (xs : List Win), e = .returned v ∧ xs.length ≤ 5 ∧ winsE xs N = 0 ∧ w'.ownsRow w.heap.size 69 3 v xs.length (xs.flatMap Win.cells) ∧ Deck w' bd ∧ w.grownBy w' (some bd) := by
  obtain ⟨i0, hi, hz0, hz1, hz2⟩ := info_parts Try.infoWindow
  have hlt := hd.lt
  go_enter Try.func29, Try.ntmps29
  go_wp2_with fail
  obtain ⟨w0, hw0⟩ : ∃ w0 : World, w0 = w.alloc (.cells #[.int .i64 0, .int .i64 0, .int .i64 0] 84) := ⟨_, rfl⟩
  have hh0 : w0.heap[w.heap.size]? = some (.cells #[.int .i64 0, .int .i64 0, .int .i64 0] 84 (0, 0)) := by rw [hw0]; exact heap_alloc_new w _
  have hd0 : Deck w0 bd := by rw [hw0]; exact hd.below (below_alloc1 _ _)
  have hg0 : w.grownBy w0 (some bd) := by rw [hw0]; exact only_alloc (only_refl _ _) _
  have hs0 : w0.heap.size = w.heap.size + 1 := by rw [hw0]; simp
  obtain ⟨bf, hbf⟩ : ∃ bf, bf = w.heap.size := ⟨_, rfl⟩
  rw [← hbf] at hh0
  have hbb : bd < bf := by omega
  have hbw : w.heap.size ≤ bf := by omega
  rw [← hw0, ← hbf]
  have HBF := Lib.hid hbf
  clear hw0 hbf hd
  refine (next_any bd 6 w0 (by omega) (by omega) hd0).mono ?_
  rintro e w1 ⟨r, rfl, hr0, hr1, hd1, hg1⟩
  have hh1 : w1.heap[bf]? = some (.cells #[.int .i64 0, .int .i64 0, .int .i64 0] 84 (0, 0)) := (hg1.block bf (lt_of_heap hh0) (fun e => by injection e with e; omega)).trans hh0
  have hg01 := only_trans hg0 hg1
  clear hh0 hd0 hg0 hg1
  have hs0' : w0.heap.size ≤ bf + 1 := by have := HBF.out; omega
  clear hs0
  go_wp2_with fail
  go_loopw [5, 7, 8, 9, 10, 11] (fun v t pp k _ _ wr => ∃ (xs : List Win) (fr per : Int) (kk : Nat) (a b c : Int), t = .int .i64 fr ∧ pp = .int .i64 per ∧ k = .int .i64 kk ∧ xs.length + kk ≤ 5 ∧ 0 ≤ fr ∧ fr + 19 * (kk : Int) ≤ 95 ∧ -1 ≤ per ∧ per ≤ 2 ∧ 0 ≤ a ∧ a ≤ 2000 ∧ 0 ≤ b ∧ b ≤ 2000 ∧ 0 ≤ c ∧ c ≤ 2000 ∧ MadeW N xs fr per (free3 a b c) ∧ wr.heap[bf]? = some (.cells #[.int .i64 a, .int .i64 b, .int .i64 c] 84 (0, 0)) ∧ wr.ownsRow (bf + 1) 69 3 v xs.length (xs.flatMap Win.cells) ∧ Deck wr bd ∧ w.grownBy wr (some bd)) (fun _ _ _ k _ _ _ => (intOf k).toNat)
  case atStart =>
    obtain ⟨rn, rfl⟩ := Int.eq_ofNat_of_zero_le hr0
    exact ⟨[], 0, -1, rn, 0, 0, 0, rfl, rfl, rfl, by simp; omega, by omega, by omega, by omega, by omega, by omega, by omega, by omega, by omega, by omega, by omega, MadeW.nil _ _, hh1, own_nil _ _ _ _, hd1, hg01⟩
  case round =>
    obtain ⟨xs, fr, per, kk, a, b, c, rfl, rfl, rfl, hkn, hf0, hf1, hp0, hp1, ha0, ha1, hb0, hb1, hc0, hc1, hmade, hh, hown, hdk, hgr⟩ := hrel
    have HMADE := Lib.hid hmade
    clear hmade hh1 hg01 hd1
    by_cases hk : 0 < kk
    case neg =>
      obtain rfl : kk = 0 := by omega
      go_wp2_with fail
      go_ret
      exact ⟨_, xs, rfl, by omega, HMADE.out.winsE (by omega) (by omega) (by omega), own_low1 hown (by omega), hdk, hgr⟩
    go_wp2_with fail
    refine (next_any bd 20 wr (by omega) (by omega) hdk).mono ?_
    rintro e w2 ⟨st, rfl, hst0, hst1, hd2, hg2⟩
    have hh2 : w2.heap[bf]? = some (.cells #[.int .i64 a, .int .i64 b, .int .i64 c] 84 (0, 0)) := (hg2.block bf (lt_of_heap hh) (fun e => by injection e with e; omega)).trans hh
    have hown2 := hown.kept hg2 (own_far hown (by omega))
    have hgr2 := only_trans hgr hg2
    clear hh hown hgr hg2 hdk
    go_upto_if 21 with fail
    go_cut [8] (fun s8 wc => ∃ per' : Int, s8 = .int .i64 per' ∧ -1 ≤ per' ∧ per' ≤ 2 ∧ MadeW N xs (fr + st) per' (free3 a b c) ∧ w2 = wc)
    case first =>
      by_cases hs : 0 < st
      · go_wp2_with fail
        go_meet
        exact ⟨-1, rfl, by omega, by omega, HMADE.out.step hs, rfl⟩
      · obtain rfl : st = 0 := by omega
        go_wp2_with fail
        go_meet
        exact ⟨per, rfl, hp0, hp1, by rw [Int.add_zero]; exact HMADE.out, rfl⟩
    case rest =>
      obtain ⟨per', rfl, hq0, hq1, hmade', rfl⟩ := hcut
      have HM2 := Lib.hid hmade'
      clear hmade' HMADE hp0 hp1
      go_wp2_with fail
      refine (next_any bd 3 w2 (by omega) (by omega) hd2).mono ?_
      rintro e w3 ⟨p, rfl, hpp0, hpp1, hd3, hg3⟩
      have hh3 : w3.heap[bf]? = some (.cells #[.int .i64 a, .int .i64 b, .int .i64 c] 84 (0, 0)) := (hg3.block bf (lt_of_heap hh2) (fun e => by injection e with e; omega)).trans hh2
      have hown3 := hown2.kept hg3 (own_far hown2 (by omega))
      have hgr3 := only_trans hgr2 hg3
      have n0 : w3.cell? ⟨bf, 0, none⟩ = some (.int .i64 a) := by simp [World.cell?, hh3]
      have n1 : w3.cell? ⟨bf, 1, none⟩ = some (.int .i64 b) := by simp [World.cell?, hh3]
      have n2 : w3.cell? ⟨bf, 2, none⟩ = some (.int .i64 c) := by simp [World.cell?, hh3]
      clear hh2 hown2 hgr2 hg3 hd2
      rcases (show p = 0 ∨ p = 1 ∨ p = 2 by omega) with rfl | rfl | rfl
      · by_cases hcont : 0 ≤ per' ∨ fr + st < a
        · by_cases hc1' : 0 ≤ per'
          · go_wp2_with fail
            go_roundw
            case rel => exact ⟨xs, fr + st, per', kk - 1, a, b, c, rfl, rfl, val_int (by omega), by omega, by omega, by omega, hq0, hq1, ha0, ha1, hb0, hb1, hc0, hc1, HM2.out, hh3, hown3, hd3, hgr3⟩
            case measure => simp [intOf]; omega
          · have hc2 : fr + st < a := by omega
            go_wp2_with fail
            go_roundw
            case rel => exact ⟨xs, fr + st, per', kk - 1, a, b, c, rfl, rfl, val_int (by omega), by omega, by omega, by omega, hq0, hq1, ha0, ha1, hb0, hb1, hc0, hc1, HM2.out, hh3, hown3, hd3, hgr3⟩
            case measure => simp [intOf]; omega
        · have hcA : ¬ 0 ≤ per' := by omega
          have hcB : ¬ fr + st < a := by omega
          clear hcont
          go_wp2_with fail
          refine (next_any bd N w3 (by omega) (by omega) hd3).mono ?_
          rintro e w4 ⟨r4, rfl, hr40, hr41, hd4, hg4⟩
          have hh4 : w4.heap[bf]? = some (.cells #[.int .i64 a, .int .i64 b, .int .i64 c] 84 (0, 0)) := (hg4.block bf (lt_of_heap hh3) (fun e => by injection e with e; omega)).trans hh3
          have hown4 := hown3.kept hg4 (own_far hown3 (by omega))
          have hgr4 := only_trans hgr3 hg4
          have m0 : w4.cell? ⟨bf, 0, none⟩ = some (.int .i64 a) := by simp [World.cell?, hh4]
          have mf : w4.frozen? ⟨bf, 0, none⟩ = false := by simp [World.frozen?, hh4]
          clear n0 n1 n2 hh3 hown3 hgr3 hg4 hd3
          go_upto_region 15 with fail
          obtain ⟨w5, hw5⟩ : ∃ w5 : World, w5 = w4.setCell ⟨bf, 0, none⟩ (.int .i64 (fr + st + 1 + r4)) := ⟨_, rfl⟩
          have hh5 : w5.heap[bf]? = some (.cells #[.int .i64 (fr + st + 1 + r4), .int .i64 b, .int .i64 c] 84 (0, 0)) := by rw [hw5]; simp [World.setCell, Array.getElem?_modify, hh4]
          have hown5 : w5.ownsRow (bf + 1) 69 3 u5 xs.length (xs.flatMap Win.cells) := by
            rw [hw5]; exact hown4.kept (row := some bf) (only_setCell (only_refl _ _) (.inl rfl) _) (own_far hown4 (by omega))
          have hd5 : Deck w5 bd := by rw [hw5]; exact hd4.keep fun k hk => Below.heap_setCell _ _ _ _ (by dsimp only; omega)
          have hgr5 : w.grownBy w5 (some bd) := by rw [hw5]; exact only_setCell hgr4 (.inr hbw) _
          have o0 : w5.cell? ⟨bf, 0, none⟩ = some (.int .i64 (fr + st + 1 + r4)) := by simp [World.cell?, hh5]
          rw [← hw5]
          have hlow := own_low hown5
          have hsz5 := lt_of_heap hh5
          clear hw5 hh4 hown4 hgr4 hd4 m0 mf
          go_wp2_with (at_builtin; refine wpList_append_own _ rfl (.tmp 46) (.tmp 53) 54 rfl (bf + 1) 69 i0 _ 3 24 Try.underlying54 hi hz0 hz1 hz2 rfl (by decide) _ _ _ rfl (hown5.alloc _) ⟨w5.heap.size, 0, none⟩ 1 1 [.int .i64 0, .int .i64 (fr + st), .int .i64 (fr + st + 1 + r4)] rfl rfl ?k1 ?k2 ?k3 ?k4 ?k5 ?_)
          case k1 => exact cell_new _ _ _
          case k2 => intro u hu; simp at hu; rcases hu with rfl | rfl | rfl <;> rfl
          case k3 => unfold maxLen; omega
          case k4 => omega
          case k5 => simp; omega
          intro v' w6 hown6 hg6 _
          have hgr6 : w.grownBy w6 (some bd) := only_grown (only_alloc hgr5 _) hg6 (fun g hg => by have := hlow g hg; omega)
          have hd6 : Deck w6 bd := (hd5.below (below_alloc1 _ _)).grown hg6 (fun g hg => by have := hlow g hg; omega)
          have hh6 : w6.heap[bf]? = some (.cells #[.int .i64 (fr + st + 1 + r4), .int .i64 b, .int .i64 c] 84 (0, 0)) := (hg6.block bf (by simp; omega) (fun e => by have := hlow bf e.symm; omega)).trans ((Below.heap_alloc w5 _ bf hsz5).trans hh5)
          clear hh5 hown5 hgr5 hd5 o0 hg6
          go_wp2_with fail
          go_roundw
          case rel =>
            refine ⟨xs ++ [⟨0, fr + st, fr + st + 1 + r4⟩], fr + st, 0, kk - 1, (fr + st + 1 + r4), b, c, rfl, rfl, val_int (by omega), by simp; omega, by omega, by omega, by omega, by omega, by omega, by omega, by omega, by omega, by omega, by omega, ?_, hh6, ?_, hd6, hgr6⟩
            · exact HM2.out.snoc (p := 0) (r := r4) (by omega) (by omega) (by omega) (by omega) (by omega) hr40 hr41 hN (by simp [free3]; omega) (by simp [free3]) (fun q hq => by unfold free3; repeat' split <;> first | rfl | (exfalso; omega))
            · rw [List.flatMap_append, List.length_append]; exact hown6
          case measure => simp [intOf]; omega
      · by_cases hcont : 1 ≤ per' ∨ fr + st < b
        · by_cases hc1' : 1 ≤ per'
          · go_wp2_with fail
            go_roundw
            case rel => exact ⟨xs, fr + st, per', kk - 1, a, b, c, rfl, rfl, val_int (by omega), by omega, by omega, by omega, hq0, hq1, ha0, ha1, hb0, hb1, hc0, hc1, HM2.out, hh3, hown3, hd3, hgr3⟩
            case measure => simp [intOf]; omega
          · have hc2 : fr + st < b := by omega
            go_wp2_with fail
            go_roundw
            case rel => exact ⟨xs, fr + st, per', kk - 1, a, b, c, rfl, rfl, val_int (by omega), by omega, by omega, by omega, hq0, hq1, ha0, ha1, hb0, hb1, hc0, hc1, HM2.out, hh3, hown3, hd3, hgr3⟩
            case measure => simp [intOf]; omega
        · have hcA : ¬ 1 ≤ per' := by omega
          have hcB : ¬ fr + st < b := by omega
          clear hcont
          go_wp2_with fail
          refine (next_any bd N w3 (by omega) (by omega) hd3).mono ?_
          rintro e w4 ⟨r4, rfl, hr40, hr41, hd4, hg4⟩
          have hh4 : w4.heap[bf]? = some (.cells #[.int .i64 a, .int .i64 b, .int .i64 c] 84 (0, 0)) := (hg4.block bf (lt_of_heap hh3) (fun e => by injection e with e; omega)).trans hh3
          have hown4 := hown3.kept hg4 (own_far hown3 (by omega))
          have hgr4 := only_trans hgr3 hg4
          have m0 : w4.cell? ⟨bf, 1, none⟩ = some (.int .i64 b) := by simp [World.cell?, hh4]
          have mf : w4.frozen? ⟨bf, 1, none⟩ = false := by simp [World.frozen?, hh4]
          clear n0 n1 n2 hh3 hown3 hgr3 hg4 hd3
          go_upto_region 15 with fail
          obtain ⟨w5, hw5⟩ : ∃ w5 : World, w5 = w4.setCell ⟨bf, 1, none⟩ (.int .i64 (fr + st + 1 + r4)) := ⟨_, rfl⟩
          have hh5 : w5.heap[bf]? = some (.cells #[.int .i64 a, .int .i64 (fr + st + 1 + r4), .int .i64 c] 84 (0, 0)) := by rw [hw5]; simp [World.setCell, Array.getElem?_modify, hh4]
          have hown5 : w5.ownsRow (bf + 1) 69 3 u5 xs.length (xs.flatMap Win.cells) := by
            rw [hw5]; exact hown4.kept (row := some bf) (only_setCell (only_refl _ _) (.inl rfl) _) (own_far hown4 (by omega))
          have hd5 : Deck w5 bd := by rw [hw5]; exact hd4.keep fun k hk => Below.heap_setCell _ _ _ _ (by dsimp only; omega)
          have hgr5 : w.grownBy w5 (some bd) := by rw [hw5]; exact only_setCell hgr4 (.inr hbw) _
          have o0 : w5.cell? ⟨bf, 1, none⟩ = some (.int .i64 (fr + st + 1 + r4)) := by simp [World.cell?, hh5]
          rw [← hw5]
          have hlow := own_low hown5
          have hsz5 := lt_of_heap hh5
          clear hw5 hh4 hown4 hgr4 hd4 m0 mf
          go_wp2_with (at_builtin; refine wpList_append_own _ rfl (.tmp 46) (.tmp 53) 54 rfl (bf + 1) 69 i0 _ 3 24 Try.underlying54 hi hz0 hz1 hz2 rfl (by decide) _ _ _ rfl (hown5.alloc _) ⟨w5.heap.size, 0, none⟩ 1 1 [.int .i64 1, .int .i64 (fr + st), .int .i64 (fr + st + 1 + r4)] rfl rfl ?k1 ?k2 ?k3 ?k4 ?k5 ?_)
          case k1 => exact cell_new _ _ _
          case k2 => intro u hu; simp at hu; rcases hu with rfl | rfl | rfl <;> rfl
          case k3 => unfold maxLen; omega
          case k4 => omega
          case k5 => simp; omega
          intro v' w6 hown6 hg6 _
          have hgr6 : w.grownBy w6 (some bd) := only_grown (only_alloc hgr5 _) hg6 (fun g hg => by have := hlow g hg; omega)
          have hd6 : Deck w6 bd := (hd5.below (below_alloc1 _ _)).grown hg6 (fun g hg => by have := hlow g hg; omega)
          have hh6 : w6.heap[bf]? = some (.cells #[.int .i64 a, .int .i64 (fr + st + 1 + r4), .int .i64 c] 84 (0, 0)) := (hg6.block bf (by simp; omega) (fun e => by have := hlow bf e.symm; omega)).trans ((Below.heap_alloc w5 _ bf hsz5).trans hh5)
          clear hh5 hown5 hgr5 hd5 o0 hg6
          go_wp2_with fail
          go_roundw
          case rel =>
            refine ⟨xs ++ [⟨1, fr + st, fr + st + 1 + r4⟩], fr + st, 1, kk - 1, a, (fr + st + 1 + r4), c, rfl, rfl, val_int (by omega), by simp; omega, by omega, by omega, by omega, by omega, by omega, by omega, by omega, by omega, by omega, by omega, ?_, hh6, ?_, hd6, hgr6⟩
            · exact HM2.out.snoc (p := 1) (r := r4) (by omega) (by omega) (by omega) (by omega) (by omega) hr40 hr41 hN (by simp [free3]; omega) (by simp [free3]) (fun q hq => by unfold free3; repeat' split <;> first | rfl | (exfalso; omega))
            · rw [List.flatMap_append, List.length_append]; exact hown6
          case measure => simp [intOf]; omega
      · by_cases hcont : 2 ≤ per' ∨ fr + st < c
        · by_cases hc1' : 2 ≤ per'
          · go_wp2_with fail
            go_roundw
            case rel => exact ⟨xs, fr + st, per', kk - 1, a, b, c, rfl, rfl, val_int (by omega), by omega, by omega, by omega, hq0, hq1, ha0, ha1, hb0, hb1, hc0, hc1, HM2.out, hh3, hown3, hd3, hgr3⟩
            case measure => simp [intOf]; omega
          · have hc2 : fr + st < c := by omega
            go_wp2_with fail
            go_roundw
            case rel => exact ⟨xs, fr + st, per', kk - 1, a, b, c, rfl, rfl, val_int (by omega), by omega, by omega, by omega, hq0, hq1, ha0, ha1, hb0, hb1, hc0, hc1, HM2.out, hh3, hown3, hd3, hgr3⟩
            case measure => simp [intOf]; omega
        · have hcA : ¬ 2 ≤ per' := by omega
          have hcB : ¬ fr + st < c := by omega
          clear hcont
          go_wp2_with fail
          refine (next_any bd N w3 (by omega) (by omega) hd3).mono ?_
          rintro e w4 ⟨r4, rfl, hr40, hr41, hd4, hg4⟩
          have hh4 : w4.heap[bf]? = some (.cells #[.int .i64 a, .int .i64 b, .int .i64 c] 84 (0, 0)) := (hg4.block bf (lt_of_heap hh3) (fun e => by injection e with e; omega)).trans hh3
          have hown4 := hown3.kept hg4 (own_far hown3 (by omega))
          have hgr4 := only_trans hgr3 hg4
          have m0 : w4.cell? ⟨bf, 2, none⟩ = some (.int .i64 c) := by simp [World.cell?, hh4]
          have mf : w4.frozen? ⟨bf, 2, none⟩ = false := by simp [World.frozen?, hh4]
          clear n0 n1 n2 hh3 hown3 hgr3 hg4 hd3
          go_upto_region 15 with fail
          obtain ⟨w5, hw5⟩ : ∃ w5 : World, w5 = w4.setCell ⟨bf, 2, none⟩ (.int .i64 (fr + st + 1 + r4)) := ⟨_, rfl⟩
          have hh5 : w5.heap[bf]? = some (.cells #[.int .i64 a, .int .i64 b, .int .i64 (fr + st + 1 + r4)] 84 (0, 0)) := by rw [hw5]; simp [World.setCell, Array.getElem?_modify, hh4]
          have hown5 : w5.ownsRow (bf + 1) 69 3 u5 xs.length (xs.flatMap Win.cells) := by
            rw [hw5]; exact hown4.kept (row := some bf) (only_setCell (only_refl _ _) (.inl rfl) _) (own_far hown4 (by omega))
          have hd5 : Deck w5 bd := by rw [hw5]; exact hd4.keep fun k hk => Below.heap_setCell _ _ _ _ (by dsimp only; omega)
          have hgr5 : w.grownBy w5 (some bd) := by rw [hw5]; exact only_setCell hgr4 (.inr hbw) _
          have o0 : w5.cell? ⟨bf, 2, none⟩ = some (.int .i64 (fr + st + 1 + r4)) := by simp [World.cell?, hh5]
          rw [← hw5]
          have hlow := own_low hown5
          have hsz5 := lt_of_heap hh5
          clear hw5 hh4 hown4 hgr4 hd4 m0 mf
          go_wp2_with (at_builtin; refine wpList_append_own _ rfl (.tmp 46) (.tmp 53) 54 rfl (bf + 1) 69 i0 _ 3 24 Try.underlying54 hi hz0 hz1 hz2 rfl (by decide) _ _ _ rfl (hown5.alloc _) ⟨w5.heap.size, 0, none⟩ 1 1 [.int .i64 2, .int .i64 (fr + st), .int .i64 (fr + st + 1 + r4)] rfl rfl ?k1 ?k2 ?k3 ?k4 ?k5 ?_)
          case k1 => exact cell_new _ _ _
          case k2 => intro u hu; simp at hu; rcases hu with rfl | rfl | rfl <;> rfl
          case k3 => unfold maxLen; omega
          case k4 => omega
          case k5 => simp; omega
          intro v' w6 hown6 hg6 _
          have hgr6 : w.grownBy w6 (some bd) := only_grown (only_alloc hgr5 _) hg6 (fun g hg => by have := hlow g hg; omega)
          have hd6 : Deck w6 bd := (hd5.below (below_alloc1 _ _)).grown hg6 (fun g hg => by have := hlow g hg; omega)
          have hh6 : w6.heap[bf]? = some (.cells #[.int .i64 a, .int .i64 b, .int .i64 (fr + st + 1 + r4)] 84 (0, 0)) := (hg6.block bf (by simp; omega) (fun e => by have := hlow bf e.symm; omega)).trans ((Below.heap_alloc w5 _ bf hsz5).trans hh5)
          clear hh5 hown5 hgr5 hd5 o0 hg6
          go_wp2_with fail
          go_roundw
          case rel =>
            refine ⟨xs ++ [⟨2, fr + st, fr + st + 1 + r4⟩], fr + st, 2, kk - 1, a, b, (fr + st + 1 + r4), rfl, rfl, val_int (by omega), by simp; omega, by omega, by omega, by omega, by omega, by omega, by omega, by omega, by omega, by omega, by omega, ?_, hh6, ?_, hd6, hgr6⟩
            · exact HM2.out.snoc (p := 2) (r := r4) (by omega) (by omega) (by omega) (by omega) (by omega) hr40 hr41 hN (by simp [free3]; omega) (by simp [free3]) (fun q hq => by unfold free3; repeat' split <;> first | rfl | (exfalso; omega))
            · rw [List.flatMap_append, List.length_append]; exact hown6
          case measure => simp [intOf]; omega

end Go.Proofs.Ytjbaildaifdgiaa
