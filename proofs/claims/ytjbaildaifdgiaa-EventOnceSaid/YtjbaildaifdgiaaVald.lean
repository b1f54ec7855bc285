/-
  event.Validate: its contract.
-/
import Derived.Test.YtjbaildaifdgiaaOne
import Derived.Deep.RegionHeld3
namespace Go.Proofs.Ytjbaildaifdgiaa
open Go.RowKit
set_option linter.unusedVariables false

theorem Wins.take {w : World} {lo : Nat} {A : Option Addr} {xs : List Win} (h : Wins w lo A xs) (k : Nat) : Wins w lo A (xs.take k) := by
  intro hp
  have hp' : 0 < (xs.map Win.cells).length := by simp at hp ⊢; omega
  obtain ⟨b, off, e, h1, h2, hc⟩ := h hp'
  refine ⟨b, off, e, h1, h2, fun i x hx => hc i x ?_⟩
  rw [List.map_take, List.getElem?_take] at hx
  split at hx
  · exact hx
  · cases hx

set_option maxHeartbeats 1000000 in
theorem validate_any (A : Option Addr) (c : Nat) (xs : List Win) (n : Int) (w : World) (hxl : xs.length ≤ 9223372036854775807) (hxc : xs.length ≤ c) (hX : Wins w 0 A xs) :
    Calls Try.prog 38 #[.slice A xs.length c, .int .i64 n] w fun e w' => e = .returned (.int .i64 (winsE xs n)) ∧ Below w.heap.size w w' := by
  obtain ⟨m, hm⟩ : ∃ m, m = xs.length := ⟨_, rfl⟩
  rw [← hm] at hxl hxc ⊢
  have HM := Lib.hid hm
  by_cases h64 : 64 < m
  · have HR : Hid (winsE xs n = 4) := by unfold winsE; rw [if_pos (by omega)]; rfl
    clear hm
    go_enter Try.func38, Try.ntmps38
    go_wp2_with fail
    go_ret
    exact ⟨ret_int HR.out.symm, Below.refl _ _⟩
  have q : decide (64 < (m : Int)) = false := by simp; omega
  by_cases hn : 1 ≤ n ∧ n ≤ 8784
  case neg =>
    have HR : Hid (winsE xs n = 1) := by unfold winsE; rw [if_neg (by omega), if_pos (by omega)]; rfl
    have v1 := withinB_false hn
    clear hm
    go_enter Try.func38, Try.ntmps38
    go_wp2_with (go_at_call 56; refine (within_any _ _ _ _).mono ?_; rintro e w' ⟨rfl, rfl⟩)
    go_ret
    exact ⟨ret_int HR.out.symm, Below.refl _ _⟩
  have HR : Hid (winsE xs n = winsLoop n [] xs) := by unfold winsE; rw [if_neg (by omega), if_neg (by omega)]; rfl
  have v1 := withinB_true hn.1 hn.2
  have CO : Hid (∀ (k : Nat) (x : Win) (W : World), k ≤ m → Wins W 0 A xs → Calls Try.prog 58 #[.slice A k c, .agg #[.int .i64 x.peril, .int .i64 x.fr, .int .i64 x.to], .int .i64 n] W fun e w' => e = .returned (.int .i64 (oneE (xs.take k) x n)) ∧ Below W.heap.size W w') := by
    intro k x W hk h
    have := one_any A c (xs.take k) x n W (by simp; omega) (h.take k)
    rw [List.length_take, Nat.min_eq_left (by omega)] at this
    exact this
  clear hm hn
  go_enter Try.func38, Try.ntmps38
  go_wp2_with (go_at_call 56; refine (within_any _ _ _ _).mono ?_; rintro e w' ⟨rfl, rfl⟩)
  go_loopw [5, 6, 7, 16] (fun _ _ _ ii wr => ∃ k : Nat, k ≤ m ∧ ii = .int .i64 k ∧ Below w.heap.size w wr ∧ winsLoop n (xs.take k) (xs.drop k) = winsLoop n [] xs) (fun _ _ _ ii _ => m - (intOf ii).toNat)
  case atStart => exact ⟨0, Nat.zero_le _, rfl, Below.refl _ _, rfl⟩
  case round =>
    obtain ⟨k, hk, rfl, hb, hloop⟩ := hrel
    have HL := Lib.hid hloop
    clear hloop
    by_cases hlt : k < m
    · obtain ⟨x, hx, hd⟩ := drop_cons (xs := xs) (i := k) (by rw [← HM.out]; exact hlt)
      obtain ⟨b, off, rfl, _, hbl, c0, c1, c2⟩ := (hX.below hb).at_ hx
      have HD := Lib.hid hd
      have HXK := Lib.hid hx
      clear hx hd
      go_wp2_with fail
      obtain ⟨w1, hw1⟩ : ∃ w1 : World, w1 = wr.alloc (.cells #[.int .i64 x.peril, .int .i64 x.fr, .int .i64 x.to] 69) := ⟨_, rfl⟩
      have d0 : w1.cell? ⟨wr.heap.size, 0, none⟩ = some (.int .i64 x.peril) := by rw [hw1]; simp
      have d1 : w1.cell? ⟨wr.heap.size, 1, none⟩ = some (.int .i64 x.fr) := by rw [hw1]; simp
      have d2 : w1.cell? ⟨wr.heap.size, 2, none⟩ = some (.int .i64 x.to) := by rw [hw1]; simp
      have hb1 : Below w.heap.size w w1 := by rw [hw1]; exact hb.alloc hb.size _
      have hX1 : Wins w1.drew 0 (some ⟨b, off, none⟩) xs := hX.below (w' := w1.drew) hb1.drew
      rw [← hw1]
      clear hw1 c0 c1 c2 hb
      have hk0 : (0 : Int) ≤ (k : Int) := by omega
      have hkc : (k : Int) ≤ (c : Int) := by omega
      have hkm : (k : Int) ≤ (m : Int) := by omega
      have hkc' : k ≤ c := by omega
      go_region_held3 (fun W => W.cell? ⟨wr.heap.size, 0, none⟩ = some (.int .i64 x.peril) ∧ W.cell? ⟨wr.heap.size, 1, none⟩ = some (.int .i64 x.fr) ∧ W.cell? ⟨wr.heap.size, 2, none⟩ = some (.int .i64 x.to))
        (first | go_keep | exact keep2)
        (first | (go_at_call 58; refine (CO.out k x _ hk hX1).mono ?_; rintro e w2 ⟨rfl, hb2⟩; have keep2 : w2.cell? ⟨wr.heap.size, 0, none⟩ = some (.int .i64 x.peril) ∧ w2.cell? ⟨wr.heap.size, 1, none⟩ = some (.int .i64 x.fr) ∧ w2.cell? ⟨wr.heap.size, 2, none⟩ = some (.int .i64 x.to) := ⟨(hb2.cell (p := ⟨wr.heap.size, 0, none⟩) (World.block_lt_of_cell? w1 _ d0)).trans d0, (hb2.cell (p := ⟨wr.heap.size, 1, none⟩) (World.block_lt_of_cell? w1 _ d1)).trans d1, (hb2.cell (p := ⟨wr.heap.size, 2, none⟩) (World.block_lt_of_cell? w1 _ d2)).trans d2⟩))
      have hbw : Below w.heap.size w w2 := hb1.drew.trans (hb2.mono hb1.size)
      by_cases he : oneE (xs.take k) x n = 0
      · have q3 : (oneE (xs.take k) x n != 0) = false := by rw [he]; rfl
        have HX := Lib.hid (wins_next HXK.out HD.out HL.out he)
        clear he
        go_wp2_with fail
        go_roundw
        case rel => exact ⟨k + 1, by omega, by go_num, hbw, HX.out⟩
        case measure => simp [intOf]; omega
      · have q3 : (oneE (xs.take k) x n != 0) = true := by simpa using he
        have HX := Lib.hid (wins_stop HD.out HL.out he)
        clear he
        go_wp2_with fail
        go_ret
        exact ⟨ret_int (HR.out.trans HX.out).symm, hbw⟩
    · obtain rfl : k = m := by omega
      have h1 := HL.out
      rw [HM.out] at h1
      have HX := Lib.hid (wins_end h1)
      clear h1
      go_wp2_with fail
      go_ret
      exact ⟨ret_int (HR.out.trans HX.out).symm, hb⟩

end Go.Proofs.Ytjbaildaifdgiaa
