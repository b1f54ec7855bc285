/-
  event.one: its contract.
-/
import Derived.Test.YtjbaildaifdgiaaWinDef
import Derived.Test.YtjbaildaifdgiaaChkE
import Derived.Deep.DeepCutAuto
namespace Go.Proofs.Ytjbaildaifdgiaa
open Go.RowKit
set_option linter.unusedVariables false

theorem below_alloc1 (w : World) (o : Obj) : Below w.heap.size w (w.alloc o) := (Below.refl _ _).alloc (Nat.le_refl _) _

set_option maxRecDepth 100000 in
set_option maxHeartbeats 2000000 in
theorem one_any (A : Option Addr) (c : Nat) (bs : List Win) (x : Win) (n : Int) (w : World) (hbl : bs.length ≤ 1000) (hB : Wins w 0 A bs) :
    Calls Try.prog 58 #[.slice A bs.length c, .agg #[.int .i64 x.peril, .int .i64 x.fr, .int .i64 x.to], .int .i64 n] w fun e w' => e = .returned (.int .i64 (oneE bs x n)) ∧ Below w.heap.size w w' := by
  obtain ⟨m, hm⟩ : ∃ m, m = bs.length := ⟨_, rfl⟩
  rw [← hm] at hbl ⊢
  have HM := Lib.hid hm
  clear hm
  by_cases hr : winRange x = true
  case neg =>
    have HR := Lib.hid (one_range (before := bs) (n := n) (Bool.eq_false_iff.2 hr))
    have hno : ¬ (0 ≤ x.peril ∧ x.peril ≤ 15 ∧ 0 ≤ x.fr ∧ x.fr < x.to ∧ x.to ≤ 876600) := fun h => hr ((winRange_iff x).2 h)
    clear hr
    by_cases h1 : 0 ≤ x.peril ∧ x.peril ≤ 15
    · have v1 := withinB_true h1.1 h1.2
      have hno' : ¬ (0 ≤ x.fr ∧ x.fr < x.to ∧ x.to ≤ 876600) := by omega
      clear hno h1
      go_enter Try.func58, Try.ntmps58
      go_wp2_with (go_at_call 56; refine (within_any _ _ _ _).mono ?_; rintro e w' ⟨rfl, rfl⟩)
      all_goals first | (exfalso; omega) | (go_ret; exact ⟨ret_int HR.out.symm, (Below.refl _ _).alloc (Nat.le_refl _) _⟩)
    · have v1 := withinB_false h1
      clear hno h1
      go_enter Try.func58, Try.ntmps58
      go_wp2_with (go_at_call 56; refine (within_any _ _ _ _).mono ?_; rintro e w' ⟨rfl, rfl⟩)
      go_ret
      exact ⟨ret_int HR.out.symm, (Below.refl _ _).alloc (Nat.le_refl _) _⟩
  obtain ⟨g1, g2, g3, g4, g5⟩ := (winRange_iff x).1 hr
  have v1 := withinB_true g1 g2
  by_cases hl : n < x.to - x.fr
  · have HR := Lib.hid (one_limit (before := bs) hr hl)
    clear hr
    go_enter Try.func58, Try.ntmps58
    go_wp2_with (go_at_call 56; refine (within_any _ _ _ _).mono ?_; rintro e w' ⟨rfl, rfl⟩)
    go_ret
    exact ⟨ret_int HR.out.symm, (Below.refl _ _).alloc (Nat.le_refl _) _⟩
  have HRG := Lib.hid hr
  have HLM := Lib.hid hl
  have hl' : x.to - x.fr ≤ n := by omega
  clear hr hl
  have hb0 := (Below.refl w.heap.size w).alloc (Nat.le_refl _) (.cells #[.int .i64 x.peril, .int .i64 x.fr, .int .i64 x.to] 69)
  have hB0 := hB.below hb0
  have k0 : (w.alloc (.cells #[.int .i64 x.peril, .int .i64 x.fr, .int .i64 x.to] 69)).cell? ⟨w.heap.size, 0, none⟩ = some (.int .i64 x.peril) := by simp
  have k1 : (w.alloc (.cells #[.int .i64 x.peril, .int .i64 x.fr, .int .i64 x.to] 69)).cell? ⟨w.heap.size, 1, none⟩ = some (.int .i64 x.fr) := by simp
  have k2 : (w.alloc (.cells #[.int .i64 x.peril, .int .i64 x.fr, .int .i64 x.to] 69)).cell? ⟨w.heap.size, 2, none⟩ = some (.int .i64 x.to) := by simp
  have kz : w.heap.size < (w.alloc (.cells #[.int .i64 x.peril, .int .i64 x.fr, .int .i64 x.to] 69)).heap.size := by simp
  go_enter Try.func58, Try.ntmps58
  go_upto_if 42 with (go_at_call 56; refine (within_any _ _ _ _).mono ?_; rintro e w' ⟨rfl, rfl⟩)
  obtain ⟨w1, hw1⟩ : ∃ w1 : World, w1 = w.alloc (.cells #[.int .i64 x.peril, .int .i64 x.fr, .int .i64 x.to] 69) := ⟨_, rfl⟩
  rw [← hw1] at hb0 hB0 k0 k1 k2 kz ⊢
  clear hw1 hB
  go_cut [4, 8] (fun s4 _ wc => s4 = .pointer (some ⟨w.heap.size, 0, none⟩) ∧ Below w1.heap.size w1 wc ∧ ∀ l, bs.getLast? = some l → winOrd l x = false)
  case first =>
    by_cases h0 : 0 < m
    · obtain ⟨l, hl, _⟩ := drop_cons (xs := bs) (i := m - 1) (by rw [← HM.out]; omega)
      have HLL : Hid (bs.getLast? = some l) := by rw [List.getLast?_eq_getElem?, ← HM.out, hl]; rfl
      obtain ⟨b, off, rfl, _, _, c0, c1, c2⟩ := hB0.at_ hl
      have q : decide (0 < m) = true := by simpa using h0
      clear hl
      rcases Int.lt_trichotomy x.fr l.fr with hlt | heq | hgt
      · have HR := Lib.hid (one_order (n := n) HRG.out (by omega) HLL.out ((winOrd_iff l x).2 (.inl hlt)))
        go_wp2_with fail
        go_ret
        exact ⟨ret_int HR.out.symm, hb0.trans ((below_alloc1 w1 _).mono hb0.size)⟩
      · have qe : (x.fr == l.fr) = true := by simpa using heq
        have hnl : ¬ x.fr < l.fr := by omega
        by_cases hp : x.peril ≤ l.peril
        · have HR := Lib.hid (one_order (n := n) HRG.out (by omega) HLL.out ((winOrd_iff l x).2 (.inr ⟨heq, hp⟩)))
          clear heq
          go_wp2_with fail
          go_ret
          exact ⟨ret_int HR.out.symm, hb0.trans ((below_alloc1 w1 _).mono hb0.size)⟩
        · have HO : Hid (winOrd l x = false) := by rw [Bool.eq_false_iff]; intro h; have := (winOrd_iff l x).1 h; omega
          clear heq
          go_wp2_with fail
          go_meet
          exact ⟨rfl, below_alloc1 w1 _, fun l' hl' => by rw [HLL.out] at hl'; injection hl' with hl'; rw [← hl']; exact HO.out⟩
      · have qe : (x.fr == l.fr) = false := by simp; omega
        have hnl : ¬ x.fr < l.fr := by omega
        have HO : Hid (winOrd l x = false) := by rw [Bool.eq_false_iff]; intro h; have := (winOrd_iff l x).1 h; omega
        go_wp2_with fail
        go_meet
        exact ⟨rfl, below_alloc1 w1 _, fun l' hl' => by rw [HLL.out] at hl'; injection hl' with hl'; rw [← hl']; exact HO.out⟩
    · have q : decide (0 < m) = false := by simp; omega
      go_wp2_with fail
      go_meet
      refine ⟨rfl, Below.refl _ _, fun l hl => ?_⟩
      have : bs = [] := List.eq_nil_of_length_eq_zero (by have := HM.out; omega)
      rw [this] at hl; simp at hl
  case rest =>
    obtain ⟨rfl, hbc, hord⟩ := hcut
    have HR := Lib.hid (one_rest (n := n) HRG.out (by omega) hord)
    clear hord
    go_wp2_with fail
    go_loopw [10, 69] (fun _ ii wr => ∃ k : Nat, k ≤ m ∧ ii = .int .i64 k ∧ Below w1.heap.size w1 wr ∧ ((bs.drop k).any fun v => winMeet v x) = (bs.any fun v => winMeet v x)) (fun _ ii _ => m - (intOf ii).toNat)
    case atStart => exact ⟨0, Nat.zero_le _, rfl, hbc, rfl⟩
    case round =>
      obtain ⟨k, hk, rfl, hbr, hany⟩ := hrel
      have HA := Lib.hid hany
      clear hany
      by_cases hlt : k < m
      · obtain ⟨v, hv, hd⟩ := drop_cons (xs := bs) (i := k) (by rw [← HM.out]; exact hlt)
        obtain ⟨b, off, rfl, _, _, c0, c1, c2⟩ := (hB0.below hbr).at_ hv
        have j0 : wr.cell? ⟨w.heap.size, 0, none⟩ = some (.int .i64 x.peril) := (hbr.cell (p := ⟨w.heap.size, 0, none⟩) kz).trans k0
        have j1 : wr.cell? ⟨w.heap.size, 1, none⟩ = some (.int .i64 x.fr) := (hbr.cell (p := ⟨w.heap.size, 1, none⟩) kz).trans k1
        have j2 : wr.cell? ⟨w.heap.size, 2, none⟩ = some (.int .i64 x.to) := (hbr.cell (p := ⟨w.heap.size, 2, none⟩) kz).trans k2
        have jz : w.heap.size < wr.heap.size := Nat.lt_of_lt_of_le kz hbr.size
        have HV := Lib.hid (List.mem_of_getElem? hv)
        have HD := Lib.hid hd
        clear hv hd
        by_cases hmt : winMeet v x = true
        · obtain ⟨e1, e2, e3⟩ := (winMeet_iff v x).1 hmt
          have HX : Hid (oneE bs x n = 8) := by
            rw [HR.out, if_pos (List.any_eq_true.2 ⟨v, HV.out, hmt⟩)]; rfl
          have q1 : (v.peril == x.peril) = true := by simpa using e1
          clear hmt e1
          go_wp2_with fail
          go_ret
          exact ⟨ret_int HX.out.symm, hb0.trans ((hbr.alloc hbr.size _).mono hb0.size)⟩
        · have HX : Hid (((bs.drop (k + 1)).any fun v => winMeet v x) = (bs.any fun v => winMeet v x)) := by
            have := HA.out
            rw [HD.out, List.any_cons, Bool.eq_false_iff.2 hmt, Bool.false_or] at this
            exact this
          have hno : ¬ (v.peril = x.peril ∧ v.fr < x.to ∧ x.fr < v.to) := fun h => hmt ((winMeet_iff v x).2 h)
          clear hmt
          by_cases e1 : v.peril = x.peril
          · have q1 : (v.peril == x.peril) = true := by simpa using e1
            have hno' : ¬ (v.fr < x.to ∧ x.fr < v.to) := fun h => hno ⟨e1, h⟩
            clear hno e1
            by_cases e2 : v.fr < x.to
            · have e3 : ¬ x.fr < v.to := by omega
              go_wp2_with fail
              go_roundw
              case rel => exact ⟨k + 1, by omega, by go_num, hbr.alloc hbr.size _, HX.out⟩
              case measure => simp [intOf]; omega
            · go_wp2_with fail
              go_roundw
              case rel => exact ⟨k + 1, by omega, by go_num, hbr.alloc hbr.size _, HX.out⟩
              case measure => simp [intOf]; omega
          · have q1 : (v.peril == x.peril) = false := by simpa using e1
            clear hno e1
            go_wp2_with fail
            go_roundw
            case rel => exact ⟨k + 1, by omega, by go_num, hbr.alloc hbr.size _, HX.out⟩
            case measure => simp [intOf]; omega
      · obtain rfl : k = m := by omega
        have HX : Hid (oneE bs x n = 0) := by
          have h1 := HA.out
          rw [HM.out, List.drop_length, List.any_nil] at h1
          rw [HR.out, if_neg (by rw [← h1]; simp)]; rfl
        go_wp2_with fail
        go_ret
        exact ⟨ret_int HX.out.symm, hb0.trans (hbr.mono hb0.size)⟩

end Go.Proofs.Ytjbaildaifdgiaa
