/-
  treatyref25.Check: its contract, at the same plain function.
-/
import Derived.Test.YtjbaildaifdgiaaChkE
namespace Go.Proofs.Ytjbaildaifdgiaa
open Go.RowKit
set_option linter.unusedVariables false

set_option maxHeartbeats 1000000 in
theorem rcheckE_any (A : Option Addr) (c : Nat) (los : List Los) (B : Option Addr) (d : Nat) (am : List Int) (w : World) (hll : los.length ≤ 9223372036854775807) (hal : am.length ≤ 9223372036854775807) (hL : Losses w 0 A los) (hM : Ints w 0 B am) :
    Calls Try.prog 36 #[.slice A los.length c, .slice B am.length d] w fun e w' => e = .returned (.int .i64 (chkE los am)) ∧ Below w.heap.size w w' := by
  obtain ⟨n, hn⟩ : ∃ n, n = los.length := ⟨_, rfl⟩
  obtain ⟨m, hm⟩ : ∃ m, m = am.length := ⟨_, rfl⟩
  rw [← hn] at hll ⊢
  rw [← hm] at hal ⊢
  have HN := Lib.hid hn
  have HM := Lib.hid hm
  by_cases hlim : 64 < los.length ∨ am.length ≠ los.length
  · have HR := Lib.hid (chkE_lim hlim)
    rw [← hn, ← hm] at hlim
    clear hn hm
    by_cases h1 : 64 < n
    · have q : decide (64 < (n : Int)) = true := by simp; omega
      go_enter Try.func36, Try.ntmps36
      go_wp2_with fail
      go_ret
      exact ⟨ret_int HR.out.symm, Below.refl _ _⟩
    · have q : decide (64 < (n : Int)) = false := by simp; omega
      have q2 : (m != n) = true := by simp; omega
      have q3 : ((m : Int) != (n : Int)) = true := by simp; omega
      clear hlim
      go_enter Try.func36, Try.ntmps36
      go_wp2_with fail
      go_ret
      exact ⟨ret_int HR.out.symm, Below.refl _ _⟩
  have HL := Lib.hid hlim
  have hn64 : n ≤ 64 := by omega
  obtain rfl : m = n := by omega
  have q : decide (64 < (m : Int)) = false := by simp; omega
  clear hlim hn hm
  go_enter Try.func36, Try.ntmps36
  go_wp2_with fail
  go_loopw [5, 6, 7, 20] (fun s _ _ ii wr => ∃ (k : Nat) (acc : Int), k ≤ m ∧ ii = .int .i64 k ∧ s = .int .i64 acc ∧ 0 ≤ acc ∧ acc ≤ 17592186044416 * k ∧ Below w.heap.size w wr ∧ ((los.zip am).drop k).all pairOk = (los.zip am).all pairOk ∧ acc + sumI (am.drop k) = sumI am) (fun _ _ _ ii _ => m - (intOf ii).toNat)
  case atStart => exact ⟨0, 0, Nat.zero_le _, rfl, rfl, by omega, by omega, Below.refl _ _, rfl, by simp⟩
  case round =>
    obtain ⟨k, acc, hk, rfl, rfl, h0, h1, hb, hall, hs⟩ := hrel
    have HA := Lib.hid hall
    have HS := Lib.hid hs
    clear hall hs
    by_cases hlt : k < m
    · obtain ⟨l, hl, _⟩ := drop_cons (xs := los) (i := k) (by rw [← HN.out]; exact hlt)
      obtain ⟨a, ha, hd⟩ := drop_cons (xs := am) (i := k) (by rw [← HM.out]; exact hlt)
      have HZ := Lib.hid (zip_get hl ha)
      have HD := Lib.hid hd
      obtain ⟨b, off, rfl, _, _, c0, c1, c2, c3, c4, c5, c6, c7, c8, c9⟩ := (hL.below hb).at_ hl
      obtain ⟨b2, off2, rfl, _, _, m0⟩ := (hM.below hb).at_ ha
      clear hl ha hd
      by_cases hok : pairOk (l, a) = true
      · obtain ⟨g1, g2, g3, g4, g5, g6⟩ := (pairOk_iff l a).1 hok
        have v1 : inHoursB l.hour = true := by simp [inHoursB]; omega
        have HO := Lib.hid hok
        clear hok
        go_wp2_with (go_at_call 57; refine (inHours_any _ _).mono ?_; rintro e w' ⟨rfl, rfl⟩)
        go_roundw
        case rel => exact ⟨k + 1, acc + a, by omega, by go_num, rfl, by omega, by omega, hb.alloc hb.size _, zall_next HZ.out HA.out HO.out, sumI_next HD.out HS.out⟩
        case measure => simp [intOf]; omega
      · have HR := Lib.hid (chkE_bad HL.out (zall_bad HZ.out (Bool.eq_false_iff.2 hok)))
        have hno : ¬ (0 ≤ l.hour ∧ l.hour ≤ 876599 ∧ 0 ≤ l.peril ∧ l.peril ≤ 15 ∧ 0 ≤ a ∧ a ≤ 17592186044416) := fun h => hok ((pairOk_iff l a).2 h)
        clear hok
        by_cases h1 : 0 ≤ l.hour ∧ l.hour ≤ 876599
        · have v1 : inHoursB l.hour = true := by simp [inHoursB]; omega
          have hno' : ¬ (0 ≤ l.peril ∧ l.peril ≤ 15 ∧ 0 ≤ a ∧ a ≤ 17592186044416) := by omega
          clear hno h1
          go_wp2_with (go_at_call 57; refine (inHours_any _ _).mono ?_; rintro e w' ⟨rfl, rfl⟩)
          all_goals first | (exfalso; omega) | (go_ret; exact ⟨ret_int HR.out.symm, hb.alloc hb.size _⟩)
        · have v1 : inHoursB l.hour = false := by simp [inHoursB]; omega
          clear hno h1
          go_wp2_with (go_at_call 57; refine (inHours_any _ _).mono ?_; rintro e w' ⟨rfl, rfl⟩)
          go_ret
          exact ⟨ret_int HR.out.symm, hb.alloc hb.size _⟩
    obtain rfl : k = m := by omega
    have hall : (los.zip am).all pairOk = true := by
      have := HA.out
      rw [List.drop_eq_nil_of_le (by rw [List.length_zip]; have := HN.out; omega)] at this
      exact this.symm
    have HR := Lib.hid (chkE_sum HL.out hall)
    have hs := HS.out
    rw [HM.out, List.drop_length, sumI, Int.add_zero] at hs
    have HSS := Lib.hid hs
    clear hs HS hall HA
    by_cases hov : 17592186044416 < acc
    · go_wp2_with fail
      go_ret
      exact ⟨ret_int (by rw [HR.out, ← HSS.out, if_pos (by omega)]), hb⟩
    · go_wp2_with fail
      go_ret
      exact ⟨ret_int (by rw [HR.out, ← HSS.out, if_neg (by omega)]), hb⟩

end Go.Proofs.Ytjbaildaifdgiaa
