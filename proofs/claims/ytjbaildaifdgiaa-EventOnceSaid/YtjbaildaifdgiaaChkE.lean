/-
  event.within, event.Check, treatyref25.Check: their contracts.
-/
import Derived.Test.YtjbaildaifdgiaaChkEDef
import Derived.Test.YtjbaildaifdgiaaLeaf
namespace Go.Proofs.Ytjbaildaifdgiaa
open Go.RowKit
set_option linter.unusedVariables false

def withinB (n lo hi : Int) : Bool := decide (lo ≤ n) && decide (n ≤ hi)
theorem withinB_true {n lo hi : Int} (h1 : lo ≤ n) (h2 : n ≤ hi) : withinB n lo hi = true := by simp [withinB, h1, h2]
theorem withinB_false {n lo hi : Int} (h : ¬ (lo ≤ n ∧ n ≤ hi)) : withinB n lo hi = false := by simp [withinB]; omega
set_option maxHeartbeats 400000 in
theorem within_any (n lo hi : Int) (w : World) :
    Calls Try.prog 56 #[.int .i64 n, .int .i64 lo, .int .i64 hi] w fun e w' => e = .returned (.bool (withinB n lo hi)) ∧ w = w' := by
  unfold withinB
  by_cases h : lo ≤ n
  · go_enter Try.func56, Try.ntmps56
    go_wp2
    go_ret
    exact ⟨ret_bool (by simp [h]), rfl⟩
  · go_enter Try.func56, Try.ntmps56
    go_wp2
    go_ret
    exact ⟨ret_bool (by simp; omega), rfl⟩

set_option maxHeartbeats 1000000 in
theorem checkE_any (A : Option Addr) (c : Nat) (los : List Los) (B : Option Addr) (d : Nat) (am : List Int) (w : World) (hll : los.length ≤ 9223372036854775807) (hal : am.length ≤ 9223372036854775807) (hL : Losses w 0 A los) (hM : Ints w 0 B am) :
    Calls Try.prog 35 #[.slice A los.length c, .slice B am.length d] w fun e w' => e = .returned (.int .i64 (chkE los am)) ∧ Below w.heap.size w w' := by
  obtain ⟨n, hn⟩ : ∃ n, n = los.length := ⟨_, rfl⟩
  obtain ⟨m, hm⟩ : ∃ m, m = am.length := ⟨_, rfl⟩
  rw [← hn] at hll ⊢
  rw [← hm] at hal ⊢
  have HN := Lib.hid hn
  have HM := Lib.hid hm
  by_cases hlim : 64 < los.length ∨ am.length ≠ los.length
  · have HR := Lib.hid (chkE_lim hlim)
    rw [← hn, ← hm] at hlim
    clear hn hm
    by_cases h1 : 64 < n
    · have q : decide (64 < (n : Int)) = true := by simp; omega
      go_enter Try.func35, Try.ntmps35
      go_wp2_with fail
      go_ret
      exact ⟨ret_int HR.out.symm, Below.refl _ _⟩
    · have q : decide (64 < (n : Int)) = false := by simp; omega
      have q2 : (m != n) = true := by simp; omega
      have q3 : ((m : Int) != (n : Int)) = true := by simp; omega
      clear hlim
      go_enter Try.func35, Try.ntmps35
      go_wp2_with fail
      go_ret
      exact ⟨ret_int HR.out.symm, Below.refl _ _⟩
  have HL := Lib.hid hlim
  have hn64 : n ≤ 64 := by omega
  obtain rfl : m = n := by omega
  have q : decide (64 < (m : Int)) = false := by simp; omega
  clear hlim hn hm
  go_enter Try.func35, Try.ntmps35
  go_wp2_with fail
  go_loopw [5, 6, 22] (fun _ _ ii wr => ∃ k : Nat, k ≤ m ∧ ii = .int .i64 k ∧ Below w.heap.size w wr ∧ ((los.zip am).drop k).all pairOk = (los.zip am).all pairOk) (fun _ _ ii _ => m - (intOf ii).toNat)
  case atStart => exact ⟨0, Nat.zero_le _, rfl, Below.refl _ _, rfl⟩
  case round =>
    obtain ⟨k, hk, rfl, hb, hall⟩ := hrel
    have HA := Lib.hid hall
    clear hall
    by_cases hlt : k < m
    · obtain ⟨l, hl, _⟩ := drop_cons (xs := los) (i := k) (by rw [← HN.out]; exact hlt)
      obtain ⟨a, ha, _⟩ := drop_cons (xs := am) (i := k) (by rw [← HM.out]; exact hlt)
      have HZ := Lib.hid (zip_get hl ha)
      obtain ⟨b, off, rfl, _, _, c0, c1, c2, c3, c4, c5, c6, c7, c8, c9⟩ := (hL.below hb).at_ hl
      obtain ⟨b2, off2, rfl, _, _, m0⟩ := (hM.below hb).at_ ha
      clear hl ha
      by_cases hok : pairOk (l, a) = true
      · obtain ⟨g1, g2, g3, g4, g5, g6⟩ := (pairOk_iff l a).1 hok
        have v1 := withinB_true g1 g2
        have v2 := withinB_true g3 g4
        have v3 : validB a = true := by simp [validB]; omega
        have HO := Lib.hid hok
        clear hok
        go_wp2_with (first | (go_at_call 56; refine (within_any _ _ _ _).mono ?_; rintro e w' ⟨rfl, rfl⟩) | (go_at_call 48; refine (valid_any _ _).mono ?_; rintro e w' ⟨rfl, rfl⟩))
        go_roundw
        case rel => exact ⟨k + 1, by omega, by go_num, hb.alloc hb.size _, zall_next HZ.out HA.out HO.out⟩
        case measure => simp [intOf]; omega
      · have HR := Lib.hid (chkE_bad HL.out (zall_bad HZ.out (Bool.eq_false_iff.2 hok)))
        have hno : ¬ (0 ≤ l.hour ∧ l.hour ≤ 876599 ∧ 0 ≤ l.peril ∧ l.peril ≤ 15 ∧ 0 ≤ a ∧ a ≤ 17592186044416) := fun h => hok ((pairOk_iff l a).2 h)
        clear hok
        by_cases h1 : 0 ≤ l.hour ∧ l.hour ≤ 876599
        · have v1 := withinB_true h1.1 h1.2
          by_cases h2 : 0 ≤ l.peril ∧ l.peril ≤ 15
          · have v2 := withinB_true h2.1 h2.2
            by_cases h3 : 0 ≤ a
            · have v3 : validB a = false := by simp [validB]; omega
              clear hno h1 h2
              go_wp2_with (first | (go_at_call 56; refine (within_any _ _ _ _).mono ?_; rintro e w' ⟨rfl, rfl⟩) | (go_at_call 48; refine (valid_any _ _).mono ?_; rintro e w' ⟨rfl, rfl⟩))
              go_ret
              exact ⟨ret_int HR.out.symm, hb.alloc hb.size _⟩
            · clear hno h1 h2
              go_wp2_with (go_at_call 56; refine (within_any _ _ _ _).mono ?_; rintro e w' ⟨rfl, rfl⟩)
              go_ret
              exact ⟨ret_int HR.out.symm, hb.alloc hb.size _⟩
          · have v2 := withinB_false h2
            clear hno h1 h2
            go_wp2_with (go_at_call 56; refine (within_any _ _ _ _).mono ?_; rintro e w' ⟨rfl, rfl⟩)
            go_ret
            exact ⟨ret_int HR.out.symm, hb.alloc hb.size _⟩
        · have v1 := withinB_false h1
          clear hno h1
          go_wp2_with (go_at_call 56; refine (within_any _ _ _ _).mono ?_; rintro e w' ⟨rfl, rfl⟩)
          go_ret
          exact ⟨ret_int HR.out.symm, hb.alloc hb.size _⟩
    obtain rfl : k = m := by omega
    have hall : (los.zip am).all pairOk = true := by
      have := HA.out
      rw [List.drop_eq_nil_of_le (by rw [List.length_zip]; have := HN.out; omega)] at this
      exact this.symm
    have HR := Lib.hid (chkE_sum HL.out hall)
    have HAM := Lib.hid (zip_amounts (by rw [← HN.out, ← HM.out]) hall)
    clear hall HA
    go_wp2_with fail
    go_loopw [7, 9, 53] (fun s _ ii wr => ∃ (i : Nat) (acc : Int), i ≤ k ∧ ii = .int .i64 i ∧ s = .int .i64 acc ∧ 0 ≤ acc ∧ acc ≤ 17592186044416 * i ∧ Below w.heap.size w wr ∧ acc + sumI (am.drop i) = sumI am) (fun _ _ ii _ => k - (intOf ii).toNat)
    case atStart => exact ⟨0, 0, Nat.zero_le _, rfl, rfl, by omega, by omega, hb, by simp⟩
    case round =>
      obtain ⟨i, acc, hi, rfl, rfl, h0, h1, hb2, hs⟩ := hrel
      have HS := Lib.hid hs
      clear hs
      by_cases hik : i < k
      · obtain ⟨a, ha, hd⟩ := drop_cons (xs := am) (i := i) (by rw [← HM.out]; exact hik)
        obtain ⟨b2, off2, rfl, _, _, m0⟩ := (hM.below hb2).at_ ha
        have hab := HAM.out a (List.mem_of_getElem? ha)
        have HD := Lib.hid hd
        clear ha hd
        go_wp2_with fail
        go_roundw
        case rel => exact ⟨i + 1, acc + a, by omega, by go_num, rfl, by omega, by omega, hb2, sumI_next HD.out HS.out⟩
        case measure => simp [intOf]; omega
      · obtain rfl : i = k := by omega
        have hs := HS.out
        rw [HM.out, List.drop_length, sumI, Int.add_zero] at hs
        have HSS := Lib.hid hs
        clear hs HS
        by_cases hov : 17592186044416 < acc
        · have v : validB acc = false := by simp [validB]; omega
          go_wp2_with (go_at_call 48; refine (valid_any _ _).mono ?_; rintro e w' ⟨rfl, rfl⟩)
          go_ret
          exact ⟨ret_int (by rw [HR.out, ← HSS.out, if_pos (by omega)]), hb2⟩
        · have v : validB acc = true := by simp [validB]; omega
          go_wp2_with (go_at_call 48; refine (valid_any _ _).mono ?_; rintro e w' ⟨rfl, rfl⟩)
          go_ret
          exact ⟨ret_int (by rw [HR.out, ← HSS.out, if_neg (by omega)]), hb2⟩

end Go.Proofs.Ytjbaildaifdgiaa
