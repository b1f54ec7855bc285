/-
  window.Recovery: its contract.
-/
import Derived.Test.YtjbaildaifdgiaaRecDef
namespace Go.Proofs.Ytjbaildaifdgiaa
open Go.RowKit

set_option maxHeartbeats 1000000 in
theorem recovery_any (t : Int) (A : Option Addr) (c : Nat) (ls : List P2) (w : World) (hlen : ls.length ≤ 1000) (hs : Pairs w 0 A ls) :
    Calls Try.prog 21 #[.int .i64 t, .slice A ls.length c] w fun e w' => e = .returned (.tuple #[.int .i64 (recVal t ls), .int .i64 (recErr t ls)]) ∧ Below w.heap.size w w' := by
  obtain ⟨n, hn⟩ : ∃ n, n = ls.length := ⟨_, rfl⟩
  rw [← hn]
  have HN := Lib.hid hn
  by_cases hb : ls.length = 0 ∨ 12 < ls.length
  · have HR := Lib.hid (rec_len (t := t) hb)
    rw [← hn] at hlen hb
    clear hn hs
    rcases hb with h0 | h12
    · have e0 : ((n : Int) == 0) = true := by simp; omega
      clear h0
      go_enter Try.func21, Try.ntmps21
      go_wp2_with fail
      go_ret2
      exact ⟨ret_int2 HR.out.2.symm HR.out.1.symm, Below.refl _ _⟩
    · have e0 : ((n : Int) == 0) = false := by simp; omega
      have e1 : decide (12 < (n : Int)) = true := by simp; omega
      go_enter Try.func21, Try.ntmps21
      go_wp2_with fail
      go_ret2
      exact ⟨ret_int2 HR.out.2.symm HR.out.1.symm, Below.refl _ _⟩
  have HB := Lib.hid hb
  rw [← hn] at hb
  have h0 : 0 < n := by omega
  have h12 : n ≤ 12 := by omega
  have e0 : ((n : Int) == 0) = false := by simp; omega
  have e1 : decide (12 < (n : Int)) = false := by simp; omega
  clear hb hn hlen
  go_enter Try.func21, Try.ntmps21
  go_wp2_with fail
  go_loopw [7, 21] (fun _ i wr => ∃ k : Nat, k ≤ n ∧ i = .int .i64 k ∧ Below w.heap.size w wr ∧ (ls.drop k).all okLay = ls.all okLay) (fun _ i _ => n - (intOf i).toNat)
  case atStart => exact ⟨0, Nat.zero_le _, rfl, Below.refl _ _, rfl⟩
  case round =>
    obtain ⟨k, hk, rfl, hb, hall⟩ := hrel
    have HA := Lib.hid hall
    clear hall
    by_cases hlt : k < n
    · obtain ⟨l, hl, hd⟩ := drop_cons (xs := ls) (i := k) (by rw [← HN.out]; exact hlt)
      obtain ⟨b, off, rfl, _, hbl, c0, c1⟩ := (hs.below hb).at_ hl
      have HD := Lib.hid hd
      clear hd hl
      by_cases hok : okLay l = true
      · obtain ⟨g1, g2, g3, g4⟩ := (okLay_iff l).1 hok
        have HO := Lib.hid hok
        clear hok
        go_wp2_with fail
        go_roundw
        case rel => exact ⟨k + 1, by omega, by go_num, hb.alloc hb.size _, all_of_drop HD.out HA.out HO.out⟩
        case measure => simp [intOf]; omega
      · have HO := Lib.hid (Bool.eq_false_iff.2 hok)
        have hno : ¬ (0 ≤ l.a ∧ l.a ≤ 1073741824 ∧ 1 ≤ l.b ∧ l.b ≤ 1073741824) := fun h => hok ((okLay_iff l).2 h)
        clear hok
        have HR := Lib.hid (rec_bad (t := t) HB.out (bad_of_drop HD.out HA.out HO.out))
        go_wp2_with fail
        all_goals first | (exfalso; omega) | (go_ret2; exact ⟨ret_int2 HR.out.2.symm HR.out.1.symm, hb.alloc hb.size _⟩)
    · obtain rfl : k = n := by omega
      have HT : Hid (ls.all okLay = true) := by
        have := HA.out
        rw [HN.out, List.drop_length] at this
        exact this.symm
      by_cases ht : t < 0 ∨ 17592186044416 < t
      · have HR := Lib.hid (rec_range (t := t) HB.out HT.out ht)
        by_cases ht0 : t < 0
        · go_wp2_with fail
          go_ret2
          exact ⟨ret_int2 HR.out.2.symm HR.out.1.symm, hb⟩
        · have hv : validB t = false := by simp [validB]; omega
          have ht1 : 17592186044416 < t := by omega
          clear ht
          go_wp2_with (go_at_call 48; refine (valid_any _ _).mono ?_; rintro e w' ⟨rfl, rfl⟩)
          go_ret2
          exact ⟨ret_int2 HR.out.2.symm HR.out.1.symm, hb⟩
      · have HR := Lib.hid (rec_ok (t := t) HB.out HT.out ht)
        have ht0 : 0 ≤ t := by omega
        have ht1 : t ≤ 17592186044416 := by omega
        have hv : validB t = true := by simp [validB]; omega
        clear ht
        go_wp2_with (go_at_call 48; refine (valid_any _ _).mono ?_; rintro e w' ⟨rfl, rfl⟩)
        obtain ⟨w2, hw2⟩ : ∃ w2, w2 = wr := ⟨_, rfl⟩
        go_loopw [8, 10, 53] (fun s _ i wq => ∃ (j : Nat) (acc : Int), j ≤ k ∧ i = .int .i64 j ∧ s = .int .i64 acc ∧ 0 ≤ acc ∧ acc ≤ 17592186044416 * j ∧ Below w.heap.size w wq ∧ acc + sumL t (ls.drop j) = sumL t ls) (fun _ _ i _ => k - (intOf i).toNat)
        case atStart => exact ⟨0, 0, Nat.zero_le _, rfl, rfl, by omega, by omega, hb, by simp⟩
        case round =>
          obtain ⟨j, acc, hj, rfl, rfl, ha0, ha1, hbq, hsum⟩ := hrel
          have HS := Lib.hid hsum
          clear hsum
          by_cases hjk : j < k
          · obtain ⟨l, hl, hd⟩ := drop_cons (xs := ls) (i := j) (by rw [← HN.out]; exact hjk)
            obtain ⟨b, off, rfl, _, hbl, c0, c1⟩ := (hs.below hbq).at_ hl
            have HD := Lib.hid hd
            have hbd := layerF_bd t l.a l.b
            clear hd hl
            go_wp2_with (go_at_call 49; refine (layer_any _ _ _ _).mono ?_; rintro e w' ⟨rfl, hb'⟩)
            go_roundw
            case rel => exact ⟨j + 1, acc + layerF t l.a l.b, by omega, by go_num, rfl, by omega, by omega, (hbq.alloc hbq.size _).trans (hb'.mono (Nat.le_trans hbq.size (by simp))), sum_of_drop HD.out HS.out⟩
            case measure => simp [intOf]; omega
          · go_wp2_with fail
            go_ret2
            refine ⟨ret_int2 ?_ HR.out.1.symm, hbq⟩
            obtain rfl : j = k := by omega
            have := HS.out
            rw [HN.out, List.drop_length, sumL, Int.add_zero] at this
            rw [HR.out.2]
            exact this

end Go.Proofs.Ytjbaildaifdgiaa
