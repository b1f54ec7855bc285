/-
  window.check: its contract.
-/
import Derived.Test.YtjbaildaifdgiaaChkDef
import Derived.Test.YtjbaildaifdgiaaRec
namespace Go.Proofs.Ytjbaildaifdgiaa
open Go.RowKit

set_option maxHeartbeats 1000000 in
theorem check_any (A : Option Addr) (c : Nat) (ps : List P2) (L : Int) (B : Option Addr) (d : Nat) (ls : List P2) (w : World) (hps : ps.length ≤ 1000) (hls : ls.length ≤ 1000) (hp : Pairs w 0 A ps) (hl : Pairs w 0 B ls) :
    Calls Try.prog 51 #[.slice A ps.length c, .int .i64 L, .slice B ls.length d] w fun e w' => e = .returned (.int .i64 (chkErr ps L ls)) ∧ Below w.heap.size w w' := by
  have CR := Lib.hid (recovery_any 0 B d ls)
  obtain ⟨n, hn⟩ : ∃ n, n = ps.length := ⟨_, rfl⟩
  obtain ⟨m, hm⟩ : ∃ m, m = ls.length := ⟨_, rfl⟩
  rw [← hm] at CR
  rw [← hn, ← hm]
  have HN := Lib.hid hn
  have HM := Lib.hid hm
  by_cases he : recErr 0 ls = 0
  · have HE := Lib.hid he
    have q0 : (recErr 0 ls != 0) = false := by rw [he]; rfl
    clear he
    by_cases hL : L < 1 ∨ 8784 < L
    · have HR : Hid (chkErr ps L ls = 1) := by
        unfold chkErr; rw [if_neg (by rw [HE.out]; simp), if_pos hL]; rfl
      clear hn hm
      by_cases h1 : L < 1
      · go_enter Try.func51, Try.ntmps51
        go_wp2_with (go_at_call 21; refine (CR.out _ (by rw [← HM.out] at hls; exact hls) hl).mono ?_; rintro e w1 ⟨rfl, hb1⟩)
        go_ret
        exact ⟨ret_int HR.out.symm, hb1⟩
      · have h2 : 8784 < L := by omega
        clear hL
        go_enter Try.func51, Try.ntmps51
        go_wp2_with (go_at_call 21; refine (CR.out _ (by rw [← HM.out] at hls; exact hls) hl).mono ?_; rintro e w1 ⟨rfl, hb1⟩)
        go_ret
        exact ⟨ret_int HR.out.symm, hb1⟩
    have HL := Lib.hid hL
    have hL1 : 1 ≤ L := by omega
    have hL2 : L ≤ 8784 := by omega
    clear hL
    by_cases h64 : 64 < ps.length
    · have HR : Hid (chkErr ps L ls = 4) := by
        unfold chkErr; rw [if_neg (by rw [HE.out]; simp), if_neg HL.out, if_pos h64]; rfl
      have h64' : 64 < n := by omega
      clear hn hm h64
      go_enter Try.func51, Try.ntmps51
      go_wp2_with (go_at_call 21; refine (CR.out _ (by rw [← HM.out] at hls; exact hls) hl).mono ?_; rintro e w1 ⟨rfl, hb1⟩)
      go_ret
      exact ⟨ret_int HR.out.symm, hb1⟩
    have HR : Hid (chkErr ps L ls = chkLoop none ps 0) := by
      unfold chkErr; rw [if_neg (by rw [HE.out]; simp), if_neg HL.out, if_neg h64]; rfl
    have h64' : n ≤ 64 := by omega
    have g64 : decide (64 < (n : Int)) = false := by simp; omega
    clear hn hm h64
    go_enter Try.func51, Try.ntmps51
    go_wp2_with (go_at_call 21; refine (CR.out _ (by rw [← HM.out] at hls; exact hls) hl).mono ?_; rintro e w1 ⟨rfl, hb1⟩)
    go_loopw [9, 10, 11, 31] (fun s _ _ i wr => ∃ (k : Nat) (acc : Int), k ≤ n ∧ i = .int .i64 k ∧ s = .int .i64 acc ∧ 0 ≤ acc ∧ acc ≤ 17592186044416 * k ∧ Below w.heap.size w wr ∧ chkLoop (hourBefore ps k) (ps.drop k) acc = chkLoop none ps 0) (fun _ _ _ i _ => n - (intOf i).toNat)
    case atStart => exact ⟨0, 0, Nat.zero_le _, rfl, rfl, by omega, by omega, hb1, rfl⟩
    case round =>
      obtain ⟨k, acc, hk, rfl, rfl, ha0, ha1, hb, hck⟩ := hrel
      have HC := Lib.hid hck
      clear hck
      by_cases hlt : k < n
      · obtain ⟨p, hpk, hd⟩ := drop_cons (xs := ps) (i := k) (by rw [← HN.out]; exact hlt)
        obtain ⟨b, off, rfl, _, hbl, c0, c1⟩ := (hp.below hb).at_ hpk
        have HD := Lib.hid hd
        clear hd hpk
        by_cases hok : ptOk p = true
        · obtain ⟨g1, g2, g3, g4⟩ := (ptOk_iff p).1 hok
          have HO := Lib.hid hok
          have hv : validB p.b = true := by simp [validB]; omega
          clear hok
          by_cases hk0 : k < 1
          · have hd0 : decide (0 < k) = false := by simp; omega
            go_wp2_with (go_at_call 48; refine (valid_any _ _).mono ?_; rintro e w' ⟨rfl, rfl⟩)
            go_quiet (fail)
            go_wp2_with fail
            go_roundw
            case rel => exact ⟨k + 1, acc + p.b, by omega, by go_num, rfl, by omega, by omega, below_drewN (hb.alloc hb.size _) _, chk_next0 HD.out HC.out HO.out hk0⟩
            case measure => simp [intOf]; omega
          · have hd0 : decide (0 < k) = true := by simp; omega
            obtain ⟨q, hq⟩ : ∃ q, ps[k - 1]? = some q := ⟨_, List.getElem?_eq_getElem (by rw [← HN.out]; omega)⟩
            obtain ⟨b', off', hA, _, _, x0, _⟩ := (hp.below hb).at_ hq
            obtain ⟨rfl, rfl⟩ : b = b' ∧ off = off' := by simpa using hA
            have HQ := Lib.hid hq
            clear hq hA
            by_cases hle : p.a ≤ q.a
            · have HF := Lib.hid (chk_order HD.out HC.out HO.out (by omega) HQ.out hle)
              go_wp2_with (go_at_call 48; refine (valid_any _ _).mono ?_; rintro e w' ⟨rfl, rfl⟩)
              go_quiet (fail)
              go_wp2_with fail
              go_ret
              exact ⟨ret_int (HR.out.trans HF.out).symm, below_drewN (hb.alloc hb.size _) _⟩
            · have hle' : decide (p.a ≤ q.a) = false := by simpa using hle
              go_wp2_with (go_at_call 48; refine (valid_any _ _).mono ?_; rintro e w' ⟨rfl, rfl⟩)
              go_quiet (fail)
              go_wp2_with fail
              go_roundw
              case rel => exact ⟨k + 1, acc + p.b, by omega, by go_num, rfl, by omega, by omega, below_drewN (hb.alloc hb.size _) _, chk_next HD.out HC.out HO.out (by omega) HQ.out (by omega)⟩
              case measure => simp [intOf]; omega
        · have HF := Lib.hid (chk_bad HD.out HC.out (Bool.eq_false_iff.2 hok))
          have hno : ¬ (0 ≤ p.a ∧ p.a ≤ 876599 ∧ 0 ≤ p.b ∧ p.b ≤ 17592186044416) := fun h => hok ((ptOk_iff p).2 h)
          clear hok
          by_cases h3 : 0 ≤ p.a ∧ p.a ≤ 876599 ∧ 0 ≤ p.b
          · obtain ⟨g1, g2, g3⟩ := h3
            have g4 : 17592186044416 < p.b := by omega
            have hv : validB p.b = false := by simp [validB]; omega
            clear hno
            go_wp2_with (go_at_call 48; refine (valid_any _ _).mono ?_; rintro e w' ⟨rfl, rfl⟩)
            go_ret
            exact ⟨ret_int (HR.out.trans HF.out).symm, hb.alloc hb.size _⟩
          · clear hno
            have hno : ¬ (0 ≤ p.a ∧ p.a ≤ 876599 ∧ 0 ≤ p.b) := h3
            clear h3
            go_wp2_with fail
            all_goals first | (exfalso; omega) | (go_ret; exact ⟨ret_int (HR.out.trans HF.out).symm, hb.alloc hb.size _⟩)
      · obtain rfl : k = n := by omega
        have HC' := HC.out
        rw [HN.out] at HC'
        have HF := Lib.hid (chk_end HC')
        clear HC' HC
        by_cases hov : 17592186044416 < acc
        · have hv : validB acc = false := by simp [validB]; omega
          go_wp2_with (go_at_call 48; refine (valid_any _ _).mono ?_; rintro e w' ⟨rfl, rfl⟩)
          go_ret
          exact ⟨ret_int (by rw [HR.out, HF.out, if_pos hov]), hb⟩
        · have hv : validB acc = true := by simp [validB]; omega
          go_wp2_with (go_at_call 48; refine (valid_any _ _).mono ?_; rintro e w' ⟨rfl, rfl⟩)
          go_ret
          exact ⟨ret_int (by rw [HR.out, HF.out, if_neg (by omega)]), hb⟩
  · have HR : Hid (chkErr ps L ls = recErr 0 ls) := by
      unfold chkErr; rw [if_pos he]; rfl
    have q0 : (recErr 0 ls != 0) = true := by simpa using he
    clear hn hm he
    go_enter Try.func51, Try.ntmps51
    go_wp2_with (go_at_call 21; refine (CR.out _ (by rw [← HM.out] at hls; exact hls) hl).mono ?_; rintro e w1 ⟨rfl, hb1⟩)
    go_ret
    exact ⟨ret_int HR.out.symm, hb1⟩

end Go.Proofs.Ytjbaildaifdgiaa
