/-
  treatyref25.Bound: its contract, at the same plain function.
-/
import Derived.Test.YtjbaildaifdgiaaBoundDef
import Derived.Test.YtjbaildaifdgiaaRVal
namespace Go.Proofs.Ytjbaildaifdgiaa
open Go.RowKit
set_option linter.unusedVariables false

set_option maxRecDepth 100000 in
set_option maxHeartbeats 2000000 in
theorem rbound_any (A : Option Addr) (c : Nat) (ps : List P2) (L : Int) (B : Option Addr) (d : Nat) (ls : List P2) (C : Option Addr) (cc : Nat) (vs : List Int) (w : World) (hps : ps.length ≤ 1000) (hls : ls.length ≤ 1000) (hvs : vs.length ≤ 9223372036854775807) (hp : Pairs w 0 A ps) (hl : Pairs w 0 B ls) (hv : Ints w 0 C vs) :
    Calls Try.prog 17 #[.slice A ps.length c, .int .i64 L, .slice B ls.length d, .slice C vs.length cc] w fun e w' => e = .returned (.bool (boundB ps L ls vs)) ∧ Below w.heap.size w w' := by
  have CC := Lib.hid (rcheck_any A c ps L B d ls w hps hls hp hl)
  obtain ⟨n, hn⟩ : ∃ n, n = ps.length := ⟨_, rfl⟩
  obtain ⟨m, hm⟩ : ∃ m, m = ls.length := ⟨_, rfl⟩
  obtain ⟨k, hk⟩ : ∃ k, k = vs.length := ⟨_, rfl⟩
  rw [← hn, ← hm] at CC
  rw [← hn, ← hm, ← hk]
  rw [← hn] at hps
  rw [← hk] at hvs
  have HN := Lib.hid hn
  have HK := Lib.hid hk
  by_cases hce : chkErr ps L ls = 0
  case neg =>
    have HX : Hid (boundB ps L ls vs = false) := by unfold boundB; rw [if_pos hce]; rfl
    have q0 : (chkErr ps L ls != 0) = true := by simpa using hce
    clear hce hn hk hm
    go_enter Try.func17, Try.ntmps17
    go_wp2_with (go_at_call 46; refine CC.out.mono ?_; rintro e w1 ⟨rfl, hb1⟩)
    go_ret
    exact ⟨ret_bool HX.out.symm, hb1⟩
  have HCE := Lib.hid hce
  have GG := Lib.hid (good_of hce)
  have hlen : ps.length ≤ 1000 := by rw [← hn]; exact hps
  have CN : Hid (∀ (W : World), Pairs W 0 A ps → ∀ (i j : Nat) (p q : P2), ps[i]? = some p → ps[j]? = some q → i ≤ j → L ≤ q.a - p.a → Calls Try.prog 47 #[.slice A n c, .int .i64 L, .slice B m d, .int .i64 i, .int .i64 j] W fun e w' => e = .returned (.tuple #[.int .i64 0, .bool false]) ∧ Below W.heap.size W w') := by
    intro W h i j p q hi hj hij hL; rw [hn, hm]; exact span_no A c ps L B d ls W h hlen GG.out.pt i j p q hi hj hij hL
  have CY : Hid (∀ (W : World), Pairs W 0 A ps → Pairs W 0 B ls → ∀ (i j : Nat) (p q : P2), ps[i]? = some p → ps[j]? = some q → i ≤ j → q.a - p.a < L → Calls Try.prog 47 #[.slice A n c, .int .i64 L, .slice B m d, .int .i64 i, .int .i64 j] W fun e w' => e = .returned (.tuple #[.int .i64 (recVal (sumT ps i (j - i + 1)) ls), .bool true]) ∧ Below W.heap.size W w') := by
    intro W h h' i j p q hi hj hij hL; rw [hn, hm]; exact span_yes A c ps L B d ls W h h' hlen hls GG.out.pt GG.out.sum i j p q hi hj hij hL
  have q0 : (chkErr ps L ls != 0) = false := by rw [hce]; rfl
  have hn64 : n ≤ 64 := by rw [hn]; exact GG.out.len
  by_cases hkn : k = n + 1
  case neg =>
    have HX : Hid (boundB ps L ls vs = false) := by unfold boundB; rw [if_neg (by simpa using hce), if_pos (by omega)]; rfl
    have q1 : ((k : Int) != (n : Int) + 1) = true := by simp; omega
    clear hce hn hk hkn hm
    go_enter Try.func17, Try.ntmps17
    go_wp2_with (go_at_call 46; refine CC.out.mono ?_; rintro e w1 ⟨rfl, hb1⟩)
    go_ret
    exact ⟨ret_bool HX.out.symm, hb1⟩
  have HB : Hid (boundB ps L ls vs = if vs.all vOk = false then false else outerB L ls ps vs) := by
    unfold boundB; rw [if_neg (by simpa using hce), if_neg (by omega)]; rfl
  have q1 : ((k : Int) != (n : Int) + 1) = false := by simp; omega
  have hk1 : n < k := by omega
  have hk2 : k ≤ n + 1 := by omega
  clear hce hn hk hkn hm hls hlen
  go_enter Try.func17, Try.ntmps17
  go_wp2_with (go_at_call 46; refine CC.out.mono ?_; rintro e w1 ⟨rfl, hb1⟩)
  go_loopw [9, 29] (fun _ ii wr => ∃ i : Nat, i ≤ k ∧ ii = .int .i64 i ∧ Below w.heap.size w wr ∧ (vs.drop i).all vOk = vs.all vOk) (fun _ ii _ => k - (intOf ii).toNat)
  case atStart => exact ⟨0, Nat.zero_le _, rfl, hb1, rfl⟩
  case round =>
    obtain ⟨i, hi, rfl, hb, hall⟩ := hrel
    have HA := Lib.hid hall
    clear hall
    by_cases hlt : i < k
    · obtain ⟨v, hvi, hd⟩ := drop_cons (xs := vs) (i := i) (by rw [← HK.out]; exact hlt)
      obtain ⟨b, off, rfl, _, hbl, c0⟩ := (hv.below hb).at_ hvi
      have HD := Lib.hid hd
      clear hd hvi
      by_cases hok : vOk v = true
      · obtain ⟨g1, g2⟩ := (vOk_iff v).1 hok
        have HO := Lib.hid hok
        clear hok
        go_wp2_with fail
        go_roundw
        case rel => exact ⟨i + 1, by omega, by go_num, hb, allv_of_drop HD.out HA.out HO.out⟩
        case measure => simp [intOf]; omega
      · have HR : Hid (boundB ps L ls vs = false) := by
          rw [HB.out, if_pos (badv_of_drop HD.out HA.out (Bool.eq_false_iff.2 hok))]; rfl
        have hno : ¬ (0 ≤ v ∧ v ≤ 17592186044416) := fun h => hok ((vOk_iff v).2 h)
        clear hok
        go_wp2_with fail
        all_goals first | (exfalso; omega) | (go_ret; exact ⟨ret_bool HR.out.symm, hb⟩)
    obtain rfl : i = k := by omega
    have hvall : vs.all vOk = true := by
      have := HA.out
      rw [HK.out, List.drop_length] at this
      exact this.symm
    have HR : Hid (boundB ps L ls vs = outerB L ls ps vs) := by rw [HB.out, if_neg (by simp [hvall])]; rfl
    have HV : Hid (∀ v ∈ vs, 0 ≤ v ∧ v ≤ 17592186044416) := fun v hv => (vOk_iff v).1 (List.all_eq_true.1 hvall v hv)
    clear hvall HA HB
    go_wp2_with fail
    go_loopg [10, 11, 12, 13, 47] n (fun q _ _ _ _ ii wr => ∃ i : Nat, i ≤ n ∧ q = n - i ∧ ii = .int .i64 i ∧ Below w.heap.size w wr ∧ outerB L ls (ps.drop i) (vs.drop i) = outerB L ls ps vs)
    case atStart => exact ⟨0, Nat.zero_le _, rfl, rfl, hb, rfl⟩
    case round =>
      obtain ⟨i, hi, hq, rfl, hb, hout⟩ := hrel
      have HQ := Lib.hid hq
      have HOUT := Lib.hid hout
      clear hq hout
      by_cases hin : i < n
      case neg =>
        obtain rfl : i = n := by omega
        have h1 := HOUT.out
        rw [HN.out] at h1
        have HE := Lib.hid (outerB_end h1)
        clear h1
        go_wp2_with fail
        go_ret
        exact ⟨ret_bool (HR.out.trans HE.out).symm, hb⟩
      obtain ⟨p, hpi, hdi⟩ := drop_cons (xs := ps) (i := i) (by rw [← HN.out]; exact hin)
      obtain ⟨v, hvi, hdv⟩ := drop_cons (xs := vs) (i := i) (by rw [← HK.out]; omega)
      obtain ⟨v', hvi', hdv'⟩ := drop_cons (xs := vs) (i := i + 1) (by rw [← HK.out]; omega)
      have hpo := (ptOk_iff p).1 (GG.out.pt p (List.mem_of_getElem? hpi))
      have hvo := HV.out v (List.mem_of_getElem? hvi)
      obtain ⟨b, off, rfl, _, hbl, c0⟩ := (hv.below hb).at_ hvi
      obtain ⟨b', off', hA', _, _, c1⟩ := (hv.below hb).at_ hvi'
      obtain ⟨rfl, rfl⟩ : b = b' ∧ off = off' := by simpa using hA'
      have HDI := Lib.hid hdi
      have HPI := Lib.hid hpi
      have HVI := Lib.hid hvi
      have HDV := Lib.hid hdv
      have HDV' := Lib.hid hdv'
      clear hpi hdi hvi hdv hvi' hdv' hA'
      by_cases hlt : v < v'
      · have HE := Lib.hid (outerB_less HDI.out HDV.out HDV'.out HOUT.out hlt)
        have q : decide (v < v') = true := by simpa using hlt
        go_wp2_with fail
        go_quiet (fail)
        go_wp2_with fail
        go_ret
        exact ⟨ret_bool (HR.out.trans HE.out).symm, below_drewN hb _⟩
      have q : decide (v < v') = false := by simpa using hlt
      have HLT := Lib.hid hlt
      clear hlt
      go_wp2_with fail
      go_quiet (fail)
      go_wp2_with fail
      obtain ⟨wo, hwo⟩ : ∃ wo : World, wo = wr.drewN nq := ⟨_, rfl⟩
      have hbo : Below w.heap.size w wo := by rw [hwo]; exact below_drewN hb _
      rw [← hwo]
      clear hwo hb c0 c1
      go_loopg [11, 12, 13] (n - i) (fun q jj _ _ wq => ∃ j : Nat, i ≤ j ∧ j ≤ n ∧ q = n - j ∧ jj = .int .i64 j ∧ innerR L ls p.a v (ps.drop j) (vs.drop (j + 1)) (sumT ps i (j - i)) = innerB L ls p.a v (ps.drop i) (vs.drop (i + 1)) 0 ∧ Below w.heap.size w wq)
      case atStart => exact ⟨i, Nat.le_refl _, by omega, rfl, rfl, innerR_start GG.out.asc, hbo⟩
      case round =>
        obtain ⟨j, hj1, hj2, hq2, rfl, hinn, hbq⟩ := hrel
        have HINN := Lib.hid hinn
        have HQ2 := Lib.hid hq2
        clear hinn hq2 hbo
        by_cases hjn : j < n
        case neg =>
          obtain rfl : j = n := by omega
          have h1 := HINN.out
          rw [HN.out] at h1
          have HE := Lib.hid (innerR_end h1)
          have HST := Lib.hid (outerB_step HDI.out HDV.out HDV'.out HOUT.out (by have := HLT.out; omega) HE.out)
          clear h1
          go_wp2_with fail
          go_roundg (j - (i + 1))
          case measure => rw [HQ.out]; omega
          case rel => exact ⟨i + 1, by omega, rfl, by go_num, hbq, HST.out⟩
        obtain ⟨q, hqj, hdj⟩ := drop_cons (xs := ps) (i := j) (by rw [← HN.out]; exact hjn)
        have HDJ := Lib.hid hdj
        have HQJ := Lib.hid hqj
        obtain ⟨u, huj, hdu⟩ := drop_cons (xs := vs) (i := j + 1) (by rw [← HK.out]; omega)
        have huo := HV.out u (List.mem_of_getElem? huj)
        have HDU := Lib.hid hdu
        have HUJ := Lib.hid huj
        have HT : Hid (sumT ps i (j + 1 - i) = sumT ps i (j - i) + q.b) := by
          have := sumT_snoc hj1 hqj
          rw [show j + 1 - i = j - i + 1 by omega]; exact this
        clear hdj hqj huj hdu
        by_cases hle : L ≤ q.a - p.a
        · have HE := Lib.hid (innerR_step HDJ.out HDU.out HINN.out (by omega))
          go_wp2_with (go_at_call 47; refine (CN.out _ (hp.below hbq) i j p q HPI.out HQJ.out hj1 hle).mono ?_; rintro e w2 ⟨rfl, hb2⟩)
          go_quiet (fail)
          go_wp2_with fail
          go_roundg (n - (j + 1))
          case measure => rw [HQ2.out]; omega
          case rel => exact ⟨j + 1, by omega, by omega, rfl, by go_num, by rw [HT.out]; exact HE.out, below_drewN (hbq.trans (hb2.mono hbq.size)) _⟩
        have hlt : q.a - p.a < L := by omega
        have hrb := recVal_bd (sumT ps i (j - i + 1)) ls
        go_wp2_with (go_at_call 47; refine (CY.out _ (hp.below hbq) (hl.below hbq) i j p q HPI.out HQJ.out hj1 hlt).mono ?_; rintro e w2 ⟨rfl, hb2⟩)
        have hbw : Below w.heap.size w w2 := hbq.trans (hb2.mono hbq.size)
        obtain ⟨b', off', hA', _, _, g0⟩ := (hv.below hbw).at_ HVI.out
        obtain ⟨rfl, rfl⟩ : b = b' ∧ off = off' := by simpa using hA'
        obtain ⟨b', off', hA2, _, _, g1⟩ := (hv.below hbw).at_ HUJ.out
        obtain ⟨rfl, rfl⟩ : b = b' ∧ off = off' := by simpa using hA2
        clear hA' hA2 hb2 hbq
        have HTT : Hid (sumT ps i (j - i + 1) = sumT ps i (j - i) + q.b) := by rw [← HT.out, show j + 1 - i = j - i + 1 by omega]; rfl
        by_cases hbad : v < recVal (sumT ps i (j - i + 1)) ls + u
        · have HE := Lib.hid (outerB_bad HDI.out HDV.out HOUT.out (innerR_bad HDJ.out HDU.out HINN.out hlt (by rw [← HTT.out]; exact hbad)))
          have qb : decide (v < recVal (sumT ps i (j - i + 1)) ls + u) = true := by simpa using hbad
          go_quiet (fail)
          go_wp2_with fail
          go_ret
          exact ⟨ret_bool (HR.out.trans HE.out).symm, below_drewN hbw _⟩
        · have HE := Lib.hid (innerR_step HDJ.out HDU.out HINN.out (by rw [← HTT.out]; omega))
          have qb : decide (v < recVal (sumT ps i (j - i + 1)) ls + u) = false := by simpa using hbad
          clear hbad
          go_quiet (fail)
          go_wp2_with fail
          go_roundg (n - (j + 1))
          case measure => rw [HQ2.out]; omega
          case rel => exact ⟨j + 1, by omega, by omega, rfl, by go_num, by rw [HT.out]; exact HE.out, below_drewN hbw _⟩

end Go.Proofs.Ytjbaildaifdgiaa
