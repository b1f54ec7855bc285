/-
  certificate.Bound: its contract.
-/
import Derived.Test.YtjbaildaifdgiaaBoundDef
import Derived.Test.YtjbaildaifdgiaaVal
namespace Go.Proofs.Ytjbaildaifdgiaa
open Go.RowKit
set_option linter.unusedVariables false

set_option maxRecDepth 100000 in
set_option maxHeartbeats 2000000 in
theorem bound_any (A : Option Addr) (c : Nat) (ps : List P2) (L : Int) (B : Option Addr) (d : Nat) (ls : List P2) (C : Option Addr) (cc : Nat) (vs : List Int) (w : World) (hps : ps.length ≤ 1000) (hls : ls.length ≤ 1000) (hvs : vs.length ≤ 9223372036854775807) (hp : Pairs w 0 A ps) (hl : Pairs w 0 B ls) (hv : Ints w 0 C vs) :
    Calls Try.prog 16 #[.slice A ps.length c, .int .i64 L, .slice B ls.length d, .slice C vs.length cc] w fun e w' => e = .returned (.bool (boundB ps L ls vs)) ∧ Below w.heap.size w w' := by
  have CC := Lib.hid (values_any A c ps L B d ls w hps hls hp hl)
  obtain ⟨n, hn⟩ : ∃ n, n = ps.length := ⟨_, rfl⟩
  obtain ⟨m, hm⟩ : ∃ m, m = ls.length := ⟨_, rfl⟩
  obtain ⟨k, hk⟩ : ∃ k, k = vs.length := ⟨_, rfl⟩
  have CR : Hid (∀ (t : Int) (W : World), Pairs W 0 B ls → Calls Try.prog 21 #[.int .i64 t, .slice B m d] W fun e w' => e = .returned (.tuple #[.int .i64 (recVal t ls), .int .i64 (recErr t ls)]) ∧ Below W.heap.size W w') := by
    intro t W h; rw [hm]; exact recovery_any t B d ls W hls h
  rw [← hn, ← hm] at CC
  rw [← hn, ← hm, ← hk]
  rw [← hn] at hps
  rw [← hk] at hvs
  have HN := Lib.hid hn
  have HK := Lib.hid hk
  clear hm hls
  by_cases hce : chkErr ps L ls = 0
  case neg =>
    have HX : Hid (boundB ps L ls vs = false) := by unfold boundB; rw [if_pos hce]; rfl
    have q0 : (chkErr ps L ls != 0) = true := by simpa using hce
    clear hce hn hk
    go_enter Try.func16, Try.ntmps16
    go_wp2_with (go_at_call 24; refine CC.out.mono ?_; rintro e w1 ⟨G, g, rfl, hG, hb1⟩)
    go_ret
    exact ⟨ret_bool HX.out.symm, hb1⟩
  have HCE := Lib.hid hce
  have GG := Lib.hid (good_of hce)
  have q0 : (chkErr ps L ls != 0) = false := by rw [hce]; rfl
  have hn64 : n ≤ 64 := by rw [hn]; exact GG.out.len
  by_cases hkn : k = n + 1
  case neg =>
    have HX : Hid (boundB ps L ls vs = false) := by unfold boundB; rw [if_neg (by simpa using hce), if_pos (by omega)]; rfl
    have q1 : ((k : Int) != (n : Int) + 1) = true := by simp; omega
    clear hce hn hk hkn
    go_enter Try.func16, Try.ntmps16
    go_wp2_with (go_at_call 24; refine CC.out.mono ?_; rintro e w1 ⟨G, g, rfl, hG, hb1⟩)
    go_ret
    exact ⟨ret_bool HX.out.symm, hb1⟩
  have HB : Hid (boundB ps L ls vs = if vs.all vOk = false then false else outerB L ls ps vs) := by
    unfold boundB; rw [if_neg (by simpa using hce), if_neg (by omega)]; rfl
  have q1 : ((k : Int) != (n : Int) + 1) = false := by simp; omega
  have hk1 : n < k := by omega
  have hk2 : k ≤ n + 1 := by omega
  clear hce hn hk hkn
  go_enter Try.func16, Try.ntmps16
  go_wp2_with (go_at_call 24; refine CC.out.mono ?_; rintro e w1 ⟨G, g, rfl, hG, hb1⟩)
  clear hG
  go_loopw [12, 35] (fun _ ii wr => ∃ i : Nat, i ≤ k ∧ ii = .int .i64 i ∧ Below w.heap.size w wr ∧ (vs.drop i).all vOk = vs.all vOk) (fun _ ii _ => k - (intOf ii).toNat)
  case atStart => exact ⟨0, Nat.zero_le _, rfl, hb1, rfl⟩
  case round =>
    obtain ⟨i, hi, rfl, hb, hall⟩ := hrel
    have HA := Lib.hid hall
    clear hall
    by_cases hlt : i < k
    · obtain ⟨v, hvi, hd⟩ := drop_cons (xs := vs) (i := i) (by rw [← HK.out]; exact hlt)
      obtain ⟨b, off, rfl, _, hbl, c0⟩ := (hv.below hb).at_ hvi
      have HD := Lib.hid hd
      clear hd hvi
      by_cases hok : vOk v = true
      · obtain ⟨g1, g2⟩ := (vOk_iff v).1 hok
        have HO := Lib.hid hok
        clear hok
        go_wp2_with fail
        go_roundw
        case rel => exact ⟨i + 1, by omega, by go_num, hb, allv_of_drop HD.out HA.out HO.out⟩
        case measure => simp [intOf]; omega
      · have HR : Hid (boundB ps L ls vs = false) := by
          rw [HB.out, if_pos (badv_of_drop HD.out HA.out (Bool.eq_false_iff.2 hok))]; rfl
        have hno : ¬ (0 ≤ v ∧ v ≤ 17592186044416) := fun h => hok ((vOk_iff v).2 h)
        clear hok
        go_wp2_with fail
        all_goals first | (exfalso; omega) | (go_ret; exact ⟨ret_bool HR.out.symm, hb⟩)
    obtain rfl : i = k := by omega
    have hvall : vs.all vOk = true := by
      have := HA.out
      rw [HK.out, List.drop_length] at this
      exact this.symm
    have HR : Hid (boundB ps L ls vs = outerB L ls ps vs) := by rw [HB.out, if_neg (by simp [hvall])]; rfl
    have HV : Hid (∀ v ∈ vs, 0 ≤ v ∧ v ≤ 17592186044416) := fun v hv => (vOk_iff v).1 (List.all_eq_true.1 hvall v hv)
    clear hvall HA HB
    go_wp2_with fail
    go_loopg [13, 14, 15, 16, 17, 48] n (fun q _ _ _ _ _ ii wr => ∃ i : Nat, i ≤ n ∧ q = n - i ∧ ii = .int .i64 i ∧ Below w.heap.size w wr ∧ outerB L ls (ps.drop i) (vs.drop i) = outerB L ls ps vs)
    case atStart => exact ⟨0, Nat.zero_le _, rfl, rfl, hb, rfl⟩
    case round =>
      obtain ⟨i, hi, hq, rfl, hb, hout⟩ := hrel
      have HQ := Lib.hid hq
      have HOUT := Lib.hid hout
      clear hq hout
      by_cases hin : i < n
      case neg =>
        obtain rfl : i = n := by omega
        have h1 := HOUT.out
        rw [HN.out] at h1
        have HE := Lib.hid (outerB_end h1)
        clear h1
        go_wp2_with fail
        go_ret
        exact ⟨ret_bool (HR.out.trans HE.out).symm, hb⟩
      obtain ⟨p, hpi, hdi⟩ := drop_cons (xs := ps) (i := i) (by rw [← HN.out]; exact hin)
      obtain ⟨v, hvi, hdv⟩ := drop_cons (xs := vs) (i := i) (by rw [← HK.out]; omega)
      obtain ⟨v', hvi', hdv'⟩ := drop_cons (xs := vs) (i := i + 1) (by rw [← HK.out]; omega)
      have hpo := (ptOk_iff p).1 (GG.out.pt p (List.mem_of_getElem? hpi))
      have hvo := HV.out v (List.mem_of_getElem? hvi)
      obtain ⟨b, off, rfl, _, hbl, c0⟩ := (hv.below hb).at_ hvi
      obtain ⟨b', off', hA', _, _, c1⟩ := (hv.below hb).at_ hvi'
      obtain ⟨rfl, rfl⟩ : b = b' ∧ off = off' := by simpa using hA'
      have HDI := Lib.hid hdi
      have HPI := Lib.hid hpi
      have HVI := Lib.hid hvi
      have HDV := Lib.hid hdv
      have HDV' := Lib.hid hdv'
      clear hpi hdi hvi hdv hvi' hdv' hA'
      by_cases hlt : v < v'
      · have HE := Lib.hid (outerB_less HDI.out HDV.out HDV'.out HOUT.out hlt)
        have q : decide (v < v') = true := by simpa using hlt
        go_wp2_with fail
        go_quiet (fail)
        go_wp2_with fail
        go_ret
        exact ⟨ret_bool (HR.out.trans HE.out).symm, below_drewN hb _⟩
      have q : decide (v < v') = false := by simpa using hlt
      have HLT := Lib.hid hlt
      clear hlt
      go_wp2_with fail
      go_quiet (fail)
      go_wp2_with fail
      obtain ⟨wo, hwo⟩ : ∃ wo : World, wo = wr.drewN nq := ⟨_, rfl⟩
      have hbo : Below w.heap.size w wo := by rw [hwo]; exact below_drewN hb _
      rw [← hwo]
      clear hwo hb c0 c1
      go_loopg [14, 15, 16, 17] (n - i) (fun q t jj _ _ wq => ∃ (j : Nat) (tot : Int), i ≤ j ∧ j ≤ n ∧ q = n - j ∧ jj = .int .i64 j ∧ t = .int .i64 tot ∧ 0 ≤ tot ∧ tot + sumB (ps.drop j) ≤ 17592186044416 ∧ innerB L ls p.a v (ps.drop j) (vs.drop (j + 1)) tot = innerB L ls p.a v (ps.drop i) (vs.drop (i + 1)) 0 ∧ Below w.heap.size w wq)
      case atStart =>
        refine ⟨i, 0, Nat.le_refl _, by omega, rfl, rfl, rfl, by omega, ?_, rfl, hbo⟩
        have := sumB_drop_le GG.out.pt i; have := GG.out.sum; omega
      case round =>
        obtain ⟨j, tot, hj1, hj2, hq2, rfl, rfl, ht0, ht1, hinn, hbq⟩ := hrel
        have HINN := Lib.hid hinn
        have HQ2 := Lib.hid hq2
        clear hinn hq2 hbo
        by_cases hjn : j < n
        case neg =>
          obtain rfl : j = n := by omega
          have h1 := HINN.out
          rw [HN.out] at h1
          have HE := Lib.hid (innerB_end h1)
          have qj : decide (j < j) = false := by simp
          have HST := Lib.hid (outerB_step HDI.out HDV.out HDV'.out HOUT.out (by have := HLT.out; omega) HE.out)
          clear h1
          go_wp2_with fail
          go_quiet (fail)
          go_wp2_with fail
          go_roundg (j - (i + 1))
          case measure => rw [HQ.out]; omega
          case rel => exact ⟨i + 1, by omega, rfl, by go_num, below_drewN hbq _, HST.out⟩
        obtain ⟨q, hqj, hdj⟩ := drop_cons (xs := ps) (i := j) (by rw [← HN.out]; exact hjn)
        have hqo := (ptOk_iff q).1 (GG.out.pt q (List.mem_of_getElem? hqj))
        have HDJ := Lib.hid hdj
        obtain ⟨u, huj, hdu⟩ := drop_cons (xs := vs) (i := j + 1) (by rw [← HK.out]; omega)
        have huo := HV.out u (List.mem_of_getElem? huj)
        have HDU := Lib.hid hdu
        have HUJ := Lib.hid huj
        obtain ⟨b2, off2, rfl, _, hbl2, y0, y1⟩ := (hp.below hbq).at_ hqj
        obtain ⟨b', off', hA', _, _, z0, _⟩ := (hp.below hbq).at_ HPI.out
        obtain ⟨rfl, rfl⟩ : b2 = b' ∧ off2 = off' := by simpa using hA'
        clear hdj hqj hA' huj hdu
        have qj : decide (j < n) = true := by simpa using hjn
        by_cases hle : L ≤ q.a - p.a
        · have HE := Lib.hid (innerB_far HDJ.out HDU.out HINN.out hle)
          have ql : decide (q.a - p.a < L) = false := by simp; omega
          have HST := Lib.hid (outerB_step HDI.out HDV.out HDV'.out HOUT.out (by have := HLT.out; omega) HE.out)
          go_wp2_with fail
          go_quiet (fail)
          go_wp2_with fail
          go_roundg (n - (i + 1))
          case measure => rw [HQ.out]; omega
          case rel => exact ⟨i + 1, by omega, rfl, by go_num, below_drewN hbq _, HST.out⟩
        have ql : decide (q.a - p.a < L) = true := by simp; omega
        have hlt : q.a - p.a < L := by omega
        have htq : tot + q.b ≤ 17592186044416 := by
          have h1 := sumB_drop HDJ.out ht1
          have h2 := sumB_nonneg (ps := ps.drop (j + 1)) (fun u hu => GG.out.pt u (List.mem_of_mem_drop hu))
          omega
        have he := (GG.out.rec0 (t := tot + q.b) (by omega) htq).1
        have q3 : (recErr (tot + q.b) ls != 0) = false := by rw [he]; rfl
        have hrb := recVal_bd (tot + q.b) ls
        clear he
        go_wp2_with fail
        go_quiet (fail)
        go_wp2_with (go_at_call 21; refine (CR.out _ _ (Sl.drewN (hl.below hbq) _)).mono ?_; rintro e w2 ⟨rfl, hb2⟩)
        have hbw : Below w.heap.size w w2 := (below_drewN hbq _).trans (hb2.mono hbq.size)
        obtain ⟨b', off', hA', _, _, g0⟩ := (hv.below hbw).at_ HVI.out
        obtain ⟨rfl, rfl⟩ : b = b' ∧ off = off' := by simpa using hA'
        obtain ⟨b', off', hA2, _, _, g1⟩ := (hv.below hbw).at_ HUJ.out
        obtain ⟨rfl, rfl⟩ : b = b' ∧ off = off' := by simpa using hA2
        clear hA' hA2 y0 y1 z0 hb2 hbq
        by_cases hbad : v < recVal (tot + q.b) ls + u
        · have HE := Lib.hid (outerB_bad HDI.out HDV.out HOUT.out (innerB_bad HDJ.out HDU.out HINN.out hlt hbad))
          have qb : decide (v < recVal (tot + q.b) ls + u) = true := by simpa using hbad
          go_quiet (fail)
          go_wp2_with fail
          go_ret
          exact ⟨ret_bool (HR.out.trans HE.out).symm, below_drewN hbw _⟩
        · have HE := Lib.hid (innerB_step HDJ.out HDU.out HINN.out hlt hbad)
          have qb : decide (v < recVal (tot + q.b) ls + u) = false := by simpa using hbad
          clear hbad
          go_quiet (fail)
          go_wp2_with fail
          go_roundg (n - (j + 1))
          case measure => rw [HQ2.out]; omega
          case rel => exact ⟨j + 1, tot + q.b, by omega, by omega, rfl, by go_num, rfl, by omega, sumB_drop HDJ.out ht1, HE.out, below_drewN hbw _⟩

end Go.Proofs.Ytjbaildaifdgiaa
