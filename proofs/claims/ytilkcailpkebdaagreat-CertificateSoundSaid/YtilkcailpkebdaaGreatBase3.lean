/-
  Texts of the proof, one after the other.
-/
import Derived.Test.YtilkcailpkebdaaGreatBase2
import Derived.Test.YtilkcailpkebdaaGreatBase1
import Derived.Deep.OwnRows
import Derived.Deep.DeepCutAuto
import Derived.Deep.RegionHeld3
import Derived.Deep.RegionWith
import Derived.Sort.Grow

/-
  certificate.Bound: its contract.
-/
namespace Go.Proofs.YtilkcailpkebdaaGreat
open Go.RowKit
set_option linter.unusedVariables false

set_option maxRecDepth 100000 in
set_option maxHeartbeats 2000000 in
theorem bound_any (A : Option Addr) (c : Nat) (ps : List P2) (L : Int) (B : Option Addr) (d : Nat) (ls : List P2) (C : Option Addr) (cc : Nat) (vs : List Int) (w : World) (hps : ps.length ≤ 1000) (hls : ls.length ≤ 1000) (hvs : vs.length ≤ 9223372036854775807) (hp : Pairs w 0 A ps) (hl : Pairs w 0 B ls) (hv : Ints w 0 C vs) :
    Calls Tryz.prog 43 #[.slice A ps.length c, .int .i64 L, .slice B ls.length d, .slice C vs.length cc] w fun e w' => e = .returned (.bool (boundB ps L ls vs)) ∧ Below w.heap.size w w' := by
  have CC := Lib.hid (values_any A c ps L B d ls w hps hls hp hl)
  obtain ⟨n, hn⟩ : ∃ n, n = ps.length := ⟨_, rfl⟩
  obtain ⟨m, hm⟩ : ∃ m, m = ls.length := ⟨_, rfl⟩
  obtain ⟨k, hk⟩ : ∃ k, k = vs.length := ⟨_, rfl⟩
  have CR : Hid (∀ (t : Int) (W : World), Pairs W 0 B ls → Calls Tryz.prog 30 #[.int .i64 t, .slice B m d] W fun e w' => e = .returned (.tuple #[.int .i64 (recVal t ls), .int .i64 (recErr t ls)]) ∧ Below W.heap.size W w') := by
    intro t W h; rw [hm]; exact recovery_any t B d ls W hls h
  rw [← hn, ← hm] at CC
  rw [← hn, ← hm, ← hk]
  rw [← hn] at hps
  rw [← hk] at hvs
  have HN := Lib.hid hn
  have HK := Lib.hid hk
  clear hm hls
  by_cases hce : chkErr ps L ls = 0
  case neg =>
    have HX : Hid (boundB ps L ls vs = false) := by unfold boundB; rw [if_pos hce]; rfl
    have q0 : (chkErr ps L ls != 0) = true := by simpa using hce
    clear hce hn hk
    go_enter Tryz.func43, Tryz.ntmps43
    go_wp2_with (go_at_call 22; refine CC.out.mono ?_; rintro e w1 ⟨G, g, rfl, hG, hb1⟩)
    go_ret
    exact ⟨ret_bool HX.out.symm, hb1⟩
  have HCE := Lib.hid hce
  have GG := Lib.hid (good_of hce)
  have q0 : (chkErr ps L ls != 0) = false := by rw [hce]; rfl
  have hn64 : n ≤ 64 := by rw [hn]; exact GG.out.len
  by_cases hkn : k = n + 1
  case neg =>
    have HX : Hid (boundB ps L ls vs = false) := by unfold boundB; rw [if_neg (by simpa using hce), if_pos (by omega)]; rfl
    have q1 : ((k : Int) != (n : Int) + 1) = true := by simp; omega
    clear hce hn hk hkn
    go_enter Tryz.func43, Tryz.ntmps43
    go_wp2_with (go_at_call 22; refine CC.out.mono ?_; rintro e w1 ⟨G, g, rfl, hG, hb1⟩)
    go_ret
    exact ⟨ret_bool HX.out.symm, hb1⟩
  have HB : Hid (boundB ps L ls vs = if vs.all vOk = false then false else outerB L ls ps vs) := by
    unfold boundB; rw [if_neg (by simpa using hce), if_neg (by omega)]; rfl
  have q1 : ((k : Int) != (n : Int) + 1) = false := by simp; omega
  have hk1 : n < k := by omega
  have hk2 : k ≤ n + 1 := by omega
  clear hce hn hk hkn
  go_enter Tryz.func43, Tryz.ntmps43
  go_wp2_with (go_at_call 22; refine CC.out.mono ?_; rintro e w1 ⟨G, g, rfl, hG, hb1⟩)
  clear hG
  go_loopw [12, 35] (fun _ ii wr => ∃ i : Nat, i ≤ k ∧ ii = .int .i64 i ∧ Below w.heap.size w wr ∧ (vs.drop i).all vOk = vs.all vOk) (fun _ ii _ => k - (intOf ii).toNat)
  case atStart => exact ⟨0, Nat.zero_le _, rfl, hb1, rfl⟩
  case round =>
    obtain ⟨i, hi, rfl, hb, hall⟩ := hrel
    have HA := Lib.hid hall
    clear hall
    by_cases hlt : i < k
    · obtain ⟨v, hvi, hd⟩ := drop_cons (xs := vs) (i := i) (by rw [← HK.out]; exact hlt)
      obtain ⟨b, off, rfl, _, hbl, c0⟩ := (hv.below hb).at_ hvi
      have HD := Lib.hid hd
      clear hd hvi
      by_cases hok : vOk v = true
      · obtain ⟨g1, g2⟩ := (vOk_iff v).1 hok
        have HO := Lib.hid hok
        clear hok
        go_wp2_with fail
        go_roundw
        case rel => exact ⟨i + 1, by omega, by go_num, hb, allv_of_drop HD.out HA.out HO.out⟩
        case measure => simp [intOf]; omega
      · have HR : Hid (boundB ps L ls vs = false) := by
          rw [HB.out, if_pos (badv_of_drop HD.out HA.out (Bool.eq_false_iff.2 hok))]; rfl
        have hno : ¬ (0 ≤ v ∧ v ≤ 17592186044416) := fun h => hok ((vOk_iff v).2 h)
        clear hok
        go_wp2_with fail
        all_goals first | (exfalso; omega) | (go_ret; exact ⟨ret_bool HR.out.symm, hb⟩)
    obtain rfl : i = k := by omega
    have hvall : vs.all vOk = true := by
      have := HA.out
      rw [HK.out, List.drop_length] at this
      exact this.symm
    have HR : Hid (boundB ps L ls vs = outerB L ls ps vs) := by rw [HB.out, if_neg (by simp [hvall])]; rfl
    have HV : Hid (∀ v ∈ vs, 0 ≤ v ∧ v ≤ 17592186044416) := fun v hv => (vOk_iff v).1 (List.all_eq_true.1 hvall v hv)
    clear hvall HA HB
    go_wp2_with fail
    go_loopg [13, 14, 15, 16, 17, 48] n (fun q _ _ _ _ _ ii wr => ∃ i : Nat, i ≤ n ∧ q = n - i ∧ ii = .int .i64 i ∧ Below w.heap.size w wr ∧ outerB L ls (ps.drop i) (vs.drop i) = outerB L ls ps vs)
    case atStart => exact ⟨0, Nat.zero_le _, rfl, rfl, hb, rfl⟩
    case round =>
      obtain ⟨i, hi, hq, rfl, hb, hout⟩ := hrel
      have HQ := Lib.hid hq
      have HOUT := Lib.hid hout
      clear hq hout
      by_cases hin : i < n
      case neg =>
        obtain rfl : i = n := by omega
        have h1 := HOUT.out
        rw [HN.out] at h1
        have HE := Lib.hid (outerB_end h1)
        clear h1
        go_wp2_with fail
        go_ret
        exact ⟨ret_bool (HR.out.trans HE.out).symm, hb⟩
      obtain ⟨p, hpi, hdi⟩ := drop_cons (xs := ps) (i := i) (by rw [← HN.out]; exact hin)
      obtain ⟨v, hvi, hdv⟩ := drop_cons (xs := vs) (i := i) (by rw [← HK.out]; omega)
      obtain ⟨v', hvi', hdv'⟩ := drop_cons (xs := vs) (i := i + 1) (by rw [← HK.out]; omega)
      have hpo := (ptOk_iff p).1 (GG.out.pt p (List.mem_of_getElem? hpi))
      have hvo := HV.out v (List.mem_of_getElem? hvi)
      obtain ⟨b, off, rfl, _, hbl, c0⟩ := (hv.below hb).at_ hvi
      obtain ⟨b', off', hA', _, _, c1⟩ := (hv.below hb).at_ hvi'
      obtain ⟨rfl, rfl⟩ : b = b' ∧ off = off' := by simpa using hA'
      have HDI := Lib.hid hdi
      have HPI := Lib.hid hpi
      have HVI := Lib.hid hvi
      have HDV := Lib.hid hdv
      have HDV' := Lib.hid hdv'
      clear hpi hdi hvi hdv hvi' hdv' hA'
      by_cases hlt : v < v'
      · have HE := Lib.hid (outerB_less HDI.out HDV.out HDV'.out HOUT.out hlt)
        have q : decide (v < v') = true := by simpa using hlt
        go_wp2_with fail
        go_quiet (fail)
        go_wp2_with fail
        go_ret
        exact ⟨ret_bool (HR.out.trans HE.out).symm, below_drewN hb _⟩
      have q : decide (v < v') = false := by simpa using hlt
      have HLT := Lib.hid hlt
      clear hlt
      go_wp2_with fail
      go_quiet (fail)
      go_wp2_with fail
      obtain ⟨wo, hwo⟩ : ∃ wo : World, wo = wr.drewN nq := ⟨_, rfl⟩
      have hbo : Below w.heap.size w wo := by rw [hwo]; exact below_drewN hb _
      rw [← hwo]
      clear hwo hb c0 c1
      go_loopg [14, 15, 16, 17] (n - i) (fun q t jj _ _ wq => ∃ (j : Nat) (tot : Int), i ≤ j ∧ j ≤ n ∧ q = n - j ∧ jj = .int .i64 j ∧ t = .int .i64 tot ∧ 0 ≤ tot ∧ tot + sumB (ps.drop j) ≤ 17592186044416 ∧ innerB L ls p.a v (ps.drop j) (vs.drop (j + 1)) tot = innerB L ls p.a v (ps.drop i) (vs.drop (i + 1)) 0 ∧ Below w.heap.size w wq)
      case atStart =>
        refine ⟨i, 0, Nat.le_refl _, by omega, rfl, rfl, rfl, by omega, ?_, rfl, hbo⟩
        have := sumB_drop_le GG.out.pt i; have := GG.out.sum; omega
      case round =>
        obtain ⟨j, tot, hj1, hj2, hq2, rfl, rfl, ht0, ht1, hinn, hbq⟩ := hrel
        have HINN := Lib.hid hinn
        have HQ2 := Lib.hid hq2
        clear hinn hq2 hbo
        by_cases hjn : j < n
        case neg =>
          obtain rfl : j = n := by omega
          have h1 := HINN.out
          rw [HN.out] at h1
          have HE := Lib.hid (innerB_end h1)
          have qj : decide (j < j) = false := by simp
          have HST := Lib.hid (outerB_step HDI.out HDV.out HDV'.out HOUT.out (by have := HLT.out; omega) HE.out)
          clear h1
          go_wp2_with fail
          go_quiet (fail)
          go_wp2_with fail
          go_roundg (j - (i + 1))
          case measure => rw [HQ.out]; omega
          case rel => exact ⟨i + 1, by omega, rfl, by go_num, below_drewN hbq _, HST.out⟩
        obtain ⟨q, hqj, hdj⟩ := drop_cons (xs := ps) (i := j) (by rw [← HN.out]; exact hjn)
        have hqo := (ptOk_iff q).1 (GG.out.pt q (List.mem_of_getElem? hqj))
        have HDJ := Lib.hid hdj
        obtain ⟨u, huj, hdu⟩ := drop_cons (xs := vs) (i := j + 1) (by rw [← HK.out]; omega)
        have huo := HV.out u (List.mem_of_getElem? huj)
        have HDU := Lib.hid hdu
        have HUJ := Lib.hid huj
        obtain ⟨b2, off2, rfl, _, hbl2, y0, y1⟩ := (hp.below hbq).at_ hqj
        obtain ⟨b', off', hA', _, _, z0, _⟩ := (hp.below hbq).at_ HPI.out
        obtain ⟨rfl, rfl⟩ : b2 = b' ∧ off2 = off' := by simpa using hA'
        clear hdj hqj hA' huj hdu
        have qj : decide (j < n) = true := by simpa using hjn
        by_cases hle : L ≤ q.a - p.a
        · have HE := Lib.hid (innerB_far HDJ.out HDU.out HINN.out hle)
          have ql : decide (q.a - p.a < L) = false := by simp; omega
          have HST := Lib.hid (outerB_step HDI.out HDV.out HDV'.out HOUT.out (by have := HLT.out; omega) HE.out)
          go_wp2_with fail
          go_quiet (fail)
          go_wp2_with fail
          go_roundg (n - (i + 1))
          case measure => rw [HQ.out]; omega
          case rel => exact ⟨i + 1, by omega, rfl, by go_num, below_drewN hbq _, HST.out⟩
        have ql : decide (q.a - p.a < L) = true := by simp; omega
        have hlt : q.a - p.a < L := by omega
        have htq : tot + q.b ≤ 17592186044416 := by
          have h1 := sumB_drop HDJ.out ht1
          have h2 := sumB_nonneg (ps := ps.drop (j + 1)) (fun u hu => GG.out.pt u (List.mem_of_mem_drop hu))
          omega
        have he := (GG.out.rec0 (t := tot + q.b) (by omega) htq).1
        have q3 : (recErr (tot + q.b) ls != 0) = false := by rw [he]; rfl
        have hrb := recVal_bd (tot + q.b) ls
        clear he
        go_wp2_with fail
        go_quiet (fail)
        go_wp2_with (go_at_call 30; refine (CR.out _ _ (Sl.drewN (hl.below hbq) _)).mono ?_; rintro e w2 ⟨rfl, hb2⟩)
        have hbw : Below w.heap.size w w2 := (below_drewN hbq _).trans (hb2.mono hbq.size)
        obtain ⟨b', off', hA', _, _, g0⟩ := (hv.below hbw).at_ HVI.out
        obtain ⟨rfl, rfl⟩ : b = b' ∧ off = off' := by simpa using hA'
        obtain ⟨b', off', hA2, _, _, g1⟩ := (hv.below hbw).at_ HUJ.out
        obtain ⟨rfl, rfl⟩ : b = b' ∧ off = off' := by simpa using hA2
        clear hA' hA2 y0 y1 z0 hb2 hbq
        by_cases hbad : v < recVal (tot + q.b) ls + u
        · have HE := Lib.hid (outerB_bad HDI.out HDV.out HOUT.out (innerB_bad HDJ.out HDU.out HINN.out hlt hbad))
          have qb : decide (v < recVal (tot + q.b) ls + u) = true := by simpa using hbad
          go_quiet (fail)
          go_wp2_with fail
          go_ret
          exact ⟨ret_bool (HR.out.trans HE.out).symm, below_drewN hbw _⟩
        · have HE := Lib.hid (innerB_step HDJ.out HDU.out HINN.out hlt hbad)
          have qb : decide (v < recVal (tot + q.b) ls + u) = false := by simpa using hbad
          clear hbad
          go_quiet (fail)
          go_wp2_with fail
          go_roundg (n - (j + 1))
          case measure => rw [HQ2.out]; omega
          case rel => exact ⟨j + 1, tot + q.b, by omega, by omega, rfl, by go_num, rfl, by omega, sumB_drop HDJ.out ht1, HE.out, below_drewN hbw _⟩

end Go.Proofs.YtilkcailpkebdaaGreat

/-
  treatyref01.SameInts, treatyref01.Clamp: their contracts. Blocks that are laid as literals.
-/
namespace Go.Proofs.YtilkcailpkebdaaGreat
open Go.RowKit
set_option linter.unusedVariables false

theorem sl_new {α : Type} {enc : α → List Value} {k : Nat} (hk : ∀ x, (enc x).length = k) (w : World) (xs : List α) (t : TypeId) : Sl (w.alloc (.cells (xs.flatMap enc).toArray t)) w.heap.size k (some ⟨w.heap.size, 0, none⟩) (xs.map enc) := by
  intro hp
  refine ⟨w.heap.size, 0, rfl, Nat.le_refl _, by simp, fun i x hx j u hu => ?_⟩
  rw [List.getElem?_map, Option.map_eq_some_iff] at hx
  obtain ⟨y, hy, rfl⟩ := hx
  have hj : j < k := by have := (List.getElem?_eq_some_iff.1 hu).1; rwa [hk] at this
  have hf := flat_get enc k hk xs i y hy j hj
  rw [hu] at hf
  have hh : (w.alloc (.cells (xs.flatMap enc).toArray t)).heap[w.heap.size]? = some (.cells (xs.flatMap enc).toArray t) := heap_alloc_new w _
  simp only [World.cell?, hh]
  simpa using hf
theorem pairs_new (w : World) (xs : List P2) (t : TypeId) : Pairs (w.alloc (.cells (xs.flatMap P2.cells).toArray t)) w.heap.size (some ⟨w.heap.size, 0, none⟩) xs := sl_new (enc := P2.cells) (fun _ => rfl) w xs t
theorem ints_new (w : World) (xs : List Int) (t : TypeId) : Ints (w.alloc (.cells (xs.flatMap V1).toArray t)) w.heap.size (some ⟨w.heap.size, 0, none⟩) xs := sl_new (enc := V1) (fun _ => rfl) w xs t
theorem below_alloc (w : World) (o : Obj) : Below w.heap.size w (w.alloc o) := (Below.refl _ _).alloc (Nat.le_refl _) _

def sameB (xs ys : List Int) : Bool := decide (xs = ys)
theorem sameB_len {xs ys : List Int} (h : xs.length ≠ ys.length) : sameB xs ys = false := by
  unfold sameB; rw [decide_eq_false_iff_not]; intro e; rw [e] at h; exact h rfl
theorem sameB_diff {xs ys : List Int} {i : Nat} {x y : Int} (hx : xs[i]? = some x) (hy : ys[i]? = some y) (h : x ≠ y) : sameB xs ys = false := by
  unfold sameB; rw [decide_eq_false_iff_not]; intro e; rw [e, hy] at hx; injection hx with hx; exact h hx.symm
theorem sameB_all {xs ys : List Int} (hl : xs.length = ys.length) (h : ∀ i, i < xs.length → xs[i]? = ys[i]?) : sameB xs ys = true := by
  unfold sameB; rw [decide_eq_true_iff]
  apply List.ext_getElem? 
  intro i
  rcases Nat.lt_or_ge i xs.length with hi | hi
  · exact h i hi
  · rw [List.getElem?_eq_none hi, List.getElem?_eq_none (by omega)]

set_option maxHeartbeats 400000 in
theorem sameInts_any (A B : Option Addr) (c d : Nat) (xs ys : List Int) (w : World) (hx : Ints w 0 A xs) (hy : Ints w 0 B ys) (hxl : xs.length ≤ 9223372036854775807) (hyl : ys.length ≤ 9223372036854775807) :
    Calls Tryz.prog 24 #[.slice A xs.length c, .slice B ys.length d] w fun e w' => e = .returned (.bool (sameB xs ys)) ∧ Below w.heap.size w w' := by
  obtain ⟨n, hn⟩ : ∃ n, n = xs.length := ⟨_, rfl⟩
  obtain ⟨m, hm⟩ : ∃ m, m = ys.length := ⟨_, rfl⟩
  rw [← hn] at hxl ⊢
  rw [← hm] at hyl ⊢
  by_cases hnm : n = m
  case neg =>
    have HR := Lib.hid (sameB_len (xs := xs) (ys := ys) (by omega))
    have q : ((n : Int) != (m : Int)) = true := by simp; omega
    have q' : (n != m) = true := by simpa using hnm
    clear hn hm hnm
    go_enter Tryz.func24, Tryz.ntmps24
    go_wp2_with fail
    go_ret
    exact ⟨ret_bool HR.out.symm, Below.refl _ _⟩
  subst hnm
  have HN := Lib.hid hn
  have HM := Lib.hid hm
  clear hn hm
  go_enter Tryz.func24, Tryz.ntmps24
  go_wp2_with fail
  go_loopw [5] (fun ii wr => ∃ i : Nat, ii = .int .i64 i ∧ i ≤ n ∧ (∀ k, k < i → xs[k]? = ys[k]?) ∧ Below w.heap.size w wr) (fun ii _ => n - (intOf ii).toNat)
  case atStart => exact ⟨0, rfl, Nat.zero_le _, fun k hk => absurd hk (by omega), Below.refl _ _⟩
  case round =>
    obtain ⟨i, rfl, hi, hall, hb⟩ := hrel
    have HA := Lib.hid hall
    clear hall
    by_cases hin : i < n
    · obtain ⟨x, hxi, _⟩ := drop_cons (xs := xs) (i := i) (by rw [← HN.out]; exact hin)
      obtain ⟨y, hyi, _⟩ := drop_cons (xs := ys) (i := i) (by rw [← HM.out]; exact hin)
      obtain ⟨b1, o1, rfl, _, _, c1⟩ := (hx.below hb).at_ hxi
      obtain ⟨b2, o2, rfl, _, _, c2⟩ := (hy.below hb).at_ hyi
      by_cases hxy : x = y
      · have q : (x != y) = false := by simpa using hxy
        have HX := Lib.hid hxi
        have HY := Lib.hid hyi
        have HXY := Lib.hid hxy
        clear hxi hyi hxy
        go_wp2_with fail
        go_quiet (fail)
        go_wp2_with fail
        go_roundw
        case rel =>
          refine ⟨i + 1, by go_num, by omega, fun k hk => ?_, below_drewN hb _⟩
          by_cases hki : k = i
          · rw [hki, HX.out, HY.out, HXY.out]
          · exact HA.out k (by omega)
        case measure => simp [intOf]; omega
      · have q : (x != y) = true := by simpa using hxy
        have HR := Lib.hid (sameB_diff hxi hyi hxy)
        clear hxi hyi hxy
        go_wp2_with fail
        go_quiet (fail)
        go_wp2_with fail
        go_ret
        exact ⟨ret_bool HR.out.symm, below_drewN hb _⟩
    · go_wp2_with fail
      go_ret
      refine ⟨ret_bool (sameB_all (by rw [← HN.out, ← HM.out]) fun k hk => HA.out k (by rw [← HN.out] at hk; omega)).symm, hb⟩

def clampA (a : Int) : Int := if 17592186044416 < a then 17592186044416 else if a < -17592186044416 then -17592186044416 else a
theorem clampA_bd (a : Int) : -17592186044416 ≤ clampA a ∧ clampA a ≤ 17592186044416 := by
  unfold clampA; split
  · omega
  · split <;> omega

end Go.Proofs.YtilkcailpkebdaaGreat

/-
  treatylaw27.awake: it returns true.
-/
namespace Go.Proofs.YtilkcailpkebdaaGreat
open Go.RowKit
set_option linter.unusedVariables false

def exL7 : List P2 := [⟨10, 20⟩]
def exP7 : List P2 := [⟨0, 8⟩, ⟨20, 8⟩, ⟨30, 8⟩]
theorem exB1 : boundB exP7 24 exL7 [6, 6, 0, 0] = true := by decide +kernel
theorem exB2 : boundB exP7 24 exL7 [7, 6, 0, 0] = true := by decide +kernel
theorem exB3 : boundB exP7 24 exL7 [5, 6, 0, 0] = false := by decide +kernel
theorem exB4 : boundB exP7 24 exL7 [6, 6, 0] = false := by decide +kernel

set_option maxHeartbeats 1000000 in
theorem awake27_any (w : World) :
    Calls Tryz.prog 12 #[] w fun e w' => e = .returned (.bool true) ∧ Below w.heap.size w w' := by
  go_enter Tryz.func12, Tryz.ntmps12
  go_wp2_with fail
  obtain ⟨w1, hw1⟩ : ∃ w1 : World, w1 = w.alloc (.cells #[.int .i64 10, .int .i64 20] 53) := ⟨_, rfl⟩
  obtain ⟨w2, hw2⟩ : ∃ w2 : World, w2 = w1.alloc (.cells #[.int .i64 0, .int .i64 8, .int .i64 20, .int .i64 8, .int .i64 30, .int .i64 8] 55) := ⟨_, rfl⟩
  have hl : Pairs w2 0 (some ⟨w.heap.size, 0, none⟩) exL7 := by
    have h1 : Pairs w1 w.heap.size (some ⟨w.heap.size, 0, none⟩) exL7 := by rw [hw1]; exact pairs_new w exL7 _
    rw [hw2]; exact (h1.below (below_alloc _ _)).low (Nat.zero_le _)
  have hs1 : w1.heap.size = w.heap.size + 1 := by rw [hw1]; simp
  have hs2 : w2.heap.size = w.heap.size + 2 := by rw [hw2]; simp [hs1]
  have hp : Pairs w2 0 (some ⟨w.heap.size + 1, 0, none⟩) exP7 := by
    rw [hw2, ← hs1]; exact (pairs_new w1 exP7 _).low (Nat.zero_le _)
  have hb2 : Below w.heap.size w w2 := by
    rw [hw2, hw1]; exact (below_alloc w _).alloc (by simp) _
  rw [← hw1, ← hw2]
  clear hw1 hw2 hs1
  have b3 := below_alloc w2 (.cells #[.int .i64 6, .int .i64 6, .int .i64 0, .int .i64 0] 3)
  have C1 := bound_any (some ⟨w.heap.size + 1, 0, none⟩) 3 exP7 24 (some ⟨w.heap.size, 0, none⟩) 1 exL7 (some ⟨w2.heap.size, 0, none⟩) 4 [6, 6, 0, 0] _ (by decide) (by decide) (by simp) (hp.below b3) (hl.below b3) ((ints_new w2 [6, 6, 0, 0] 3).low (Nat.zero_le _))
  rw [exB1] at C1
  rw [hs2] at C1
  refine C1.mono ?_
  rintro e w3 ⟨rfl, hb3⟩
  clear C1 hs2
  have hb23 : Below w2.heap.size w2 w3 := b3.trans (hb3.mono b3.size)
  clear b3 hb3
  go_wp2_with fail
  have b4 := below_alloc w3 (.cells #[.int .i64 7, .int .i64 6, .int .i64 0, .int .i64 0] 3)
  have C2 := bound_any (some ⟨w.heap.size + 1, 0, none⟩) 3 exP7 24 (some ⟨w.heap.size, 0, none⟩) 1 exL7 (some ⟨w3.heap.size, 0, none⟩) 4 [7, 6, 0, 0] _ (by decide) (by decide) (by simp) ((hp.below hb23).below b4) ((hl.below hb23).below b4) ((ints_new w3 [7, 6, 0, 0] 3).low (Nat.zero_le _))
  rw [exB2] at C2
  refine C2.mono ?_
  rintro e w4 ⟨rfl, hb4⟩
  clear C2
  have hb24 : Below w2.heap.size w2 w4 := hb23.trans ((b4.trans (hb4.mono b4.size)).mono hb23.size)
  clear b4 hb4 hb23
  go_wp2_with fail
  have b5 := below_alloc w4 (.cells #[.int .i64 5, .int .i64 6, .int .i64 0, .int .i64 0] 3)
  have C3 := bound_any (some ⟨w.heap.size + 1, 0, none⟩) 3 exP7 24 (some ⟨w.heap.size, 0, none⟩) 1 exL7 (some ⟨w4.heap.size, 0, none⟩) 4 [5, 6, 0, 0] _ (by decide) (by decide) (by simp) ((hp.below hb24).below b5) ((hl.below hb24).below b5) ((ints_new w4 [5, 6, 0, 0] 3).low (Nat.zero_le _))
  rw [exB3] at C3
  refine C3.mono ?_
  rintro e w5 ⟨rfl, hb5⟩
  clear C3
  have hb25 : Below w2.heap.size w2 w5 := hb24.trans ((b5.trans (hb5.mono b5.size)).mono hb24.size)
  clear b5 hb5 hb24
  go_wp2_with fail
  have b6 := below_alloc w5 (.cells #[.int .i64 6, .int .i64 6, .int .i64 0] 3)
  have C4 := bound_any (some ⟨w.heap.size + 1, 0, none⟩) 3 exP7 24 (some ⟨w.heap.size, 0, none⟩) 1 exL7 (some ⟨w5.heap.size, 0, none⟩) 3 [6, 6, 0] _ (by decide) (by decide) (by simp) ((hp.below hb25).below b6) ((hl.below hb25).below b6) ((ints_new w5 [6, 6, 0] 3).low (Nat.zero_le _))
  rw [exB4] at C4
  refine C4.mono ?_
  rintro e w6 ⟨rfl, hb6⟩
  clear C4
  have hb26 : Below w2.heap.size w2 w6 := hb25.trans ((b6.trans (hb6.mono b6.size)).mono hb25.size)
  clear b6 hb6 hb25
  go_wp2_with fail
  go_ret
  exact ⟨rfl, hb2.trans (hb26.mono hb2.size)⟩

end Go.Proofs.YtilkcailpkebdaaGreat

/-
  treatymade2.Losses, treatymade2.Amounts: their contracts.
-/
namespace Go.Proofs.YtilkcailpkebdaaGreat
open Go.RowKit
set_option linter.unusedVariables false

theorem Tryz.infoLoss : (Tryz.prog.info? 92).map (fun i => (i.zero, i.size, i.bytes)) = some (some (.agg #[.int .i64 0, .int .i64 0, .int .i64 0, .int .i64 0, .int .i64 0, .int .i64 0, .int .i64 0, .int .i64 0, .int .i64 0, .int .i64 0]), 10, 80) := by kernel_rfl

set_option maxRecDepth 100000 in
set_option maxHeartbeats 2000000 in
theorem losses_any (bd : Nat) (N : Int) (w : World) (hN0 : 0 ≤ N) (hN : N ≤ 1000) (hd : Deck w bd) :
    Calls Tryz.prog 25 #[.pointer (some ⟨bd, 0, none⟩), .int .i64 N] w fun e w' => ∃ (v : Value) (xs : List Los) (last : Int), e = .returned v ∧ (xs.length : Int) ≤ N ∧ last ≤ 3 * (xs.length : Int) ∧ MadeLos xs last ∧ w'.ownsRow w.heap.size 92 10 v xs.length (xs.flatMap Los.cells) ∧ Deck w' bd ∧ w.grownBy w' (some bd) := by
  obtain ⟨i0, hi, hz0, hz1, hz2⟩ := info_parts Tryz.infoLoss
  have hlt := hd.lt
  go_enter Tryz.func25, Tryz.ntmps25
  go_wp2_with fail
  refine (next_any bd (N + 1) w (by omega) (by omega) hd).mono ?_
  rintro e w1 ⟨r, rfl, hr0, hr1, hd1, hg1⟩
  go_wp2_with fail
  go_loopw [5, 6, 7, 8] (fun v t k _ wr => ∃ (xs : List Los) (last : Int) (kk : Nat), t = .int .i64 last ∧ k = .int .i64 kk ∧ (xs.length : Int) + kk ≤ N ∧ 0 ≤ last ∧ last ≤ 3 * (xs.length : Int) ∧ MadeLos xs last ∧ wr.ownsRow w.heap.size 92 10 v xs.length (xs.flatMap Los.cells) ∧ Deck wr bd ∧ w.grownBy wr (some bd)) (fun _ _ k _ _ => (intOf k).toNat)
  case atStart =>
    obtain ⟨rn, rfl⟩ := Int.eq_ofNat_of_zero_le hr0
    exact ⟨[], 0, rn, rfl, rfl, by simp; omega, by omega, by simp, MadeLos.nil, own_nil _ _ _ _, hd1, hg1⟩
  case round =>
    obtain ⟨xs, last, kk, rfl, rfl, hkn, hl0, hl1, hmade, hown, hdk, hgr⟩ := hrel
    by_cases hk : 0 < kk
    case neg =>
      obtain rfl : kk = 0 := by omega
      go_wp2_with fail
      go_ret
      exact ⟨_, xs, last, rfl, by omega, hl1, hmade, hown, hdk, hgr⟩
    go_wp2_with fail
    refine (next_any bd 3 wr (by omega) (by omega) hdk).mono ?_
    rintro e w2 ⟨r2, rfl, h20, h21, hd2, hg2⟩
    go_wp2_with fail
    refine (next_any bd 5 w2 (by omega) (by omega) hd2).mono ?_
    rintro e w3 ⟨r3, rfl, h30, h31, hd3, hg3⟩
    go_wp2_with fail
    refine (next_any bd 5 w3 (by omega) (by omega) hd3).mono ?_
    rintro e w4 ⟨r4, rfl, h40, h41, hd4, hg4⟩
    go_wp2_with fail
    refine (next_any bd 90 w4 (by omega) (by omega) hd4).mono ?_
    rintro e w5 ⟨r5, rfl, h50, h51, hd5, hg5⟩
    go_wp2_with fail
    refine (next_any bd 3 w5 (by omega) (by omega) hd5).mono ?_
    rintro e w6 ⟨r6, rfl, h60, h61, hd6, hg6⟩
    go_wp2_with fail
    refine (next_any bd 3 w6 (by omega) (by omega) hd6).mono ?_
    rintro e w7 ⟨r7, rfl, h70, h71, hd7, hg7⟩
    go_wp2_with fail
    refine (next_any bd 2 w7 (by omega) (by omega) hd7).mono ?_
    rintro e w8 ⟨r8, rfl, h80, h81, hd8, hg8⟩
    go_wp2_with fail
    refine (small_any bd w8 hd8).mono ?_
    rintro e w9 ⟨r9, rfl, h90, h91, hd9, hg9⟩
    go_wp2_with fail
    refine (small_any bd w9 hd9).mono ?_
    rintro e w10 ⟨r10, rfl, h100, h101, hd10, hg10⟩
    have hown10 : w10.ownsRow w.heap.size 92 10 u5 xs.length (xs.flatMap Los.cells) := by
      have hg := only_trans (only_trans (only_trans (only_trans (only_trans (only_trans (only_trans (only_trans hg2 hg3) hg4) hg5) hg6) hg7) hg8) hg9) hg10
      exact hown.kept hg (own_far hown hlt)
    have hgr10 : w.grownBy w10 (some bd) := only_trans hgr (only_trans (only_trans (only_trans (only_trans (only_trans (only_trans (only_trans (only_trans hg2 hg3) hg4) hg5) hg6) hg7) hg8) hg9) hg10)
    clear hg2 hg3 hg4 hg5 hg6 hg7 hg8 hg9 hg10 hdk hd2 hd3 hd4 hd5 hd6 hd7 hd8 hd9 hown hgr
    have hlow := own_low hown10
    have hbne : w10.heap.size ≠ bd := by have := hd10.lt; omega
    have hsz10 := hgr10.size
    go_upto_if 42 with fail
    go_cut [8] (fun s8 wx => ∃ paid : Int, s8 = .pointer (some ⟨w10.heap.size, 0, none⟩) ∧ 0 ≤ paid ∧ paid ≤ r10 ∧ wx.heap[w10.heap.size]? = some (.cells #[.int .i64 (last + (1 + r2)), .int .i64 r3, .int .i64 r4, .int .i64 r5, .int .i64 r6, .int .i64 r7, .int .i64 r8, .int .i64 r9, .int .i64 r10, .int .i64 paid] 92 (0, 0)) ∧ Deck wx bd ∧ w.grownBy wx (some bd) ∧ wx.ownsRow w.heap.size 92 10 u5 xs.length (xs.flatMap Los.cells) ∧ w10.heap.size < wx.heap.size)
    case first =>
      by_cases ha : 0 < r10
      · go_wp2_with fail
        refine (next_any bd (r10 + 1) _ (by omega) (by omega) (hd10.below ((Below.refl _ _).alloc (Nat.le_refl _) _))).mono ?_
        rintro e w11 ⟨r11, rfl, h110, h111, hd11, hg11⟩
        have hh11 : w11.heap[w10.heap.size]? = some (.cells #[.int .i64 (last + (1 + r2)), .int .i64 r3, .int .i64 r4, .int .i64 r5, .int .i64 r6, .int .i64 r7, .int .i64 r8, .int .i64 r9, .int .i64 r10, .int .i64 0] 92 (0, 0)) :=
          (hg11.block w10.heap.size (by simp) (fun e => hbne (by injection e))).trans (heap_alloc_new w10 _)
        have c9 : w11.cell? ⟨w10.heap.size, 9, none⟩ = some (.int .i64 0) := by simp [World.cell?, hh11]
        have cf : w11.frozen? ⟨w10.heap.size, 9, none⟩ = false := by simp [World.frozen?, hh11]
        have hlt11 : w10.heap.size < w11.heap.size := by have := hg11.size; simp at this; omega
        go_wp2_with fail
        go_meet
        refine ⟨r11, rfl, h110, by omega, ?_, ?_, ?_, ?_, ?_⟩
        · simp [World.setCell, Array.getElem?_modify, hh11]
        · exact hd11.keep fun k hk => Below.heap_setCell _ _ _ _ (by have := hd10.lt; dsimp only; omega)
        · exact only_setCell (only_trans (only_alloc hgr10 _) hg11) (.inr hsz10) _
        · have h1 := (hown10.alloc (.cells #[.int .i64 (last + (1 + r2)), .int .i64 r3, .int .i64 r4, .int .i64 r5, .int .i64 r6, .int .i64 r7, .int .i64 r8, .int .i64 r9, .int .i64 r10, .int .i64 0] 92)).kept hg11 (own_far hown10 hlt)
          exact h1.kept (row := some w10.heap.size) (only_setCell (only_refl _ _) (.inl rfl) _) (.inr fun e => by have := own_lt hown10 _ e; omega)
        · simpa [World.setCell] using hlt11
      · go_wp2_with fail
        go_meet
        refine ⟨0, rfl, by omega, by omega, heap_alloc_new w10 _, hd10.below ((Below.refl _ _).alloc (Nat.le_refl _) _), only_alloc hgr10 _, hown10.alloc _, by simp⟩
    case rest =>
      obtain ⟨paid, rfl, hp0, hp1, hhx, hdx, hgx, hownx, hltx⟩ := hcut
      have c0 : wc.cell? ⟨w10.heap.size, 0, none⟩ = some (.int .i64 (last + (1 + r2))) := by simp [World.cell?, hhx]
      have c1 : wc.cell? ⟨w10.heap.size, 1, none⟩ = some (.int .i64 r3) := by simp [World.cell?, hhx]
      have c2 : wc.cell? ⟨w10.heap.size, 2, none⟩ = some (.int .i64 r4) := by simp [World.cell?, hhx]
      have c3 : wc.cell? ⟨w10.heap.size, 3, none⟩ = some (.int .i64 r5) := by simp [World.cell?, hhx]
      have c4 : wc.cell? ⟨w10.heap.size, 4, none⟩ = some (.int .i64 r6) := by simp [World.cell?, hhx]
      have c5 : wc.cell? ⟨w10.heap.size, 5, none⟩ = some (.int .i64 r7) := by simp [World.cell?, hhx]
      have c6 : wc.cell? ⟨w10.heap.size, 6, none⟩ = some (.int .i64 r8) := by simp [World.cell?, hhx]
      have c7 : wc.cell? ⟨w10.heap.size, 7, none⟩ = some (.int .i64 r9) := by simp [World.cell?, hhx]
      have c8 : wc.cell? ⟨w10.heap.size, 8, none⟩ = some (.int .i64 r10) := by simp [World.cell?, hhx]
      have c9 : wc.cell? ⟨w10.heap.size, 9, none⟩ = some (.int .i64 paid) := by simp [World.cell?, hhx]
      have hlowx := own_low hownx
      have hszx := hgx.size
      clear hhx hown10 hgr10 hd10
      go_wp2_with (at_builtin; refine wpList_append_own _ rfl (.tmp 49) (.tmp 51) 22 rfl w.heap.size 92 i0 _ 10 80 Tryz.underlying22 hi hz0 hz1 hz2 rfl (by decide) _ _ _ rfl (hownx.alloc _) ⟨wc.heap.size, 0, none⟩ 1 1 [.int .i64 (last + (1 + r2)), .int .i64 r3, .int .i64 r4, .int .i64 r5, .int .i64 r6, .int .i64 r7, .int .i64 r8, .int .i64 r9, .int .i64 r10, .int .i64 paid] rfl rfl ?c1 ?c2 ?c3 ?c4 ?c5 ?_)
      case c1 => exact cell_new _ _ _
      case c2 => intro u hu; simp at hu; rcases hu with rfl | rfl | rfl | rfl | rfl | rfl | rfl | rfl | rfl | rfl <;> rfl
      case c3 => unfold maxLen; omega
      case c4 => omega
      case c5 => simp; omega
      intro v' w12 hown12 hg12 _
      have hgr12 : w.grownBy w12 (some bd) := only_grown (only_alloc hgx _) hg12 hlowx
      have hd12 : Deck w12 bd := (hdx.below ((Below.refl _ _).alloc (Nat.le_refl _) _)).grown hg12 (fun g hg => by have := hlowx g hg; omega)
      go_wp2_with fail
      go_roundw
      case rel =>
        refine ⟨xs ++ [⟨last + (1 + r2), r3, r4, r5, r6, r7, r8, r9, r10, paid⟩], last + (1 + r2), kk - 1, rfl, val_int (by omega), by simp; omega, by omega, by simp; omega, ?_, ?_, hd12, hgr12⟩
        · exact hmade.snoc (l := ⟨last + (1 + r2), r3, r4, r5, r6, r7, r8, r9, r10, paid⟩) (by unfold LosOk; dsimp only; omega) (by dsimp only; omega)
        · rw [List.flatMap_append, List.length_append]; exact hown12
      case measure => simp [intOf]; omega

end Go.Proofs.YtilkcailpkebdaaGreat

/-
  treatymade2.Amounts: its contract. A row whose content is known by index is a row of the call's own.
-/
namespace Go.Proofs.YtilkcailpkebdaaGreat
open Go.RowKit
set_option linter.unusedVariables false

theorem flat_map_get (f : Nat → Int) (n : Nat) : (((List.range n).map f).flatMap V1) = (List.range n).map fun i => Value.int .i64 (f i) := by
  induction (List.range n) with
  | nil => rfl
  | cons a l ih => simp [V1, ih]
theorem own_of_row {w : World} {g base n : Nat} {f : Nat → Int} (h : w.rowIs g 3 n (fun j => .int .i64 (f j))) (hb : base ≤ g) (hn : n ≤ maxLen) : w.ownsRow base 3 1 (.slice (some ⟨g, 0, none⟩) n n) n (((List.range n).map f).flatMap V1) := by
  obtain ⟨c, hc, hs, hi⟩ := h
  refine ⟨by rw [flat_map_get]; simp, .inr ⟨g, n, c, rfl, hb, hc, Nat.le_refl _, hn, by omega, ?_⟩⟩
  rw [flat_map_get]
  apply List.ext_getElem?
  intro i
  by_cases hin : i < n
  · rw [List.getElem?_take_of_lt (by omega)]
    have := hi i hin
    simp [hin, this]
  · rw [List.getElem?_eq_none (by simp; omega), List.getElem?_eq_none (by simp; omega)]

set_option maxHeartbeats 1000000 in
theorem amounts_any (bd : Nat) (n : Nat) (w : World) (hn : n ≤ 1000) (hd : Deck w bd) :
    Calls Tryz.prog 26 #[.pointer (some ⟨bd, 0, none⟩), .int .i64 n] w fun e w' => ∃ (v : Value) (xs : List Int), e = .returned v ∧ xs.length = n ∧ (∀ x ∈ xs, 0 ≤ x ∧ x < 268435456) ∧ w'.ownsRow w.heap.size 3 1 v xs.length (xs.flatMap V1) ∧ Deck w' bd ∧ w.grownBy w' (some bd) := by
  have hlt := hd.lt
  have hmk := run_make_row' (P := Tryz.prog) 23 3 (.int .i64 0) 8 Tryz.underlying23 Tryz.infoInt rfl .i64 .i64 n (by omega) (by omega)
  go_enter Tryz.func26, Tryz.ntmps26
  go_wp2_with fail
  have hrow0 := World.rowIs_made w (.int .i64 0) n 3
  have hd0 : Deck (w.alloc (.cells (madeCells #[.int .i64 0] n) 3)) bd := hd.below ((Below.refl _ _).alloc (Nat.le_refl _) _)
  have hg0 : w.grownBy (w.alloc (.cells (madeCells #[.int .i64 0] n) 3)) (some bd) := only_alloc (only_refl _ _) _
  obtain ⟨g, hg⟩ : ∃ g, g = w.heap.size := ⟨_, rfl⟩
  rw [← hg] at hrow0 ⊢
  have hgw : w.heap.size ≤ g := by omega
  have hgb : bd < g := by omega
  clear hg hmk
  go_loopw [6, 11] (fun _ ii wr => ∃ (i : Nat) (f : Nat → Int), i ≤ n ∧ ii = .int .i64 i ∧ (∀ k, 0 ≤ f k ∧ f k < 268435456) ∧ wr.rowIs g 3 n (fun j => .int .i64 (f j)) ∧ Deck wr bd ∧ w.grownBy wr (some bd)) (fun _ ii _ => n - (intOf ii).toNat)
  case atStart => exact ⟨0, fun _ => 0, Nat.zero_le _, rfl, fun _ => by simp, hrow0, hd0, hg0⟩
  case round =>
    obtain ⟨i, f, hi, rfl, hf, hrow, hdk, hgr⟩ := hrel
    have HF := Lib.hid hf
    clear hf hrow0 hd0 hg0
    by_cases hin : i < n
    · go_wp2_with fail
      refine (small_any bd wr hdk).mono ?_
      rintro e w2 ⟨r, rfl, hr0, hr1, hd2, hg2⟩
      have hrow2 : w2.rowIs g 3 n (fun j => .int .i64 (f j)) := World.rowIs.of_block hrow (hg2.block g hrow.lt (by intro e; injection e with e; omega))
      have x0 := hrow2.cell hin
      have xf := hrow2.frozen i
      have hgr2 := only_trans hgr hg2
      go_wp2_with fail
      go_roundw
      case rel =>
        refine ⟨i + 1, fun k => if k = i then r else f k, by omega, by go_num, fun k => ?_, ?_, ?_, ?_⟩
        · dsimp only; split
          · omega
          · exact HF.out k
        · refine (hrow2.set i _).congr fun k _ => ?_
          by_cases hk : k = i <;> simp [hk]
        · exact hd2.keep fun k hk => Below.heap_setCell _ _ _ _ (by dsimp only; omega)
        · exact only_setCell hgr2 (.inr hgw) _
      case measure => simp [intOf]; omega
    · go_wp2_with fail
      go_ret
      refine ⟨_, (List.range n).map f, rfl, by simp, ?_, ?_, hdk, hgr⟩
      · intro x hx
        obtain ⟨k, _, rfl⟩ := List.mem_map.1 hx
        exact HF.out k
      · have := own_of_row hrow hgw (by unfold maxLen; omega)
        simpa using this

end Go.Proofs.YtilkcailpkebdaaGreat

/-
  treatymade2.Points: points in ascending order; treatymade2.Layers: layers that are accepted.
-/
namespace Go.Proofs.YtilkcailpkebdaaGreat
open Go.RowKit
set_option linter.unusedVariables false

theorem Tryz.infoPoint : (Tryz.prog.info? 55).map (fun i => (i.zero, i.size, i.bytes)) = some (some (.agg #[.int .i64 0, .int .i64 0]), 2, 16) := by kernel_rfl

/-- Points that the deck makes: ascending hours from 1 on, at most the last one's; small amounts. -/
structure MadePts (xs : List P2) (last : Int) : Prop where
  each : ∀ p ∈ xs, 1 ≤ p.a ∧ p.a ≤ last ∧ 0 ≤ p.b ∧ p.b < 268435456
  asc : xs.Pairwise (fun p q => p.a < q.a)
theorem MadePts.nil : MadePts [] 0 := ⟨by simp, List.Pairwise.nil⟩
theorem MadePts.snoc {xs : List P2} {last : Int} (h : MadePts xs last) (h0 : 0 ≤ last) {r s : Int} (hr : 0 ≤ r) (hs0 : 0 ≤ s) (hs1 : s < 268435456) : MadePts (xs ++ [⟨last + (1 + r), s⟩]) (last + (1 + r)) := by
  refine ⟨fun p hp => ?_, ?_⟩
  · rcases List.mem_append.1 hp with hp | hp
    · have := h.each p hp; omega
    · obtain rfl : p = _ := by simpa using hp
      dsimp only; omega
  · rw [List.pairwise_append]
    refine ⟨h.asc, by simp, fun a ha b hb => ?_⟩
    obtain rfl : b = _ := by simpa using hb
    have := h.each a ha
    dsimp only; omega


end Go.Proofs.YtilkcailpkebdaaGreat

/-
  treatymade2.Layers: layers that are accepted.
-/
namespace Go.Proofs.YtilkcailpkebdaaGreat
open Go.RowKit
set_option linter.unusedVariables false

theorem Tryz.infoLayer : (Tryz.prog.info? 53).map (fun i => (i.zero, i.size, i.bytes)) = some (some (.agg #[.int .i64 0, .int .i64 0]), 2, 16) := by kernel_rfl

theorem mul_small {r s : Int} (h0 : 0 ≤ r) (h1 : r < 2) (h2 : 0 ≤ s) (h3 : s < 50) : 0 ≤ r * s ∧ r * s < 50 := by
  obtain rfl | rfl : r = 0 ∨ r = 1 := by omega
  · omega
  · omega

set_option maxHeartbeats 1000000 in
theorem layers_any (bd : Nat) (w : World) (hd : Deck w bd) :
    Calls Tryz.prog 28 #[.pointer (some ⟨bd, 0, none⟩)] w fun e w' => ∃ (v : Value) (xs : List P2), e = .returned v ∧ 1 ≤ xs.length ∧ xs.length ≤ 3 ∧ xs.all okLay = true ∧ w'.ownsRow w.heap.size 53 2 v xs.length (xs.flatMap P2.cells) ∧ Deck w' bd ∧ w.grownBy w' (some bd) := by
  obtain ⟨i0, hi, hz0, hz1, hz2⟩ := info_parts Tryz.infoLayer
  have hlt := hd.lt
  go_enter Tryz.func28, Tryz.ntmps28
  go_wp2_with fail
  refine (small_any bd w hd).mono ?_
  rintro e w1 ⟨r, rfl, hr0, hr1, hd1, hg1⟩
  go_wp2_with fail
  refine (next_any bd 3 w1 (by omega) (by omega) hd1).mono ?_
  rintro e w2 ⟨r', rfl, hr0', hr1', hd2, hg2⟩
  go_wp2_with fail
  go_loopw [3, 4, 5, 6] (fun v t k _ wr => ∃ (xs : List P2) (from_ : Int) (kk : Nat), t = .int .i64 from_ ∧ k = .int .i64 kk ∧ 1 ≤ xs.length + kk ∧ xs.length + kk ≤ 3 ∧ 0 ≤ from_ ∧ from_ ≤ 268435456 + 268435506 * (xs.length : Int) ∧ xs.all okLay = true ∧ wr.ownsRow w.heap.size 53 2 v xs.length (xs.flatMap P2.cells) ∧ Deck wr bd ∧ w.grownBy wr (some bd)) (fun _ _ k _ _ => (intOf k).toNat)
  case atStart =>
    obtain ⟨rn, rfl⟩ := Int.eq_ofNat_of_zero_le hr0'
    exact ⟨[], r, 1 + rn, rfl, val_int (by omega), by simp, by simp; omega, hr0, by simp; omega, rfl, own_nil _ _ _ _, hd2, only_trans hg1 hg2⟩
  case round =>
    obtain ⟨xs, from_, kk, rfl, rfl, hkn1, hkn2, hf0, hf1, hall, hown, hdk, hgr⟩ := hrel
    have HALL := Lib.hid hall
    clear hall
    by_cases hk : 0 < kk
    · go_wp2_with fail
      refine (small_any bd wr hdk).mono ?_
      rintro e w3 ⟨r3, rfl, hr30, hr31, hd3, hg3⟩
      have hown3 := hown.kept hg3 (own_far hown hlt)
      have hgr3 := only_trans hgr hg3
      have hlow := own_low hown3
      go_wp2_with (at_builtin; refine wpList_append_own _ rfl (.tmp 21) (.tmp 23) 24 rfl w.heap.size 53 i0 _ 2 16 Tryz.underlying24 hi hz0 hz1 hz2 rfl (by decide) _ _ _ rfl ((hown3.alloc _).alloc _) ⟨w3.heap.size + 1, 0, none⟩ 1 1 [.int .i64 from_, .int .i64 (1 + r3)] rfl rfl ?c1 ?c2 ?c3 ?c4 ?c5 ?_)
      case c1 =>
        have := cell_new (w3.alloc (.cells #[.int .i64 from_, .int .i64 (1 + r3)] 53)) [.int .i64 from_, .int .i64 (1 + r3)] 53
        simpa using this
      case c2 => intro u hu; simp at hu; rcases hu with rfl | rfl <;> rfl
      case c3 => unfold maxLen; omega
      case c4 => omega
      case c5 => have := hgr3.size; simp; omega
      intro v' w4 hown4 hg4 _
      have hgr4 : w.grownBy w4 (some bd) := only_grown (only_alloc (only_alloc hgr3 _) _) hg4 hlow
      have hd4 : Deck w4 bd := ((hd3.below ((Below.refl _ _).alloc (Nat.le_refl _) _)).below ((Below.refl _ _).alloc (Nat.le_refl _) _)).grown hg4 (fun g hg => by have := hlow g hg; omega)
      have hbx : w4.cell? ⟨w3.heap.size, 1, none⟩ = some (.int .i64 (1 + r3)) := by
        refine hg4.cell (v := .int .i64 (1 + r3)) ?_ (fun e => ?_)
        · simp
        · have := own_lt hown3 w3.heap.size e.symm; omega
      have hbne : w3.heap.size ≠ bd := by have := hd3.lt; omega
      go_wp2_with fail
      have hd4' : Deck w4.drew bd := hd4
      go_region_held3 (fun W => W.cell? ⟨w3.heap.size, 1, none⟩ = some (.int .i64 (1 + r3)))
        (first | go_keep | exact hc6 | exact hc5)
        (first | (go_at_call 27; (with_reducible refine (next_any bd 2 _ (by omega) (by omega) hd4').mono ?_); rintro e w5 ⟨r4, rfl, h40, h41, hd5, hg5⟩; have hc5 : w5.cell? ⟨w3.heap.size, 1, none⟩ = some (.int .i64 (1 + r3)) := hg5.cell hbx (fun e => hbne (by injection e))) | (go_at_call 27; (with_reducible refine (next_any bd 50 _ (by omega) (by omega) hd5).mono ?_); rintro e w6 ⟨r5, rfl, h50, h51, hd6, hg6⟩; have hc6 : w6.cell? ⟨w3.heap.size, 1, none⟩ = some (.int .i64 (1 + r3)) := hg6.cell hc5 (fun e => hbne (by injection e))))
      have hms := mul_small h40 h41 h50 h51
      rw [IntWalk.i64_in (r4 * r5) (by omega), IntWalk.i64_in (1 + r3 + r4 * r5) (by omega), IntWalk.i64_in (from_ + (1 + r3 + r4 * r5)) (by omega)]
      go_wp2_with fail
      go_roundw
      case rel =>
        refine ⟨xs ++ [⟨from_, 1 + r3⟩], from_ + (1 + r3 + r4 * r5), kk - 1, rfl, val_int (by omega), by simp; omega, by simp; omega, by omega, by simp; omega, ?_, ?_, hd6, ?_⟩
        · rw [List.all_append, HALL.out]
          have : okLay ⟨from_, 1 + r3⟩ = true := (okLay_iff _).2 ⟨hf0, by dsimp only; omega, by dsimp only; omega, by dsimp only; omega⟩
          simp [this]
        · rw [List.flatMap_append, List.length_append]
          have h6 := (World.ownsRow.kept hown4 (w' := w5) ⟨hg5.os, hg5.tape, hg5.output, hg5.size, hg5.block⟩ (own_far hown4 hlt))
          exact h6.kept hg6 (own_far h6 hlt)
        · exact only_trans (only_trans hgr4 ⟨hg5.os, hg5.tape, hg5.output, hg5.size, hg5.block⟩) hg6
      case measure => simp [intOf]; omega
    · obtain rfl : kk = 0 := by omega
      go_wp2_with fail
      go_ret
      exact ⟨_, xs, rfl, by omega, by omega, HALL.out, hown, hdk, hgr⟩

end Go.Proofs.YtilkcailpkebdaaGreat

/-
  treatylaw27.few, treatylaw27.awake: their contracts.
-/
namespace Go.Proofs.YtilkcailpkebdaaGreat
open Go.RowKit
set_option linter.unusedVariables false

theorem results_tmp4 {fn : Func} {t u v x : Tmp} (h : fn.results = #[.tmp t, .tmp u, .tmp v, .tmp x]) (tmps : Array Value) (P : Program) (w : World) :
    (results fn tmps).run P w = .ok (.tuple #[tmps.getD t undef, tmps.getD u undef, tmps.getD v undef, tmps.getD x undef]) w := by simp [results, h]

set_option maxHeartbeats 1000000 in
theorem few27_any (D : Option Addr) (dc : Nat) (deck : List Int) (E : Option Addr) (ec : Nat) (other : List Int) (w : World) (hD : Ints w 0 D deck) (hE : Ints w 0 E other) (hdl : deck.length ≤ 9223372036854775807) (hel : other.length ≤ 9223372036854775807) :
    Calls Tryz.prog 13 #[.slice D deck.length dc, .slice E other.length ec] w fun e w' => ∃ (LA : Option Addr) (lc : Nat) (los : List Los) (last : Int) (AA : Option Addr) (ac : Nat) (am : List Int) (n : Int) (B : Option Addr) (d : Nat) (ls : List P2),
      e = .returned (.tuple #[.slice LA los.length lc, .slice AA am.length ac, .int .i64 n, .slice B ls.length d]) ∧ los.length ≤ 10 ∧ MadeLos los last ∧ am.length = los.length ∧ (∀ x ∈ am, 0 ≤ x ∧ x < 268435456) ∧ 1 ≤ n ∧ n ≤ 72 ∧ 1 ≤ ls.length ∧ ls.length ≤ 3 ∧ ls.all okLay = true ∧
      Losses w' w.heap.size LA los ∧ Ints w' w.heap.size AA am ∧ Pairs w' w.heap.size B ls ∧ Below w.heap.size w w' := by
  have CN := Lib.hid (new_any D dc deck w hdl hD)
  have CE : Hid (∀ W, Ints W 0 E other → _) := fun W h => new_any E ec other W hel h
  obtain ⟨m, hm⟩ : ∃ m, m = deck.length := ⟨_, rfl⟩
  obtain ⟨o, ho⟩ : ∃ o, o = other.length := ⟨_, rfl⟩
  rw [← hm] at CN
  rw [← ho] at CE
  rw [← hm, ← ho]
  clear hm ho hdl hel
  go_enter Tryz.func13, Tryz.ntmps13
  go_wp2_with fail
  refine CN.out.mono ?_
  rintro e w1 ⟨rfl, hdk, hb1, hs1⟩
  clear hs1
  go_wp2_with fail
  refine (losses_any _ 10 _ (by omega) (by omega) hdk).mono ?_
  rintro e w2 ⟨v, los, last, rfl, hll, hlast, hmade, hown, hd2, hg2⟩
  have hb2 : Below w.heap.size w w2 := below_of_only hb1 hg2 (Nat.le_refl _)
  obtain ⟨LA, lc, rfl, _⟩ := own_shape hown
  have hL : Losses w2 w1.heap.size LA los := losses_of_own hown
  have hw1 : w.heap.size < w1.heap.size := hdk.lt
  have HMADE := Lib.hid hmade
  clear hown hmade
  go_wp2_with fail
  refine (amounts_any _ los.length _ (by omega) hd2).mono ?_
  rintro e w3 ⟨v, am, rfl, hal, ham, hown3, hd3, hg3⟩
  have hb3 : Below w.heap.size w w3 := below_of_only hb2 hg3 (Nat.le_refl _)
  obtain ⟨AA, ac, rfl, _⟩ := own_shape hown3
  have hA : Ints w3 w2.heap.size AA am := ints_of_own hown3
  have hL3 : Losses w3 w1.heap.size LA los := hL.grown hg3 (fun g hg => by injection hg with hg; omega)
  have HAM := Lib.hid ham
  have HAL := Lib.hid hal
  clear hown3 ham hL hal hg3 hg2 hd3 hd2 hdk
  go_wp2_with fail
  refine (CE.out _ (hE.below hb3)).mono ?_
  rintro e w4 ⟨rfl, hdk4, hb4, hs4⟩
  clear hs4
  have hb04 := hb3.trans (hb4.mono hb3.size)
  go_wp2_with fail
  refine (next_any _ 72 _ (by omega) (by omega) hdk4).mono ?_
  rintro e w5 ⟨r, rfl, hr0, hr1, hd5, hg5⟩
  go_wp2_with fail
  refine (layers_any _ _ hd5).mono ?_
  rintro e w6 ⟨v, ls, rfl, hl1, hl3, hall, hown6, hdk6, hg6⟩
  have hg56 := only_trans hg5 hg6
  have hb36 : Below w3.heap.size w3 w6 := below_of_only hb4 hg56 (Nat.le_refl _)
  have hb06 := hb3.trans (hb36.mono hb3.size)
  obtain ⟨B, d, rfl, _⟩ := own_shape hown6
  have hs5 := hg5.size
  have hs4 := hb4.size
  have hs3 := hb3.size
  have hs2 := hb2.size
  have hB : Pairs w6 w.heap.size B ls := (pairs_of_own hown6).low (by omega)
  have HALL := Lib.hid hall
  clear hall hown6
  go_wp2_with fail
  refine bodyPost_ret (results_tmp4 rfl _ _ _) rfl ?_
  exact ⟨LA, lc, los, last, AA, ac, am, 1 + r, B, d, ls, rfl, by omega, HMADE.out, HAL.out, HAM.out, by omega, by omega, hl1, hl3, HALL.out, (hL3.below hb36).low (by omega), (hA.below hb36).low hs2, hB, hb06⟩

end Go.Proofs.YtilkcailpkebdaaGreat

/-
  The spans that are chosen, in plain Lean.
-/
namespace Go.Proofs.YtilkcailpkebdaaGreat
open Go.RowKit

/-- The first index from j on at which the span that begins at the hour h0 attains the value r. -/
def findJ (L : Int) (ls : List P2) (h0 r : Int) : List P2 → List Int → Int → Nat → Option Nat
  | q :: qs, v :: vs, tot, j => if L ≤ q.a - h0 then none else if recVal (tot + q.b) ls + v = r then some j else findJ L ls h0 r qs vs (tot + q.b) (j + 1)
  | _, _, _, _ => none
def findAt (L : Int) (ls ps : List P2) (i : Nat) (h0 : Int) : Option Nat := findJ L ls h0 (valAt L ls ps i) (ps.drop i) (valsF L ls (ps.drop (i + 1))) 0 i
def spansF (L : Int) (ls ps : List P2) : Nat → Nat → List P2
  | 0, _ => []
  | f + 1, i => match ps[i]? with
    | none => []
    | some p => if valAt L ls ps i = valAt L ls ps (i + 1) then spansF L ls ps f (i + 1) else
      match findAt L ls ps i p.a with
      | none => spansF L ls ps f (i + 1)
      | some j => ⟨i, j⟩ :: spansF L ls ps f (j + 1)
def spansOf (ps : List P2) (L : Int) (ls : List P2) : List P2 := if chkErr ps L ls = 0 then spansF L ls ps ps.length 0 else []

section
variable {L : Int} {ls ps : List P2} {h0 r : Int}
theorem findJ_nil (vs : List Int) (t : Int) (j : Nat) : findJ L ls h0 r [] vs t j = none := by simp [findJ]
theorem findJ_found : ∀ (qs : List P2) (vs : List Int) (t b : Int) (j : Nat), scan L ls h0 qs vs t b = r → r ≠ b → ∃ k, findJ L ls h0 r qs vs t j = some k := by
  intro qs
  induction qs with
  | nil => intro vs t b j h hne; rw [scan_nil] at h; exact absurd h.symm hne
  | cons q qs ih =>
    intro vs t b j h hne
    cases vs with
    | nil => simp only [scan] at h; exact absurd h.symm hne
    | cons v vs =>
      simp only [scan] at h
      simp only [findJ]
      split at h
      · exact absurd h.symm hne
      · rename_i hL
        rw [if_neg hL]
        split
        · exact ⟨j, rfl⟩
        · rename_i hr
          refine ih vs _ _ (j + 1) h fun he => ?_
          rw [he] at hne hr
          unfold imax at hne hr
          split at hne
          · rename_i hlt; rw [if_pos hlt] at hr; exact hr rfl
          · exact hne rfl
theorem findJ_step {j j0 : Nat} {q : P2} {t : Int} {o : Option Nat} (hd : ps.drop j = q :: ps.drop (j + 1)) (h : findJ L ls h0 r (ps.drop j) (valsF L ls (ps.drop (j + 1))) t j0 = o) (hlt : q.a - h0 < L) (hne : recVal (t + q.b) ls + valAt L ls ps (j + 1) ≠ r) :
    findJ L ls h0 r (ps.drop (j + 1)) (valsF L ls (ps.drop (j + 2))) (t + q.b) (j0 + 1) = o := by
  rw [hd, valsF_split, findJ, if_neg (by omega), if_neg (by simpa [valAt] using hne)] at h
  rw [← h]
  rcases hc : ps.drop (j + 1) with _ | ⟨q', qs⟩
  · rw [findJ_nil, findJ_nil]
  · have : ps.drop (j + 2) = qs := by
      have h2 := congrArg List.tail hc
      simpa [List.tail_drop] using h2
    rw [this]
    simp [valsF]
theorem findJ_hit {j j0 : Nat} {q : P2} {t : Int} {o : Option Nat} (hd : ps.drop j = q :: ps.drop (j + 1)) (h : findJ L ls h0 r (ps.drop j) (valsF L ls (ps.drop (j + 1))) t j0 = o) (hlt : q.a - h0 < L) (he : recVal (t + q.b) ls + valAt L ls ps (j + 1) = r) : o = some j0 := by
  rw [hd, valsF_split, findJ, if_neg (by omega), if_pos (by simpa [valAt] using he)] at h
  exact h.symm
theorem findJ_far {j j0 : Nat} {q : P2} {t : Int} {o : Option Nat} (hd : ps.drop j = q :: ps.drop (j + 1)) (h : findJ L ls h0 r (ps.drop j) (valsF L ls (ps.drop (j + 1))) t j0 = o) (hle : L ≤ q.a - h0) : o = none := by
  rw [hd, valsF_split, findJ, if_pos hle] at h
  exact h.symm
theorem findJ_end {j0 : Nat} {t : Int} {vs : List Int} {o : Option Nat} (h : findJ L ls h0 r (ps.drop ps.length) vs t j0 = o) : o = none := by
  rw [List.drop_length, findJ_nil] at h; exact h.symm
end

section
variable {L : Int} {ls ps : List P2}
theorem findAt_some {i : Nat} {p : P2} (hd : ps.drop i = p :: ps.drop (i + 1)) (hne : valAt L ls ps i ≠ valAt L ls ps (i + 1)) : ∃ j, findAt L ls ps i p.a = some j :=
  findJ_found _ _ _ _ _ (scan_start hd) hne
theorem spans_eq {i f : Nat} {p : P2} (hp : ps[i]? = some p) (he : valAt L ls ps i = valAt L ls ps (i + 1)) : spansF L ls ps (f + 1) i = spansF L ls ps f (i + 1) := by
  simp [spansF, hp, he]
theorem spans_hit {i f j : Nat} {p : P2} (hp : ps[i]? = some p) (hne : valAt L ls ps i ≠ valAt L ls ps (i + 1)) (hf : findAt L ls ps i p.a = some j) : spansF L ls ps (f + 1) i = ⟨i, j⟩ :: spansF L ls ps f (j + 1) := by
  simp [spansF, hp, hne, hf]
theorem spans_end {i f : Nat} (hi : ps.length ≤ i) : spansF L ls ps f i = [] := by
  cases f with
  | zero => rfl
  | succ f => simp [spansF, List.getElem?_eq_none hi]
theorem findJ_ge {h0 r : Int} : ∀ (qs : List P2) (vs : List Int) (t : Int) (j k : Nat), findJ L ls h0 r qs vs t j = some k → j ≤ k ∧ k < j + qs.length := by
  intro qs
  induction qs with
  | nil => intro vs t j k h; rw [findJ_nil] at h; cases h
  | cons q qs ih =>
    intro vs t j k h
    cases vs with
    | nil => simp [findJ] at h
    | cons v vs =>
      simp only [findJ] at h
      split at h
      · cases h
      · split at h
        · injection h with h; simp only [List.length_cons]; omega
        · have := ih _ _ _ _ h; simp only [List.length_cons]; omega
theorem findAt_bd {i j : Nat} {h0 : Int} (h : findAt L ls ps i h0 = some j) : i ≤ j ∧ j < ps.length := by
  have := findJ_ge _ _ _ _ _ h
  rw [List.length_drop] at this; omega
end

theorem spansF_len (L : Int) (ls ps : List P2) : ∀ f i, (spansF L ls ps f i).length ≤ f := by
  intro f
  induction f with
  | zero => intro i; simp [spansF]
  | succ f ih =>
    intro i
    simp only [spansF]
    split
    · simp
    · split
      · have := ih (i + 1); omega
      · split
        · have := ih (i + 1); omega
        · rename_i j _; have := ih (j + 1); simp only [List.length_cons]; omega
theorem spansOf_len (ps : List P2) (L : Int) (ls : List P2) : (spansOf ps L ls).length ≤ ps.length := by
  unfold spansOf; split
  · exact spansF_len ..
  · simp

end Go.Proofs.YtilkcailpkebdaaGreat

/-
  Rows of a call's own behind the library's sort: the row put anew, cut, and the blocks that were made beside.
-/
namespace Go.Proofs.YtilkcailpkebdaaGreat
open Go.RowKit Go.Sort
set_option linter.unusedVariables false

theorem grown_grow (w : World) (os : Array Obj) : w.grownBy (Sort.grow w os) none :=
  ⟨rfl, rfl, rfl, by simp [Sort.grow], fun k hk _ => by simp only [Sort.grow]; rw [Array.getElem?_append_left hk]⟩
theorem heap_putRow {α : Type} [Inhabited α] (enc : α → Value) (w : World) (q blk off : Nat) (d : Array α) (k : Nat) : (putRow enc (Sort.ahead w q) blk off d).heap[k]? = if blk = k then (w.heap[k]?).map (onCells (putCells enc off d)) else w.heap[k]? := by
  unfold putRow mapBlock
  simp [Array.getElem?_modify]
theorem grown_putRow {α : Type} [Inhabited α] (enc : α → Value) (w : World) (q blk off : Nat) (d : Array α) : w.grownBy (putRow enc (Sort.ahead w q) blk off d) (some blk) :=
  ⟨rfl, rfl, rfl, by simp, fun k hk hne => by rw [heap_putRow, if_neg (fun h => hne (by rw [h]))]⟩
theorem flat_V1 (ys : List Int) : ys.flatMap V1 = ys.map (Value.int .i64) := by
  induction ys with
  | nil => rfl
  | cons y ys ih => simp [V1, ih]
theorem holds_of_own {w : World} {base g n cap : Nat} {e : TypeId} {zs : List Int} (h : w.ownsRow base e 1 (.slice (some ⟨g, 0, none⟩) n cap) n (zs.flatMap V1)) (hn : n = zs.length) : Holds (Value.int .i64) w g 0 zs.toArray := by
  intro j hj
  have hj' : j < zs.length := by simpa using hj
  subst hn
  refine ⟨?_, ?_⟩
  · rw [Nat.zero_add, h.cellAt j (by omega), flat_V1, List.getElem?_map, List.getElem?_eq_getElem hj']
    simp [getElem!_pos, hj']
  · rw [Nat.zero_add]; exact h.frozenAt j
theorem own_putRow {w : World} {base g n cap q : Nat} {e : TypeId} {xs : List Value} (h : w.ownsRow base e 1 (.slice (some ⟨g, 0, none⟩) n cap) n xs) (ys : List Int) (hy : ys.length = n) :
    (putRow (Value.int .i64) (Sort.ahead w q) g 0 ys.toArray).ownsRow base e 1 (.slice (some ⟨g, 0, none⟩) n cap) n (ys.flatMap V1) := by
  rcases h.2 with ⟨hv, _⟩ | ⟨g', cap', cur, hv, hb, hh, hnc, hcm, hsz, ht⟩
  · injection hv with h1; cases h1
  obtain ⟨rfl, rfl⟩ : g = g' ∧ cap = cap' := by injection hv with h1 h2 h3; injection h1 with h1; injection h1 with h1; exact ⟨h1, h3⟩
  refine ⟨by rw [flat_V1, List.length_map]; omega, .inr ⟨g, cap, putCells (Value.int .i64) 0 ys.toArray cur, rfl, hb, ?_, hnc, hcm, by simp [putCells, hsz], ?_⟩⟩
  · rw [heap_putRow, if_pos rfl, hh]; rfl
  · rw [flat_V1]
    apply List.ext_getElem?
    intro i
    by_cases hi : i < n
    · rw [List.getElem?_take_of_lt (by omega)]
      have hi1 : i < cur.size := by omega
      have hi2 : i < ys.length := by omega
      simp [putCells, hi1, hi2]
    · rw [List.getElem?_eq_none (by simp; omega), List.getElem?_eq_none (by simp; omega)]
theorem own_cut {w : World} {base g n m cap : Nat} {e : TypeId} {zs : List Int} {r : List Int} (h : w.ownsRow base e 1 (.slice (some ⟨g, 0, none⟩) n cap) n ((zs ++ r).flatMap V1)) (hm : m = zs.length) (hmn : m ≤ n) :
    w.ownsRow base e 1 (.slice (some ⟨g, 0, none⟩) m cap) m (zs.flatMap V1) := by
  rcases h.2 with ⟨hv, _⟩ | ⟨g', cap', cur, hv, hb, hh, hnc, hcm, hsz, ht⟩
  · injection hv with h1; cases h1
  obtain ⟨rfl, rfl⟩ : g = g' ∧ cap = cap' := by injection hv with h1 h2 h3; injection h1 with h1; injection h1 with h1; exact ⟨h1, h3⟩
  refine ⟨by rw [flat_V1, List.length_map]; omega, .inr ⟨g, cap, cur, rfl, hb, hh, by omega, hcm, hsz, ?_⟩⟩
  have h2 : (cur.toList.take (n * 1)).take m = zs.flatMap V1 := by
    rw [ht, List.flatMap_append, List.take_append_of_le_length (by rw [flat_V1, List.length_map]; omega), List.take_of_length_le (by rw [flat_V1, List.length_map]; omega)]
  rw [List.take_take, Nat.min_eq_left (by omega)] at h2
  rw [Nat.mul_one]; exact h2

end Go.Proofs.YtilkcailpkebdaaGreat
