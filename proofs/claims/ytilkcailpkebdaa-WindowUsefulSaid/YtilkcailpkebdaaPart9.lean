/-
  Texts of the proof of WindowUseful, one after the other.
-/
import Derived.Test.YtilkcailpkebdaaPart3
import Derived.Test.YtilkcailpkebdaaPart7
import Derived.Test.YtilkcailpkebdaaPart8
import Derived.RegionTactic
import Derived.Test.YtilkcailpkebdaaPart1
import Derived.ProofKit
import Derived.OpenShut
import Derived.ChangeOld
import Derived.Below
import Derived.Deep.Slices
import Derived.Deep.Fields
import Derived.ChangeSame

/-
  treatylaw26.WindowUseful: the law's walk.
-/
namespace Go.Proofs.Ytilkcailpkebdaa
open Go.RowKit
set_option linter.unusedVariables false

set_option maxRecDepth 100000 in
set_option maxHeartbeats 4000000 in
theorem lawUseful (D : Option Addr) (dc : Nat) (deck : List Int) (O : Option Addr) (oc : Nat) (other : List Int) (w : World)
    (hD : Ints w 0 D deck) (hO : Ints w 0 O other) (hdl : deck.length ≤ 9223372036854775807) (hol : other.length ≤ 9223372036854775807) :
    Calls Try.prog 6 #[.slice D deck.length dc, .slice O other.length oc] w fun e w' => e = .returned (.bool true) ∧ Below w.heap.size w w' := by
  have C1 := Lib.hid (few26_any D dc deck w hD hdl)
  have C2 : Hid (∀ W, Ints W 0 O other → _) := fun W h => terms26_any O oc other W h hol
  obtain ⟨m0, hm0⟩ : ∃ k, k = deck.length := ⟨_, rfl⟩
  obtain ⟨o, ho⟩ : ∃ k, k = other.length := ⟨_, rfl⟩
  rw [← hm0] at C1
  rw [← ho] at C2
  rw [← hm0, ← ho]
  clear hm0 ho hdl hol
  go_enter Try.func6, Try.ntmps6
  go_wp2_with fail
  refine C1.out.mono ?_
  rintro e w1 ⟨LA, lc, los, last, AA, ac, am, rfl, hl10, hmade, hal, hall, hLo, hAm, hb1⟩
  have hL1 : Losses w1 0 LA los := hLo.low (Nat.zero_le _)
  have hA1 : Ints w1 0 AA am := hAm.low (Nat.zero_le _)
  have HCE := Lib.hid (chkE_made hmade (by omega) hal hall)
  clear hmade hall hLo hAm C1
  go_wp2_with fail
  refine (C2.out _ (hO.below hb1)).mono ?_
  rintro e w2 ⟨N, G, gc, ls, rfl, hN1, hN2, hl1, hl3, hlall, hG, hb2⟩
  have hG2 : Pairs w2 0 G ls := hG.low (Nat.zero_le _)
  have hb02 := hb1.trans (hb2.mono hb1.size)
  have HRE := Lib.hid (rec_ok (t := 0) (ls := ls) (by omega) hlall (by omega)).1
  have hL2 := hL1.below hb2
  have hA2 := hA1.below hb2
  clear hlall hG C2 hL1 hA1
  have HBA := Lib.hid (best_all HCE.out HRE.out hN1 (show N ≤ 8784 by omega))
  have HUS : Hid (∀ x ∈ bestW los am N ls, ((los.zip am).any (hitB x.peril x.fr) = true ∧ (los.zip am).any (hitB x.peril (x.to - 1)) = true) ∧ 0 ≤ x.peril ∧ x.peril ≤ 15 ∧ 0 ≤ x.fr ∧ x.fr < x.to ∧ x.to ≤ 876600) := fun x hx => by
    rw [HBA.out.2.1] at hx
    exact ⟨best_useful hx, best_range HCE.out hN1 (show N ≤ 8784 by omega) hx⟩
  have HRP : Hid (∀ r ∈ bestR los am N ls, 0 < r ∧ r ≤ 281474976710656) := fun r hr => by
    refine ⟨HBA.out.2.2.2.2.2 r hr, ?_⟩
    rw [HBA.out.2.2.2.1] at hr
    obtain ⟨x, _, rfl⟩ := List.mem_map.1 hr
    exact (recVal_bd _ _).2
  have hm10 : (bestF los am N ls).length ≤ 10 := Nat.le_trans best_len hl10
  have e1 : (bestW los am N ls).length = (bestF los am N ls).length := by rw [HBA.out.2.1]
  have e2 : (bestT los am N ls).length = (bestF los am N ls).length := by rw [HBA.out.2.2.1, List.length_map]
  have e3 : (bestR los am N ls).length = (bestF los am N ls).length := by rw [HBA.out.2.2.2.1, List.length_map]
  have E2 := Lib.hid (wbest_any LA lc los AA ac am N G gc ls w2 (by omega) (by omega) (by omega) hL2 hA2 hG2)
  rw [HBA.out.1, e1, e2, e3] at E2
  obtain ⟨ws, hws⟩ : ∃ k, k = bestW los am N ls := ⟨_, rfl⟩
  obtain ⟨rs, hrs⟩ : ∃ k, k = bestR los am N ls := ⟨_, rfl⟩
  obtain ⟨ts, hts⟩ : ∃ k, k = bestT los am N ls := ⟨_, rfl⟩
  rw [← hws, ← hrs, ← hts] at E2
  rw [← hws] at HUS e1
  rw [← hrs] at HRP e3
  obtain ⟨m, hm⟩ : ∃ k, k = (bestF los am N ls).length := ⟨_, rfl⟩
  rw [← hm] at E2 hm10 e1 e3
  obtain ⟨gs, hgs⟩ : ∃ k, k = sumI rs := ⟨_, rfl⟩
  rw [← hgs] at E2
  have HGS := Lib.hid hgs
  have HE1 := Lib.hid e1
  have HE3 := Lib.hid e3
  obtain ⟨nl, hnl⟩ : ∃ k, k = los.length := ⟨_, rfl⟩
  have hna : am.length = nl := by omega
  rw [← hnl, hna] at E2
  rw [← hnl]
  rw [← hnl] at hl10
  have HNL := Lib.hid hnl
  have HNA := Lib.hid hna
  have HZL : Hid ((los.zip am).length ≤ nl) := by show _ ≤ _; rw [List.length_zip, ← HNL.out]; omega
  obtain ⟨ng, hng⟩ : ∃ k, k = ls.length := ⟨_, rfl⟩
  rw [← hng] at E2
  rw [← hng]
  clear hws hrs hts hm hgs e1 e2 e3 hnl hna hng HBA hal hl1 hl3 hG2
  go_wp2_with fail
  refine E2.out.mono ?_
  rintro e w3 ⟨W, wc, T, tc, R, rc, rfl, hW, _, hR, hb3, _⟩
  obtain ⟨v5, hv5⟩ : ∃ x : World, x = w3.alloc (.cells #[.slice W m wc, .slice T m tc, .slice R m rc, .int .i64 gs] 46) := ⟨_, rfl⟩
  obtain ⟨p1, hp1⟩ : ∃ x : Nat, x = w3.heap.size := ⟨_, rfl⟩
  have hB1 : v5.heap[p1]? = some (.cells #[.slice W m wc, .slice T m tc, .slice R m rc, .int .i64 gs] 46 (0, 0)) := by rw [hv5, hp1]; exact heap_alloc_new _ _
  have hX1 : Below w3.heap.size w3 v5 := by rw [hv5]; exact below_alloc _ _
  have hb25 := hb3.trans (hX1.mono hb3.size)
  have hL5 := hL2.below hb25
  have hA5 := hA2.below hb25
  have hW5 : Wins v5 0 W ws := (hW.below hX1).low (Nat.zero_le _)
  have hR5 : Ints v5 0 R rs := (hR.below hX1).low (Nat.zero_le _)
  have hb05 := hb02.trans (hb25.mono hb02.size)
  have hp1l := lt_of_heap0 hB1
  have c0 : v5.cell? ⟨p1, 0, none⟩ = some (.slice W m wc) := by simp [World.cell?, hB1]
  have c1 : v5.cell? ⟨p1, 1, none⟩ = some (.slice T m tc) := by simp [World.cell?, hB1]
  have c2 : v5.cell? ⟨p1, 2, none⟩ = some (.slice R m rc) := by simp [World.cell?, hB1]
  have q1 : ((m : Int) != (m : Int)) = false := by simp
  have q2 : (m != m) = false := by simp
  clear hW hR hX1 hb3 hb25 E2 hL2 hA2
  go_upto_region 4 with fail
  rw [← hv5, ← hp1]
  clear hv5 hp1
  go_wp2_with fail
  go_loopw [11, 12, 13, 14, 15, 16, 17, 18, 60] (fun s11 _ _ _ _ _ _ _ ii wr => ∃ i : Nat, i ≤ m ∧ ii = .int .i64 i ∧ s11 = .int .i64 (sumI (rs.take i)) ∧ Below v5.heap.size v5 wr) (fun _ _ _ _ _ _ _ _ ii _ => m - (intOf ii).toNat)
  case atStart => exact ⟨0, Nat.zero_le _, rfl, rfl, Below.refl _ _⟩
  case round =>
    obtain ⟨i, hi, rfl, rfl, hbr⟩ := hrel
    obtain ⟨wo, hwo⟩ : ∃ wo : World, wo = wr := ⟨_, rfl⟩
    rw [← hwo] at hbr ⊢
    clear hwo
    obtain ⟨sm, hsm⟩ : ∃ k, k = sumI (rs.take i) := ⟨_, rfl⟩
    rw [← hsm]
    have HSM := Lib.hid hsm
    clear hsm c0 c1 c2
    have hBo := (hbr.block p1 hp1l).trans hB1
    by_cases hin : i < m
    case neg =>
      obtain rfl : i = m := by omega
      have hsg : sm = gs := by rw [HSM.out, HGS.out, List.take_of_length_le (by rw [HE3.out]; exact Nat.le_refl _)]
      have q3 : (sm == gs) = true := by simpa using hsg
      have c3 : wo.cell? ⟨p1, 3, none⟩ = some (.int .i64 gs) := by simp [World.cell?, hBo]
      clear hsg
      have hb0 := hb05.trans (hbr.mono hb05.size)
      go_wp2_with (go_at_call 27; refine (awake26_any _).mono ?_; rintro e w11 ⟨rfl, hb11⟩)
      go_ret
      exact ⟨rfl, hb0.trans (hb11.mono hb0.size)⟩
    obtain ⟨x, hx, _⟩ := drop_cons (xs := ws) (i := i) (by rw [HE1.out]; exact hin)
    obtain ⟨r, hr, _⟩ := drop_cons (xs := rs) (i := i) (by rw [HE3.out]; exact hin)
    obtain ⟨⟨hu1, hu2⟩, x1, x2, x3, x4, x5⟩ := HUS.out x (List.mem_of_getElem? hx)
    have hrp := HRP.out r (List.mem_of_getElem? hr)
    have hbd := sumI_take_bd HRP.out (by omega) i
    rw [← HSM.out, HE3.out] at hbd
    have HNX := Lib.hid (sumI_take_next hr)
    rw [← HSM.out] at HNX
    have HU1 := Lib.hid hu1
    have HU2 := Lib.hid hu2
    obtain ⟨b1, o1, rfl, _, hb1l, y0, y1, y2⟩ := (hW5.below hbr).at_ hx
    obtain ⟨b2, o2, e2, _, hb2l, r0⟩ := (hR5.below hbr).at_ hr
    subst e2
    obtain ⟨wb, hwb⟩ : ∃ wb : World, wb = wo.alloc (.cells #[.int .i64 x.peril, .int .i64 x.fr, .int .i64 x.to] 53) := ⟨_, rfl⟩
    obtain ⟨bx, hbx⟩ : ∃ bx, bx = wo.heap.size := ⟨_, rfl⟩
    have hbox : wb.heap[bx]? = some (.cells #[.int .i64 x.peril, .int .i64 x.fr, .int .i64 x.to] 53 (0, 0)) := by rw [hwb, hbx]; exact heap_alloc_new _ _
    have hbb : Below wo.heap.size wo wb := by rw [hwb]; exact below_alloc _ _
    have hbxl := lt_of_heap0 hbox
    have hbvb := hbr.trans (hbb.mono hbr.size)
    have hBb := (hbb.block p1 (lt_of_heap0 hBo)).trans hBo
    have r0' : wb.cell? ⟨b2, o2 + i, none⟩ = some (.int .i64 r) := (hbb.cell (p := ⟨b2, _, none⟩) hb2l).trans r0
    have hb2l' : b2 < wb.heap.size := Nat.lt_of_lt_of_le hb2l hbb.size
    have him : (i : Int) < (m : Int) := by omega
    clear hx hr hu1 hu2
    go_upto_region 10 with fail
    rw [← hwb, ← hbx]
    clear hwb hbx
    go_wp2_with fail
    go_loopw [14, 15, 16, 17, 18, 67] (fun s14 s15 _ _ _ ii wq => ∃ k : Nat, k ≤ nl ∧ ii = .int .i64 k ∧ s14 = .bool (hitTo (los.zip am) x.peril x.fr k) ∧ s15 = .bool (hitTo (los.zip am) x.peril (x.to - 1) k) ∧ Below wb.heap.size wb wq) (fun _ _ _ _ _ ii _ => nl - (intOf ii).toNat)
    case atStart => exact ⟨0, Nat.zero_le _, rfl, rfl, rfl, Below.refl _ _⟩
    case round =>
      obtain ⟨k, hk, rfl, rfl, rfl, hbq⟩ := hrel
      obtain ⟨wq, hwq⟩ : ∃ wq : World, wq = wr := ⟨_, rfl⟩
      rw [← hwq] at hbq ⊢
      clear hwq
      by_cases hkn : k < nl
      case neg =>
        obtain rfl : k = nl := by omega
        have t1 : hitTo (los.zip am) x.peril x.fr k = true := hit_all HU1.out HZL.out
        have t2 : hitTo (los.zip am) x.peril (x.to - 1) k = true := hit_all HU2.out HZL.out
        rw [t1, t2]
        have hBq := (hbq.block p1 (lt_of_heap0 hBb)).trans hBb
        have c2 : wq.cell? ⟨p1, 2, none⟩ = some (.slice (some ⟨b2, o2, none⟩) m rc) := by simp [World.cell?, hBq]
        have r1 : wq.cell? ⟨b2, o2 + i, none⟩ = some (.int .i64 r) := (hbq.cell (p := ⟨b2, _, none⟩) hb2l').trans r0'
        have q4 : decide (r ≤ 0) = false := by simp; omega
        have hwr : IntKind.i64.wrap (sm + r) = sm + r := IntWalk.i64_in _ (by omega)
        have hbv := hbvb.trans (hbq.mono hbvb.size)
        clear t1 t2
        go_wp2_with fail
        go_roundw
        case rel => exact ⟨i + 1, by omega, by go_num, by rw [HNX.out], hbv⟩
        case measure => simp [intOf]; omega
      obtain ⟨l, hl, _⟩ := drop_cons (xs := los) (i := k) (by rw [← HNL.out]; exact hkn)
      obtain ⟨a, ha, _⟩ := drop_cons (xs := am) (i := k) (by rw [HNA.out]; exact hkn)
      have hbvq := hbvb.trans (hbq.mono hbvb.size)
      obtain ⟨b3, o3, rfl, _, hb3l, l0, l1, l2, l3, l4, l5, l6, l7, l8, l9⟩ := (hL5.below hbvq).at_ hl
      obtain ⟨b4, o4, rfl, _, hb4l, a0⟩ := (hA5.below hbvq).at_ ha
      have N1 := Lib.hid (hit_next (p := x.peril) (t := x.fr) (zip_get hl ha))
      have N2 := Lib.hid (hit_next (p := x.peril) (t := x.to - 1) (zip_get hl ha))
      obtain ⟨f, hf⟩ : ∃ f, f = hitTo (los.zip am) x.peril x.fr k := ⟨_, rfl⟩
      obtain ⟨g, hg⟩ : ∃ g, g = hitTo (los.zip am) x.peril (x.to - 1) k := ⟨_, rfl⟩
      rw [← hf, ← hg]
      rw [← hf] at N1
      rw [← hg] at N2
      obtain ⟨wl, hwl⟩ : ∃ wl : World, wl = wq.alloc (.cells #[.int .i64 l.id, .int .i64 l.pol, .int .i64 l.risk, .int .i64 l.hour, .int .i64 l.peril, .int .i64 l.area, .int .i64 l.cur, .int .i64 l.sum, .int .i64 l.amt, .int .i64 l.paid] 55) := ⟨_, rfl⟩
      obtain ⟨bl, hbl⟩ : ∃ bl, bl = wq.heap.size := ⟨_, rfl⟩
      have hql : Below wq.heap.size wq wl := by rw [hwl]; exact below_alloc _ _
      have hbl' : Below wb.heap.size wb wl := hbq.trans (hql.mono hbq.size)
      have hboxl := (hbl'.block bx hbxl).trans hbox
      have z0 : wl.cell? ⟨bx, 0, none⟩ = some (.int .i64 x.peril) := by simp [World.cell?, hboxl]
      have z1 : wl.cell? ⟨bx, 1, none⟩ = some (.int .i64 x.fr) := by simp [World.cell?, hboxl]
      have z2 : wl.cell? ⟨bx, 2, none⟩ = some (.int .i64 x.to) := by simp [World.cell?, hboxl]
      have u3 : wl.cell? ⟨bl, 3, none⟩ = some (.int .i64 l.hour) := by rw [hwl, hbl]; simp
      have u4 : wl.cell? ⟨bl, 4, none⟩ = some (.int .i64 l.peril) := by rw [hwl, hbl]; simp
      have a1 : wl.cell? ⟨b4, o4 + k, none⟩ = some (.int .i64 a) := (hql.cell (p := ⟨b4, _, none⟩) hb4l).trans a0
      have hkn' : (k : Int) < (nl : Int) := by omega
      have hwt : IntKind.i64.wrap (x.to - 1) = x.to - 1 := IntWalk.i64_in _ (by omega)
      go_upto_region 14 with fail
      rw [← hwl, ← hbl]
      clear hwl hbl hf hg hl ha hql hbq
      rcases (show (l.peril ≠ x.peril) ∨ (l.peril = x.peril ∧ ¬ 0 < a) ∨ (l.peril = x.peril ∧ 0 < a) by omega) with h | h | h
      · have q5 : (l.peril == x.peril) = false := by simpa using h
        have B1 : Hid (∀ t, hitB x.peril t (l, a) = false) := fun t => by simp [hitB, h]
        rw [B1.out] at N1 N2
        clear h
        cases f <;> cases g
        all_goals go_wp2_with fail
        all_goals go_quiet (fail)
        all_goals go_wp2_with fail
        all_goals go_roundw
        all_goals first
          | exact ⟨k + 1, by omega, by go_num, by rw [N1.out]; rfl, by rw [N2.out]; rfl, below_drewN hbl' _⟩
          | (simp [intOf]; omega)
      · have q5 : (l.peril == x.peril) = true := by simpa using h.1
        have q6 : decide (0 < a) = false := by simpa using h.2
        have B1 : Hid (∀ t, hitB x.peril t (l, a) = false) := fun t => by simp only [hitB]; rw [q6]; simp
        rw [B1.out] at N1 N2
        clear h
        cases f <;> cases g
        all_goals go_wp2_with fail
        all_goals go_quiet (fail)
        all_goals go_wp2_with fail
        all_goals go_roundw
        all_goals first
          | exact ⟨k + 1, by omega, by go_num, by rw [N1.out]; rfl, by rw [N2.out]; rfl, below_drewN hbl' _⟩
          | (simp [intOf]; omega)
      · have q5 : (l.peril == x.peril) = true := by simpa using h.1
        have q6 : decide (0 < a) = true := by simpa using h.2
        have B1 : Hid (∀ t, hitB x.peril t (l, a) = (l.hour == t)) := fun t => by simp only [hitB]; rw [q6]; simp [h.1]; rfl
        rw [B1.out] at N1 N2
        clear h
        cases f <;> cases g
        all_goals go_wp2_with fail
        all_goals go_quiet (fail)
        all_goals go_wp2_with fail
        all_goals go_roundw
        all_goals first
          | exact ⟨k + 1, by omega, by go_num, by rw [N1.out]; simp, by rw [N2.out]; simp, below_drewN hbl' _⟩
          | (simp [intOf]; omega)

end Go.Proofs.Ytilkcailpkebdaa

/-
  Arguments that came in: slices of ints and of structs of ints, opened to cells.
-/
namespace Go.Proofs.Ytilkcailpkebdaa
open Go.ChangeShapes Go.WideShapes Go.Deep Go.RowKit
set_option linter.unusedVariables false

theorem addr_add_none (b off i : Nat) : (({ block := b, off := off } : Addr).add i) = ⟨b, off + i, none⟩ := by
  unfold Addr.add; split
  · rename_i h; rw [h]; simp
  · rfl

section
variable {H : Type} {enc : TypeId × Value → H} {P : Program} {w : World} {spare : Nat → Bool} {held : Bool}

theorem open_rows {t e : TypeId} {fs : Array Field} {fuel : Nat} {cs : List Value} {x : DataW H × List MemPlace} (ht : P.underlying t = some (.slice e)) (he : P.underlying e = some (.struct fs))
    (hone : oneCellFields P fs = true) (hC : P.cellsOf e = fs.size) (hint : ∀ (j : Nat) (f : Field), fs[j]? = some f → P.underlying f.type = some (.int .i64)) (h0 : 0 < fs.size)
    (h : DataW.trod enc P w 0 (fun _ => true) held fuel t cs = some x) :
    ∃ (A : Option Addr) (n c : Nat) (F : Nat → Nat → Int), cs = [.slice A n c] ∧ n ≤ c ∧ c ≤ maxLen ∧ (0 < n → ∃ b off, A = some ⟨b, off, none⟩ ∧ b < w.heap.size ∧ ∀ i, i < n → ∀ j, j < fs.size → w.cell? ⟨b, off + i * fs.size + j, none⟩ = some (.int .i64 (F i j))) := by
  rcases open_slice ht h with ⟨rfl, _⟩ | ⟨a, len, cap, m, n, D, Pl, hcs, hb, hl, hm, hmm, hx, hi⟩
  · exact ⟨none, 0, 0, fun _ _ => 0, rfl, Nat.le_refl _, Nat.zero_le _, fun h => absurd h (by omega)⟩
  · have hcell : ∀ i j, i < m → j < fs.size → ∃ z : Int, w.cell? (a.add (i * fs.size + j)) = some (.int .i64 z) := by
      intro i j him hj
      obtain ⟨cs', hc, ht'⟩ := hi i him
      rw [hC] at hc
      obtain ⟨ys, n', hn', hy, hlen, hyl, hf⟩ := DataW.trod_struct he ht'
      obtain ⟨_, hcl, hat⟩ := World.cells?_some hc
      obtain ⟨f, hfj⟩ : ∃ f, fs[j]? = some f := ⟨_, Array.getElem?_eq_getElem hj⟩
      obtain ⟨ho, hk⟩ := hone_of hone j f hfj
      have h1 := hf j f hfj
      rw [ho, hk] at h1
      have hone' : (cs'.drop j).take 1 = [cs'[j]'(by omega)] := by
        rw [List.drop_eq_getElem_cons (by omega)]
        rfl
      rw [hone'] at h1
      have hys : ys[j]? = some (ys[j]'(by omega)) := List.getElem?_eq_getElem (by omega)
      obtain ⟨z, e0, _, _⟩ := DataW.trod_int (hint j f hfj) (h1.trans hys)
      refine ⟨z, ?_⟩
      rw [← Go.Deep.add_add, hat j hj, List.getElem?_eq_getElem (by omega)]
      simp only [List.cons.injEq, and_true] at e0
      rw [e0]
    have hm2 : len ≤ m := by rw [hmm]; split <;> omega
    refine ⟨some a, len, cap, fun i j => if hh : i < m ∧ j < fs.size then (hcell i j hh.1 hh.2).choose else 0, hcs, hl, hm, fun hp => ?_⟩
    obtain ⟨z, hz⟩ := hcell 0 0 (by omega) h0
    obtain ⟨b, off, sp⟩ := a
    have hz' : w.cell? ⟨b, off, sp⟩ = some (.int .i64 z) := by simpa [Addr.add] using hz
    obtain rfl : sp = none := by simpa using World.cell?_spot hz'
    refine ⟨b, off, rfl, World.block_lt_of_cell? w _ hz', fun i hin j hj => ?_⟩
    have hh : i < m ∧ j < fs.size := ⟨by omega, hj⟩
    have := (hcell i j hh.1 hh.2).choose_spec
    have hadd : (({ block := b, off := off } : Addr).add (i * fs.size + j)) = ⟨b, off + i * fs.size + j, none⟩ := by rw [addr_add_none, Nat.add_assoc]
    dsimp only
    rw [dif_pos hh]
    exact (congrArg w.cell? hadd.symm).trans this

theorem open_pairs {r : Reach} {b0 : Nat} {t e : TypeId} {f0 f1 : Field} {v : Value} {d : DataW H} {p : List MemPlace} (ht : P.underlying t = some (.slice e)) (he : P.underlying e = some (.struct #[f0, f1]))
    (hone : oneCellFields P #[f0, f1] = true) (hC : P.cellsOf e = 2) (i0 : P.underlying f0.type = some (.int .i64)) (i1 : P.underlying f1.type = some (.int .i64))
    (hv : Value.okWide P w r b0 t v) (h : DataW.Trod enc P w 0 (fun _ => true) held t v d p) :
    ∃ (A : Option Addr) (c : Nat) (xs : List P2), v = .slice A xs.length c ∧ Pairs w 0 A xs ∧ xs.length ≤ 9223372036854775807 := by
  obtain ⟨a0, len, cap, rfl⟩ := okWide_slice ht hv
  obtain ⟨fuel, hf⟩ := h
  obtain ⟨A, n, c, F, hcs, hnc, hcm, hc⟩ := open_rows ht he hone (by simpa using hC) (fun j f hj => by
    match j, hj with
    | 0, hj => simp at hj; subst hj; exact i0
    | 1, hj => simp at hj; subst hj; exact i1
    | j + 2, hj => simp at hj) (by simp) hf
  simp [Value.cells] at hcs
  obtain ⟨rfl, rfl, rfl⟩ := hcs
  refine ⟨a0, cap, (List.range len).map fun i => ⟨F i 0, F i 1⟩, by simp, fun hp => ?_, by simp; unfold maxLen at hcm; omega⟩
  obtain ⟨b, off, e0, hb, hcell⟩ := hc (by simpa using hp)
  refine ⟨b, off, e0, Nat.zero_le _, hb, fun i x hx j u hu => ?_⟩
  simp only [List.getElem?_map, Option.map_eq_some_iff] at hx
  obtain ⟨y, ⟨k, hk, rfl⟩, rfl⟩ := hx
  obtain ⟨hkl, hk⟩ := List.getElem?_eq_some_iff.1 hk
  have hki : k = i := by simpa using hk.symm
  subst hki
  have hlen : k < len := by simpa using hkl
  match j, hu with
  | 0, hu => simp [P2.cells] at hu; subst hu; exact hcell k hlen 0 (by simp)
  | 1, hu => simp [P2.cells] at hu; subst hu; exact hcell k hlen 1 (by simp)
  | j + 2, hu => simp [P2.cells] at hu

theorem open_intsL {r : Reach} {b0 : Nat} {t e : TypeId} {v : Value} {d : DataW H} {p : List MemPlace} (ht : P.underlying t = some (.slice e)) (he : P.underlying e = some (.int .i64)) (hC : P.cellsOf e = 1)
    (hv : Value.okWide P w r b0 t v) (h : DataW.Trod enc P w 0 (fun _ => true) held t v d p) :
    ∃ (A : Option Addr) (c : Nat) (xs : List Int), v = .slice A xs.length c ∧ Ints w 0 A xs ∧ xs.length ≤ 9223372036854775807 := by
  obtain ⟨a0, len, cap, rfl⟩ := okWide_slice ht hv
  obtain ⟨fuel, hf⟩ := h
  rcases open_ints ht he hC hf with ⟨hcs, _⟩ | ⟨x, l, c, zs, hcs, _, hl, hm, hz, _, hcell, hwz⟩
  · simp [Value.cells] at hcs
    obtain ⟨rfl, rfl, rfl⟩ := hcs
    exact ⟨none, 0, [], rfl, Sl.none_, by simp⟩
  · simp [Value.cells] at hcs
    obtain ⟨rfl, rfl, rfl⟩ := hcs
    have hzl : len ≤ zs.length := by simp at hz; omega
    refine ⟨some x, cap, zs.take len, by simp [hzl], fun hp => ?_, by simp; unfold maxLen at hm; omega⟩
    have hp' : 0 < len := by simp at hp; omega
    have hc0 := hcell 0 (by omega)
    obtain ⟨b, off, sp⟩ := x
    have hz' : w.cell? ⟨b, off, sp⟩ = some (.int .i64 (zs.getD 0 0)) := by simpa [Addr.add] using hc0
    obtain rfl : sp = none := by simpa using World.cell?_spot hz'
    refine ⟨b, off, rfl, Nat.zero_le _, World.block_lt_of_cell? w _ hz', fun i x hx j u hu => ?_⟩
    rw [List.getElem?_map, Option.map_eq_some_iff] at hx
    obtain ⟨y, hy, rfl⟩ := hx
    match j, hu with
    | 0, hu =>
      simp [V1] at hu
      subst hu
      rw [List.getElem?_take] at hy
      split at hy
      · have hi := (List.getElem?_eq_some_iff.1 hy).1
        have := hcell i hi
        rw [show zs.getD i 0 = y by simp [hy]] at this
        simpa [addr_add_none] using this
      · cases hy
    | j + 1, hu => simp [V1] at hu
end

end Go.Proofs.Ytilkcailpkebdaa

/-
  Slices of structs of ints that came in, opened: the list, the capacity, and that nil has none.
-/
namespace Go.Proofs.Ytilkcailpkebdaa
open Go.ChangeShapes Go.WideShapes Go.Deep Go.RowKit
set_option linter.unusedVariables false

section
variable {H : Type} {enc : TypeId × Value → H} {P : Program} {w : World} {spare : Nat → Bool} {held : Bool}

theorem open_cap {t e : TypeId} {fuel : Nat} {A : Option Addr} {n c : Nat} {x : DataW H × List MemPlace} (ht : P.underlying t = some (.slice e))
    (h : DataW.trod enc P w 0 (fun _ => true) held fuel t [.slice A n c] = some x) : A = none → c = 0 := by
  rcases open_slice ht h with ⟨hcs, _⟩ | ⟨a, len, cap, m, n', D, Pl, hcs, _⟩
  · intro _; simp at hcs; exact hcs.2.2
  · intro hA; simp at hcs; rw [hA] at hcs; cases hcs.1

theorem open_recs {α : Type} (ec : α → List Value) (mk : (Nat → Int) → α) (k : Nat) (hk : ∀ x, (ec x).length = k) (hmk : ∀ f j, j < k → (ec (mk f))[j]? = some (.int .i64 (f j))) (hk0 : 0 < k)
    {r : Reach} {b0 : Nat} {t e ti : TypeId} {fs : Array Field} {v : Value} {d : DataW H} {p : List MemPlace} (ht : P.underlying t = some (.slice e)) (he : P.underlying e = some (.struct fs)) (hfs : fs.size = k)
    (hone : oneCellFields P fs = true) (hC : P.cellsOf e = k) (hall : fs.all (fun f => f.type == ti) = true) (hti : P.underlying ti = some (.int .i64))
    (hv : Value.okWide P w r b0 t v) (h : DataW.Trod enc P w 0 (fun _ => true) held t v d p) :
    ∃ (A : Option Addr) (c : Nat) (xs : List α), v = .slice A xs.length c ∧ Sl w 0 k A (xs.map ec) ∧ xs.length ≤ 9223372036854775807 ∧ xs.length ≤ c ∧ (A = none → c = 0) := by
  obtain ⟨a0, len, cap, rfl⟩ := okWide_slice ht hv
  obtain ⟨fuel, hf⟩ := h
  obtain ⟨A, n, c, F, hcs, hnc, hcm, hc⟩ := open_rows ht he hone (by rw [hfs]; exact hC) (fun j f hj => by
    have := Array.all_eq_true.1 hall j (by exact (Array.getElem?_eq_some_iff.1 hj).1)
    rw [(Array.getElem?_eq_some_iff.1 hj).2] at this
    rw [beq_iff_eq.1 this]; exact hti) (by omega) hf
  have hcap := open_cap (A := a0) (n := len) (c := cap) ht hf
  simp [Value.cells] at hcs
  obtain ⟨rfl, rfl, rfl⟩ := hcs
  refine ⟨a0, cap, (List.range len).map fun i => mk (F i), by simp, fun hp => ?_, by simp; unfold maxLen at hcm; omega, by simpa using hnc, hcap⟩
  obtain ⟨b, off, e0, hb, hcell⟩ := hc (by simpa using hp)
  refine ⟨b, off, e0, Nat.zero_le _, hb, fun i x hx j u hu => ?_⟩
  simp only [List.getElem?_map, Option.map_eq_some_iff] at hx
  obtain ⟨y, ⟨k', hk', rfl⟩, rfl⟩ := hx
  obtain ⟨hkl, hk'⟩ := List.getElem?_eq_some_iff.1 hk'
  have hki : k' = i := by simpa using hk'.symm
  subst hki
  have hlen : k' < len := by simpa using hkl
  have hj : j < k := by have := (List.getElem?_eq_some_iff.1 hu).1; rwa [hk] at this
  rw [hmk _ j hj] at hu
  rw [← Option.some.inj hu, ← hfs]
  exact hcell k' hlen j (by omega)

def mkWin (f : Nat → Int) : Win := ⟨f 0, f 1, f 2⟩
theorem mkWin_get (f : Nat → Int) (j : Nat) (h : j < 3) : (Win.cells (mkWin f))[j]? = some (.int .i64 (f j)) := by
  rcases j with _ | _ | _ | j
  · rfl
  · rfl
  · rfl
  · omega
def mkLos (f : Nat → Int) : Los := ⟨f 0, f 1, f 2, f 3, f 4, f 5, f 6, f 7, f 8, f 9⟩
theorem mkLos_get (f : Nat → Int) (j : Nat) (h : j < 10) : (Los.cells (mkLos f))[j]? = some (.int .i64 (f j)) := by
  rcases j with _ | _ | _ | _ | _ | _ | _ | _ | _ | _ | j
  all_goals first | rfl | omega

theorem open_wins {r : Reach} {b0 : Nat} {t e ti : TypeId} {fs : Array Field} {v : Value} {d : DataW H} {p : List MemPlace} (ht : P.underlying t = some (.slice e)) (he : P.underlying e = some (.struct fs)) (hfs : fs.size = 3)
    (hone : oneCellFields P fs = true) (hC : P.cellsOf e = 3) (hall : fs.all (fun f => f.type == ti) = true) (hti : P.underlying ti = some (.int .i64))
    (hv : Value.okWide P w r b0 t v) (h : DataW.Trod enc P w 0 (fun _ => true) held t v d p) :
    ∃ (A : Option Addr) (c : Nat) (xs : List Win), v = .slice A xs.length c ∧ Wins w 0 A xs ∧ xs.length ≤ 9223372036854775807 ∧ xs.length ≤ c ∧ (A = none → c = 0) :=
  open_recs Win.cells mkWin 3 (fun _ => rfl) mkWin_get (by omega) ht he hfs hone hC hall hti hv h
theorem open_losses {r : Reach} {b0 : Nat} {t e ti : TypeId} {fs : Array Field} {v : Value} {d : DataW H} {p : List MemPlace} (ht : P.underlying t = some (.slice e)) (he : P.underlying e = some (.struct fs)) (hfs : fs.size = 10)
    (hone : oneCellFields P fs = true) (hC : P.cellsOf e = 10) (hall : fs.all (fun f => f.type == ti) = true) (hti : P.underlying ti = some (.int .i64))
    (hv : Value.okWide P w r b0 t v) (h : DataW.Trod enc P w 0 (fun _ => true) held t v d p) :
    ∃ (A : Option Addr) (c : Nat) (xs : List Los), v = .slice A xs.length c ∧ Losses w 0 A xs ∧ xs.length ≤ 9223372036854775807 ∧ xs.length ≤ c ∧ (A = none → c = 0) :=
  open_recs Los.cells mkLos 10 (fun _ => rfl) mkLos_get (by omega) ht he hfs hone hC hall hti hv h
end

end Go.Proofs.Ytilkcailpkebdaa
