/-
  treatylaw25.EventWhole: the law's walk.
-/
import Derived.Test.YtilkcailpkebdaaEPts2
import Derived.Test.YtilkcailpkebdaaPerils
import Derived.Test.YtilkcailpkebdaaAwake25
namespace Go.Proofs.Ytilkcailpkebdaa
open Go.RowKit
set_option linter.unusedVariables false

/-- What is lost by a peril. -/
def sumP : List Los → List Int → Int → Int
  | l :: ls, a :: ams, p => (if l.peril = p then a else 0) + sumP ls ams p
  | _, _, _ => 0
theorem sum_one {ks : List Int} (h : ks.Nodup) (f a : Int) : sumI (ks.map fun k => if f = k then a else 0) = if f ∈ ks then a else 0 := by
  induction ks with
  | nil => simp [sumI]
  | cons k ks ih =>
    rw [List.nodup_cons] at h
    simp only [List.map_cons, sumI, ih h.2, List.mem_cons]
    by_cases e : f = k
    · subst e
      rw [if_pos rfl, if_neg h.1, if_pos (.inl rfl)]; omega
    · rw [if_neg e]
      by_cases hm : f ∈ ks
      · rw [if_pos hm, if_pos (.inr hm)]; omega
      · rw [if_neg hm, if_neg (fun h => h.elim e hm)]; omega
theorem sum_add (ks : List Int) (f g : Int → Int) : sumI (ks.map fun k => f k + g k) = sumI (ks.map f) + sumI (ks.map g) := by
  induction ks with
  | nil => simp [sumI]
  | cons k ks ih => simp only [List.map_cons, sumI, ih]; omega
theorem sum_zero (ks : List Int) : sumI (ks.map fun _ => (0 : Int)) = 0 := by
  induction ks with
  | nil => rfl
  | cons k ks ih => simp only [List.map_cons, sumI, ih]; omega
theorem sum_perils {ks : List Int} (hk : ks.Nodup) : ∀ (los : List Los) (am : List Int), am.length = los.length → (∀ l ∈ los, l.peril ∈ ks) → sumI (ks.map (sumP los am)) = sumI am := by
  intro los
  induction los with
  | nil =>
    intro am hl _
    cases am with
    | nil => simp only [sumP]; exact sum_zero ks
    | cons a ams => simp at hl
  | cons l ls ih =>
    intro am hl hm
    cases am with
    | nil => simp at hl
    | cons a ams =>
      have e : ks.map (sumP (l :: ls) (a :: ams)) = ks.map fun k => (if l.peril = k then a else 0) + sumP ls ams k := rfl
      rw [e, sum_add, sum_one hk, if_pos (hm l (by simp)), ih ams (by simpa using hl) (fun x hx => hm x (by simp [hx]))]
      rfl
theorem sum_hours {ks : List Int} (hk : ks.Nodup) (p : Int) : ∀ (los : List Los) (am : List Int), (∀ a ∈ am, 0 ≤ a) → (∀ t ∈ hoursL los am p, t ∈ ks) → sumI (ks.map (sumAt los am p)) = sumP los am p := by
  intro los
  induction los with
  | nil => intro am _ _; simp only [sumAt, sumP]; exact sum_zero ks
  | cons l ls ih =>
    intro am ha hm
    cases am with
    | nil => simp only [sumAt, sumP]; exact sum_zero ks
    | cons a ams =>
      have h1 := ha a (by simp)
      have hrest : ∀ t ∈ hoursL ls ams p, t ∈ ks := fun t ht => hm t (by simp only [hoursL]; split <;> simp [ht])
      have e : ks.map (sumAt (l :: ls) (a :: ams) p) = ks.map fun k => (if l.peril = p ∧ l.hour = k then a else 0) + sumAt ls ams p k := rfl
      rw [e, sum_add, ih ams (fun x hx => ha x (by simp [hx])) hrest]
      simp only [sumP]
      by_cases hp : l.peril = p
      · have e2 : (ks.map fun k => if l.peril = p ∧ l.hour = k then a else 0) = ks.map fun k => if l.hour = k then a else 0 := List.map_congr_left fun k _ => by simp [hp]
        rw [e2, sum_one hk, if_pos hp]
        by_cases h0 : 0 < a
        · rw [if_pos (hm l.hour (by simp [hoursL, hp, h0]))]
        · obtain rfl : a = 0 := by omega
          rw [ite_self]
      · have e2 : (ks.map fun k => if l.peril = p ∧ l.hour = k then a else 0) = ks.map fun _ => (0 : Int) := List.map_congr_left fun k _ => by simp [hp]
        rw [e2, sum_zero, if_neg hp]
def ptSum (los : List Los) (am : List Int) (p : Int) : Int := sumI ((ptsF los am p).map P2.b)
theorem ptSum_eq {los : List Los} {am : List Int} (h : ∀ a ∈ am, 0 ≤ a) (p : Int) : ptSum los am p = sumP los am p := by
  unfold ptSum ptsF
  rw [List.map_map]
  have e : (P2.b ∘ fun h => (⟨h, sumAt los am p h⟩ : P2)) = sumAt los am p := rfl
  rw [e]
  exact sum_hours ((asc_insAll _).imp (fun hab => by omega)) p los am h (fun t ht => (mem_insAll _ _).2 ht)
theorem whole_sum {los : List Los} {am : List Int} (hl : am.length = los.length) (h : ∀ a ∈ am, 0 ≤ a) : sumI ((perilsF los).map (ptSum los am)) = sumI am := by
  have e : (perilsF los).map (ptSum los am) = (perilsF los).map (sumP los am) := List.map_congr_left fun p _ => ptSum_eq h p
  rw [e]
  have hp : perilsF los = insAll (perilsL los) := compact_sorted _
  rw [hp]
  refine sum_perils ((asc_insAll _).imp (fun hab => by omega)) los am hl fun l hl => ?_
  rw [mem_insAll]
  exact List.mem_map.2 ⟨l, hl, rfl⟩
theorem pts_each {los : List Los} {am : List Int} {p : Int} (h : ∀ a ∈ am, 0 ≤ a) : (∀ x ∈ ptsF los am p, 0 < x.b ∧ x.b ≤ sumI am) ∧ (ptsF los am p).Pairwise (fun a b => a.a < b.a) := by
  constructor
  · intro x hx
    obtain ⟨t, ht, rfl⟩ := List.mem_map.1 hx
    have h1 := (mem_hoursF h p t).1 ht
    have h2 := sumAt_le (los := los) h p t
    rw [fold_sumI] at h2
    exact ⟨h1, h2⟩
  · exact List.pairwise_map.2 (asc_insAll _)
theorem sumI_nonneg {l : List Int} (h : ∀ x ∈ l, 0 ≤ x) : 0 ≤ sumI l := by
  induction l with
  | nil => simp [sumI]
  | cons a l ih => have h1 := h a (by simp); have h2 := ih (fun x hx => h x (by simp [hx])); simp only [sumI]; omega

theorem sumI_drop_le {l : List Int} (h : ∀ x ∈ l, 0 ≤ x) (k : Nat) : sumI (l.drop k) ≤ sumI l := by
  induction l generalizing k with
  | nil => simp
  | cons a l ih =>
    cases k with
    | zero => simp
    | succ k => have h1 := h a (by simp); have h2 := ih (fun x hx => h x (by simp [hx])) k; simp only [List.drop_succ_cons, sumI]; omega
theorem hoursL_lenW (p : Int) : ∀ (ls : List Los) (ams : List Int), (hoursL ls ams p).length ≤ ls.length := by
  intro ls
  induction ls with
  | nil => intro ams; simp [hoursL]
  | cons l ls ih =>
    intro ams
    cases ams with
    | nil => simp [hoursL]
    | cons a ams =>
      have := ih ams
      simp only [hoursL]; split <;> simp only [List.length_cons] <;> omega
theorem pw_get {ps : List P2} (h : ps.Pairwise (fun a b => a.a < b.a)) {i j : Nat} {x y : P2} (hx : ps[i]? = some x) (hy : ps[j]? = some y) (hij : i < j) : x.a < y.a := by
  have h1 := (List.getElem?_eq_some_iff.1 hx)
  have h2 := (List.getElem?_eq_some_iff.1 hy)
  obtain ⟨h1l, rfl⟩ := h1
  obtain ⟨h2l, rfl⟩ := h2
  exact (List.pairwise_iff_getElem.1 h) i j h1l h2l hij

set_option maxRecDepth 100000 in
set_option maxHeartbeats 4000000 in
theorem lawWhole (D : Option Addr) (dc : Nat) (deck : List Int) (w : World) (hD : Ints w 0 D deck) (hdl : deck.length ≤ 9223372036854775807) :
    Calls Try.prog 4 #[.slice D deck.length dc] w fun e w' => e = .returned (.bool true) ∧ Below w.heap.size w w' := by
  have C1 := Lib.hid (few25_any D dc deck w hD hdl)
  obtain ⟨nd, hnd⟩ : ∃ k, k = deck.length := ⟨_, rfl⟩
  rw [← hnd] at C1 ⊢
  clear hnd hdl
  go_enter Try.func4, Try.ntmps4
  go_wp2_with fail
  refine C1.out.mono ?_
  rintro e w1 ⟨u, v, los, last, am, rfl, hl12, hmade, hamn, hamb, hownL, hownA, hb1⟩
  have hE : chkE los am = 0 := chkE_made hmade (by omega) hamn hamb
  have hG := goodE_of hE
  obtain ⟨LA, lc, rfl, _⟩ := own_shape hownL
  obtain ⟨AA, ac, rfl, _⟩ := own_shape hownA
  have hL1 : Losses w1 0 LA los := (losses_of_own hownL).low (Nat.zero_le _)
  have hA1 : Ints w1 0 AA am := (ints_of_own hownA).low (Nat.zero_le _)
  have P1 : Hid (∀ (p : Int) W, Losses W 0 LA los → Ints W 0 AA am → _) := fun p W h h' => epoints_any LA lc los AA ac am p W (by omega) (by omega) h h'
  have P2' : Hid (∀ W, Losses W 0 LA los → _) := fun W h => perils_any LA lc los W (by omega) h
  have HE : Hid (∀ p, eptsF los am p = ptsF los am p) := fun p => by unfold eptsF; rw [if_pos hE]
  have HNN : Hid (∀ a ∈ am, 0 ≤ a) := fun a ha => (hamb a ha).1
  have HW := Lib.hid (whole_sum hamn HNN.out)
  have hsum := hG.sum
  rw [hE] at P1
  obtain ⟨nl, hnl⟩ : ∃ k, k = los.length := ⟨_, rfl⟩
  obtain ⟨nm, hnm⟩ : ∃ k, k = am.length := ⟨_, rfl⟩
  rw [← hnl, ← hnm] at P1
  rw [← hnl] at P2'
  rw [← hnl, ← hnm]
  rw [← hnl] at hl12
  have hm12 : nm ≤ 12 := by omega
  have HNM := Lib.hid hnm
  have HNL := Lib.hid hnl
  clear hmade hamb C1 hE hG hamn hownL hownA hnl hnm
  go_wp2_with fail
  go_loop [5, 7, 21] (fun s _ ii => ∃ (k : Nat) (t : Int), k ≤ nm ∧ ii = .int .i64 k ∧ s = .int .i64 t ∧ 0 ≤ t ∧ t + sumI (am.drop k) = sumI am) (fun _ _ ii => nm - (intOf ii).toNat)
  case atStart => exact ⟨0, 0, Nat.zero_le _, rfl, rfl, by omega, by simp⟩
  case round =>
    obtain ⟨k, t, hk, rfl, rfl, ht0, hts⟩ := hrel
    have HTS := Lib.hid hts
    have hdn := sumI_nonneg (l := am.drop k) (fun x hx => HNN.out x (List.mem_of_mem_drop hx))
    have htb : t ≤ 17592186044416 := by omega
    clear hts hdn
    by_cases hkn : k < nm
    · obtain ⟨a, ha, had⟩ := drop_cons (xs := am) (i := k) (by rw [← HNM.out]; exact hkn)
      obtain ⟨b2, off2, rfl, _, hbm, m0⟩ := hA1.at_ ha
      have ha0 := HNN.out a (List.mem_of_getElem? ha)
      have hnx := Lib.hid (sumI_next had HTS.out)
      have hdn := sumI_nonneg (l := am.drop (k + 1)) (fun x hx => HNN.out x (List.mem_of_mem_drop hx))
      have hab : t + a ≤ 17592186044416 := by have := hnx.out; omega
      clear ha had hdn
      go_wp2_with fail
      go_round
      case rel => exact ⟨k + 1, t + a, by omega, by go_num, rfl, by omega, hnx.out⟩
      case measure => simp [intOf]; omega
    · obtain rfl : k = nm := by omega
      have htv : t = sumI am := by
        have := HTS.out
        rw [List.drop_of_length_le (by rw [← HNM.out]; exact Nat.le_refl _)] at this
        simp [sumI] at this; exact this
      have HTV := Lib.hid htv
      clear htv hkn
      go_wp2_with fail
      refine (P2'.out _ hL1).mono ?_
      rintro e w2 ⟨pv, rfl, hpv, hb2⟩
      obtain ⟨PV, pc, rfl, _⟩ := own_shape hpv
      have hPV : Ints w2 0 PV (perilsF los) := (ints_of_own hpv).low (Nat.zero_le _)
      obtain ⟨np, hnp⟩ : ∃ m, m = (perilsF los).length := ⟨_, rfl⟩
      have hnpb : np ≤ 12 := by
        rw [hnp]
        unfold perilsF
        refine Nat.le_trans (compact_len _) ?_
        rw [List.length_mergeSort]; unfold perilsL; rw [List.length_map]
        have := HNL.out; omega
      rw [← hnp]
      have HNP := Lib.hid hnp
      have hb02 := hb1.trans (hb2.mono hb1.size)
      clear hnp hpv
      go_wp2_with fail
      go_loopw [5, 9, 10, 11, 12, 13, 32] (fun s _ _ _ _ _ ii wr => ∃ (j : Nat) (t : Int), j ≤ np ∧ ii = .int .i64 j ∧ s = .int .i64 t ∧ t = sumI (((perilsF los).drop j).map (ptSum los am)) ∧ Below w2.heap.size w2 wr) (fun _ _ _ _ _ _ ii _ => np - (intOf ii).toNat)
      case atStart => exact ⟨0, t, Nat.zero_le _, rfl, rfl, by rw [HTV.out, List.drop_zero]; exact HW.out.symm, Below.refl _ _⟩
      case round =>
        obtain ⟨j, t2, hj, rfl, rfl, ht2, hbr⟩ := hrel
        have HT2 := Lib.hid ht2
        have hb0r := hb02.trans (hbr.mono hb02.size)
        clear ht2
        by_cases hjn : j < np
        case neg =>
          obtain rfl : j = np := by omega
          have hz : t2 = 0 := by
            have := HT2.out
            rw [List.drop_of_length_le (by rw [← HNP.out]; exact Nat.le_refl _)] at this
            exact this
          subst hz
          go_wp2_with (go_at_call 12; refine (awake25_any _).mono ?_; rintro e w11 ⟨rfl, hb11⟩)
          go_ret
          exact ⟨rfl, hb0r.trans (hb11.mono hb0r.size)⟩
        obtain ⟨p, hp, hpd⟩ := drop_cons (xs := perilsF los) (i := j) (by rw [← HNP.out]; exact hjn)
        obtain ⟨pb, po, rfl, _, _, p0⟩ := (hPV.below hbr).at_ hp
        have hrest : Hid (t2 = ptSum los am p + sumI (((perilsF los).drop (j + 1)).map (ptSum los am))) := by show _ = _; rw [HT2.out, hpd]; rfl
        have C3 := Lib.hid (P1.out p wr (hL1.below (hb2.trans (hbr.mono hb2.size))) (hA1.below (hb2.trans (hbr.mono hb2.size))))
        rw [HE.out p] at C3
        have hpe := pts_each (los := los) (p := p) HNN.out
        have HPE := Lib.hid hpe
        have hR0 : 0 ≤ sumI (((perilsF los).drop (j + 1)).map (ptSum los am)) := sumI_nonneg fun x hx => by
          obtain ⟨y, _, rfl⟩ := List.mem_map.1 hx
          exact sumI_nonneg fun z hz => by obtain ⟨q, hq, rfl⟩ := List.mem_map.1 hz; have := ((pts_each (los := los) (p := y) HNN.out).1 q hq).1; omega
        have hT2b : t2 ≤ 17592186044416 := by
          have h1 := HT2.out
          have h2 : sumI (((perilsF los).drop j).map (ptSum los am)) ≤ sumI ((perilsF los).map (ptSum los am)) := by
            rw [List.map_drop]
            exact sumI_drop_le (fun x hx => by
              obtain ⟨y, _, rfl⟩ := List.mem_map.1 hx
              exact sumI_nonneg fun z hz => by obtain ⟨q, hq, rfl⟩ := List.mem_map.1 hz; have := ((pts_each (los := los) (p := y) HNN.out).1 q hq).1; omega) j
          rw [HW.out] at h2
          omega
        obtain ⟨R, hR⟩ : ∃ R, R = sumI (((perilsF los).drop (j + 1)).map (ptSum los am)) := ⟨_, rfl⟩
        rw [← hR] at hrest hR0
        have HR := Lib.hid hR
        clear hp hpd hpe hR
        go_wp2_with fail
        refine C3.out.mono ?_
        rintro e w4 ⟨xv, rfl, hxv, hb4⟩
        obtain ⟨XV, xc, rfl, _⟩ := own_shape hxv
        have hXV : Pairs w4 0 XV (ptsF los am p) := (pairs_of_own hxv).low (Nat.zero_le _)
        have hxl : (ptsF los am p).length ≤ 12 := by
          unfold ptsF; rw [List.length_map]
          refine Nat.le_trans (insAll_len _) (Nat.le_trans (hoursL_lenW p los am) ?_)
          have := HNL.out; omega
        obtain ⟨nx, hnx⟩ : ∃ m, m = (ptsF los am p).length := ⟨_, rfl⟩
        rw [← hnx] at hxl ⊢
        have HNX := Lib.hid hnx
        have hb24 := hbr.trans (hb4.mono hbr.size)
        clear hnx hxv C3 p0
        go_wp2_with fail
        go_loopw [5, 12, 13, 47] (fun s _ _ ii wr => ∃ (i : Nat) (t : Int), i ≤ nx ∧ ii = .int .i64 i ∧ s = .int .i64 t ∧ t = sumI (((ptsF los am p).drop i).map P2.b) + R ∧ 0 ≤ t ∧ t ≤ 17592186044416 ∧ Below w4.heap.size w4 wr) (fun _ _ _ ii _ => nx - (intOf ii).toNat)
        case atStart => exact ⟨0, t2, Nat.zero_le _, rfl, rfl, by rw [hrest.out]; rfl, by have := hrest.out; have h3 : 0 ≤ ptSum los am p := sumI_nonneg fun z hz => (by obtain ⟨q, hq, rfl⟩ := List.mem_map.1 hz; have := (HPE.out.1 q hq).1; omega); omega, hT2b, Below.refl _ _⟩
        case round =>
          obtain ⟨i, t3, hi, rfl, rfl, ht3, h30, h3b, hbi⟩ := hrel
          have HT3 := Lib.hid ht3
          clear ht3
          by_cases hin : i < nx
          case neg =>
            obtain rfl : i = nx := by omega
            have hz : t3 = R := by
              have := HT3.out
              rw [List.drop_of_length_le (by rw [← HNX.out]; exact Nat.le_refl _)] at this
              simp [sumI] at this; exact this
            have HZ := Lib.hid hz
            have hbf := hb24.trans (hbi.mono hb24.size)
            clear hz
            go_wp2_with fail
            go_roundw
            case rel => exact ⟨j + 1, t3, by omega, by go_num, rfl, by rw [HZ.out]; exact HR.out, hbf⟩
            case measure => simp [intOf]; omega
          obtain ⟨x, hx, hxd⟩ := drop_cons (xs := ptsF los am p) (i := i) (by rw [← HNX.out]; exact hin)
          obtain ⟨xb, xo, rfl, _, _, x0, x1⟩ := (hXV.below hbi).at_ hx
          have hxb := HPE.out.1 x (List.mem_of_getElem? hx)
          have ht4 : Hid (t3 - x.b = sumI (((ptsF los am p).drop (i + 1)).map P2.b) + R) := by
            show _ = _
            have := HT3.out
            rw [hxd, List.map_cons, sumI] at this; omega
          have h40 : 0 ≤ t3 - x.b := by
            rw [ht4.out]
            have : 0 ≤ sumI (((ptsF los am p).drop (i + 1)).map P2.b) := sumI_nonneg fun z hz => by obtain ⟨q, hq, rfl⟩ := List.mem_map.1 hz; have := (HPE.out.1 q (List.mem_of_mem_drop hq)).1; omega
            omega
          obtain ⟨wb, hwb⟩ : ∃ wb : World, wb = wr.alloc (.cells #[.int .i64 x.a, .int .i64 x.b] 36) := ⟨_, rfl⟩
          have hbb : Below wr.heap.size wr wb := by rw [hwb]; exact (Below.refl _ _).alloc (Nat.le_refl _) _
          have hbib := hbi.trans (hbb.mono hbi.size)
          have d0 : wb.cell? ⟨wr.heap.size, 0, none⟩ = some (.int .i64 x.a) := by rw [hwb]; simp
          have d1 : wb.cell? ⟨wr.heap.size, 1, none⟩ = some (.int .i64 x.b) := by rw [hwb]; simp
          have HXX := Lib.hid hx
          have qb : decide (x.b ≤ 0) = false := by simp; omega
          go_upto_region 17 with fail
          rw [← hwb]
          clear hwb hx hxd x0 x1 hbb
          rcases Nat.eq_zero_or_pos i with rfl | hi0
          · go_quiet (fail)
            go_wp2_with fail
            go_roundw
            case rel => exact ⟨1, t3 - x.b, by omega, by go_num, rfl, ht4.out, by omega, by omega, below_drewN hbib _⟩
            case measure => simp [intOf]; omega
          · obtain ⟨y, hy, _⟩ := drop_cons (xs := ptsF los am p) (i := i - 1) (by rw [← HNX.out]; omega)
            have hasc : y.a < x.a := pw_get HPE.out.2 hy HXX.out (by omega)
            obtain ⟨xb', xo', e', _, _, y0, _⟩ := (hXV.below hbib).at_ hy
            obtain ⟨rfl, rfl⟩ : xb = xb' ∧ xo = xo' := by simpa using e'
            have q2 : decide (x.a ≤ y.a) = false := by simp; omega
            have hi1 : 1 ≤ i := hi0
            clear hy e'
            go_quiet (fail)
            go_wp2_with fail
            go_roundw
            case rel => exact ⟨i + 1, t3 - x.b, by omega, by go_num, rfl, ht4.out, by omega, by omega, below_drewN hbib _⟩
            case measure => simp [intOf]; omega

end Go.Proofs.Ytilkcailpkebdaa
