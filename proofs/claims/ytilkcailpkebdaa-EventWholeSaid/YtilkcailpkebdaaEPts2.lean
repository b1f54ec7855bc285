/-
  event.Points: its walk.
-/
import Derived.Test.YtilkcailpkebdaaEPts
import Derived.Test.YtilkcailpkebdaaFew25
namespace Go.Proofs.Ytilkcailpkebdaa
open Go.RowKit Go.Maps
set_option linter.unusedVariables false

theorem fold_sumI (am : List Int) : am.foldr (· + ·) 0 = sumI am := by
  induction am with
  | nil => rfl
  | cons a l ih => simp only [List.foldr_cons, sumI, ih]
theorem sumI_take {am : List Int} (h : ∀ a ∈ am, 0 ≤ a) (k : Nat) : sumI (am.take k) ≤ sumI am := by
  induction am generalizing k with
  | nil => simp
  | cons a l ih =>
    cases k with
    | zero =>
      have h1 := h a (by simp)
      have h2 := ih (fun x hx => h x (by simp [hx])) 0
      simp only [List.take_zero, sumI] at h2 ⊢; omega
    | succ k =>
      have h2 := ih (fun x hx => h x (by simp [hx])) k
      simp only [List.take_succ_cons, sumI]; omega
theorem sumAt_bd {los : List Los} {am : List Int} (h : ∀ a ∈ am, 0 ≤ a) (k : Nat) (p t : Int) : 0 ≤ sumAt (los.take k) (am.take k) p t ∧ sumAt (los.take k) (am.take k) p t ≤ sumI am := by
  have hk : ∀ a ∈ am.take k, 0 ≤ a := fun a ha => h a (List.mem_of_mem_take ha)
  have h1 := sumAt_nonneg (los := los.take k) hk p t
  have h2 := sumAt_le (los := los.take k) hk p t
  rw [fold_sumI] at h2
  have h3 := sumI_take h k
  omega
theorem MapAt.put {los : List Los} {am : List Int} {k : Nat} {l : Los} {a p cv : Int} {D : DataW Unit} (h : MapAt (los.take k) (am.take k) p D) (hlen : am.length = los.length) (hl : los[k]? = some l) (ha : am[k]? = some a) (hp : l.peril = p) (hc : cv = sumAt (los.take k) (am.take k) p l.hour) :
    MapAt (los.take (k + 1)) (am.take (k + 1)) p (D.put (.int .i64 l.hour) (.lit (.int .i64 (cv + a)))) := by
  obtain ⟨es, rfl⟩ := h.1
  refine ⟨⟨_, rfl⟩, fun t => ?_⟩
  rw [sumAt_next hlen hl ha]
  by_cases ht : t = l.hour
  · subst ht
    rw [atKey_put_same h.1 (by trivial), if_pos ⟨hp, rfl⟩, hc]
  · rw [atKey_put_other (by intro e; injection e with _ e; exact ht e), if_neg (fun e => ht e.2.symm), Int.add_zero]
    exact h.2 t
theorem MapAt.pass {los : List Los} {am : List Int} {k : Nat} {l : Los} {a p : Int} {D : DataW Unit} (h : MapAt (los.take k) (am.take k) p D) (hlen : am.length = los.length) (hl : los[k]? = some l) (ha : am[k]? = some a) (hp : l.peril ≠ p) : MapAt (los.take (k + 1)) (am.take (k + 1)) p D := by
  refine ⟨h.1, fun t => ?_⟩
  rw [sumAt_next hlen hl ha, if_neg (fun e => hp e.1), Int.add_zero]
  exact h.2 t
theorem MapAt.val {los : List Los} {am : List Int} {p t cv : Int} {D : DataW Unit} (h : MapAt los am p D) (hat : D.atKey (.int .i64 t) (.lit (.int .i64 0)) = .lit (.int .i64 cv)) : cv = sumAt los am p t := by
  rw [h.2 t] at hat
  injection hat with hat
  injection hat with _ hat
  exact hat.symm

theorem flat_snoc2 {w : World} {base n : Nat} {e : TypeId} {v : Value} {ps : List P2} {x : P2} (h : w.ownsRow base e 2 v n (ps.flatMap P2.cells ++ P2.cells x)) : w.ownsRow base e 2 v n ((ps ++ [x]).flatMap P2.cells) := by
  have e1 : (ps ++ [x]).flatMap P2.cells = ps.flatMap P2.cells ++ P2.cells x := by simp
  rw [e1]; exact h
theorem hours_range {los : List Los} {am : List Int} {p t : Int} (h : (los.zip am).all pairOk = true) (ht : t ∈ hoursL los am p) : 0 ≤ t ∧ t ≤ 876599 := by
  induction los generalizing am with
  | nil => simp [hoursL] at ht
  | cons l ls ih =>
    cases am with
    | nil => simp [hoursL] at ht
    | cons a ams =>
      simp only [List.zip_cons_cons, List.all_cons, Bool.and_eq_true] at h
      simp only [hoursL] at ht
      split at ht
      · rcases List.mem_cons.1 ht with rfl | ht
        · have := (pairOk_iff l a).1 h.1; omega
        · exact ih h.2 ht
      · exact ih h.2 ht

set_option maxRecDepth 100000 in
set_option maxHeartbeats 2000000 in
theorem epoints_any (A : Option Addr) (c : Nat) (los : List Los) (M : Option Addr) (mc : Nat) (am : List Int) (p : Int) (w : World) (hll : los.length ≤ 1000) (hal : am.length ≤ 1000) (hL : Losses w 0 A los) (hM : Ints w 0 M am) :
    Calls Try.prog 14 #[.slice A los.length c, .slice M am.length mc, .int .i64 p] w fun e w' => ∃ v, e = .returned (.tuple #[v, .int .i64 (chkE los am)]) ∧ w'.ownsRow w.heap.size 36 2 v (eptsF los am p).length ((eptsF los am p).flatMap P2.cells) ∧ Below w.heap.size w w' := by
  have C1 := Lib.hid (checkE_any A c los M mc am w (by omega) (by omega) hL hM)
  obtain ⟨n, hn⟩ : ∃ k, k = los.length := ⟨_, rfl⟩
  obtain ⟨na, hna⟩ : ∃ k, k = am.length := ⟨_, rfl⟩
  rw [← hn, ← hna] at C1 ⊢
  rw [← hn] at hll
  rw [← hna] at hal
  have HN := Lib.hid hn
  have HNA := Lib.hid hna
  clear hn hna
  have hmm := @run_makeMap Try.prog
  by_cases hE : chkE los am = 0
  case neg =>
    have q : (chkE los am != 0) = true := by simpa using hE
    have HX : Hid (eptsF los am p = []) := by unfold eptsF; rw [if_neg hE]; rfl
    clear hE
    go_enter Try.func14, Try.ntmps14
    go_wp2_with (go_at_call 36; refine C1.out.mono ?_; rintro e w1 ⟨rfl, hb1⟩)
    go_ret2
    refine ⟨_, rfl, ?_, hb1⟩
    rw [HX.out]; exact own_nil _ _ _ _
  have hG := goodE_of hE
  have hna : na = n := by rw [HNA.out, HN.out]; exact hG.same
  subst hna
  have HX : Hid (eptsF los am p = ptsF los am p) := by unfold eptsF; rw [if_pos hE]; rfl
  have HE := Lib.hid hE
  have q : (chkE los am != 0) = false := by rw [hE]; rfl
  have hn64 : na ≤ 64 := by rw [HN.out]; exact hG.len
  have HAMB := Lib.hid (fun a ha => (zip_amounts hG.same hG.all a ha).1)
  have HSUM := Lib.hid hG.sum
  have HALL := Lib.hid hG.all
  rw [hE] at C1
  rw [hE]
  clear hE hG
  go_enter Try.func14, Try.ntmps14
  go_wp2_with fail
  refine C1.out.mono ?_
  rintro e w1 ⟨rfl, hb1⟩
  go_wp2_with fail
  obtain ⟨B, hB⟩ : ∃ B, B = w1.heap.size := ⟨_, rfl⟩
  have hown0 := World.ownsMap_made w1 Try.prog 3 (plainElem (H := Unit) Try.prog 3)
  have hb0 : Below w.heap.size w (w1.alloc (.map #[] 0)) := hb1.alloc hb1.size _
  have hBw : w.heap.size ≤ B := by rw [hB]; exact hb1.size
  rw [← hB] at hown0 ⊢
  clear hB
  go_loopw [10, 11, 24] (fun _ _ ii wr => ∃ (k : Nat) (D : DataW Unit), k ≤ na ∧ ii = .int .i64 k ∧ wr.ownsMap Try.prog 3 (plainElem Try.prog 3) B k D ∧ MapAt (los.take k) (am.take k) p D ∧ Below w.heap.size w wr) (fun _ _ ii _ => na - (intOf ii).toNat)
  case atStart => exact ⟨0, _, Nat.zero_le _, rfl, hown0, ⟨isMap_empty, fun h => by simp [sumAt, DataW.atKey]⟩, hb0⟩
  case round =>
    obtain ⟨k, D, hk, rfl, hown, hD, hb⟩ := hrel
    have HD := Lib.hid hD
    clear hown0 hb0 hD hmm C1
    by_cases hkn : k < na
    · obtain ⟨l, hl, _⟩ := drop_cons (xs := los) (i := k) (by rw [← HN.out]; exact hkn)
      obtain ⟨a, ha, _⟩ := drop_cons (xs := am) (i := k) (by rw [← HNA.out]; exact hkn)
      obtain ⟨b, off, rfl, _, hbl, c0, c1, c2, c3, c4, c5, c6, c7, c8, c9⟩ := (hL.below hb).at_ hl
      obtain ⟨b2, off2, rfl, _, hbm, m0⟩ := (hM.below hb).at_ ha
      have hpo := (pairOk_iff l a).1 (List.all_eq_true.1 HALL.out _ (List.mem_of_getElem? (zip_get hl ha)))
      have HLX := Lib.hid hl
      have HAX := Lib.hid ha
      clear hl ha
      obtain ⟨wb, hwb⟩ : ∃ wb : World, wb = wr.alloc (.cells #[.int .i64 l.id, .int .i64 l.pol, .int .i64 l.risk, .int .i64 l.hour, .int .i64 l.peril, .int .i64 l.area, .int .i64 l.cur, .int .i64 l.sum, .int .i64 l.amt, .int .i64 l.paid] 55) := ⟨_, rfl⟩
      have hbb : Below wr.heap.size wr wb := by rw [hwb]; exact (Below.refl _ _).alloc (Nat.le_refl _) _
      have hownb : wb.ownsMap Try.prog 3 (plainElem Try.prog 3) B k D := by rw [hwb]; exact hown.alloc _
      have hb0b := hb.trans (hbb.mono hb.size)
      have p3 : wb.cell? ⟨wr.heap.size, 3, none⟩ = some (.int .i64 l.hour) := by rw [hwb]; simp
      have p4 : wb.cell? ⟨wr.heap.size, 4, none⟩ = some (.int .i64 l.peril) := by rw [hwb]; simp
      have m0b : wb.cell? ⟨b2, off2 + k, none⟩ = some (.int .i64 a) := (hbb.cell (p := ⟨b2, _, none⟩) hbm).trans m0
      go_upto_region 8 with fail
      rw [← hwb]
      clear hwb c0 c1 c2 c3 c4 c5 c6 c7 c8 c9 hown hbb m0
      by_cases hp : l.peril = p
      · have qp : (l.peril == p) = true := by simpa using hp
        have HP' := Lib.hid hp
        clear hp
        have hkey : keyOf Try.prog 3 (.int .i64 l.hour) = some (.int .i64 l.hour) := keyOf_int_mk Try.underlying3 (WalkArith.wf_i64 (by omega))
        obtain ⟨cv, hlk, hat, hwf⟩ := hownb.drew.lookup_int lawK Try.underlying73 Try.underlying3 (zeroI _) hkey
        have hcv := HD.out.val hat
        have hcb := sumAt_bd (los := los) HAMB.out k p l.hour
        rw [← hcv] at hcb
        have hsb := HSUM.out
        have HCV := Lib.hid hcv
        have HKEY := Lib.hid hkey
        have hwf2 : (Lit.int .i64 (cv + a)).wf = true := WalkArith.wf_i64 (by omega)
        have HWF := Lib.hid hwf2
        have hwr : IntKind.i64.wrap (cv + a) = cv + a := IntWalk.i64_in _ (by omega)
        have HWR := Lib.hid hwr
        have hkm : k < maxLen := by unfold maxLen; omega
        clear hat hkey hcv hwf2 hwr
        go_wp2_with fail
        go_still_tail 9, (by kernel_rfl)
        rw [HWR.out]
        refine wpList_mapUpdate_own _ rfl _ _ _ 73 rfl 3 3 lawK Try.underlying73 _ B k _ rfl hownb.drew hkm _ _ _ rfl rfl HKEY.out _ [] (plainElem_int Try.underlying3 HWF.out) ?_
        intro w2 hown2 hgrow2
        go_wp2_with fail
        have hb2 : Below w.heap.size w w2 := hb0b.drew.grown hgrow2 hb0b.size (fun j hj => by cases hj; exact hBw)
        go_wp2_with fail
        go_roundw
        case rel =>
          refine ⟨k + 1, _, by omega, by go_num, hown2, ?_, hb2⟩
          exact HD.out.put (by rw [← HNA.out, ← HN.out]) HLX.out HAX.out HP'.out HCV.out
        case measure => simp [intOf]; omega
      · have qp : (l.peril == p) = false := by simpa using hp
        have HP' := Lib.hid hp
        clear hp
        go_wp2_with fail
        go_roundw
        case rel => exact ⟨k + 1, D, by omega, by go_num, hownb.mono (by omega), HD.out.pass (by rw [← HNA.out, ← HN.out]) HLX.out HAX.out HP'.out, hb0b⟩
        case measure => simp [intOf]; omega
    · obtain rfl : k = na := by omega
      rw [List.take_of_length_le (by rw [← HN.out]; exact Nat.le_refl _), List.take_of_length_le (by rw [← HNA.out]; exact Nat.le_refl _)] at HD
      go_wp2_with (at_range; refine wpList_range_own _ rfl _ 73 rfl 3 3 lawK Try.underlying73 _ B k _ rfl hown ?_; intro w2 hrg2 hg2 hs2)
      go_frame
      have hszD : Maps.size D ≤ k := hown.size_le
      obtain ⟨r, hr⟩ : ∃ r, r = wr.heap.size := ⟨_, rfl⟩
      have hrw : w.heap.size ≤ r := by rw [hr]; exact hb.size
      have hb2 : Below w.heap.size w w2 := hb.grown hg2 hb.size (fun j hj => by cases hj)
      have hBr : B < r := by rw [hr]; exact hown.lt
      rw [← hr] at hrg2 ⊢
      clear hr hs2 hg2 hown
      have hrl := hrg2.lt
      obtain ⟨i0, hi, hz0, hz1, hz2⟩ := info_parts Try.infoPoint
      have hst := Coll.start HD.out
      have HR : Hid (∀ t, 0 < sumAt los am p t → 0 ≤ t ∧ t ≤ 876599) := fun t ht => hours_range HALL.out ((sumAt_pos HAMB.out p t).1 ht)
      go_loopw [12, 13, 14] (fun v _ _ wx => ∃ (left : Lit → Bool) (cnt : Nat) (ps : List P2), wx.ranges Try.prog 3 (plainElem Try.prog 3) B r k D left cnt ∧ Coll (sumAt los am p) left ps ∧ wx.ownsRow w2.heap.size 36 2 v ps.length (ps.flatMap P2.cells) ∧ ps.length + cnt ≤ k ∧ w2.heap.size ≤ wx.heap.size ∧ Below w.heap.size w wx) (fun _ _ _ wx => wx.rangeLeft B r)
      case atStart => exact ⟨_, _, [], hrg2, hst, own_nil _ _ _ _, by simpa using hszD, Nat.le_refl _, hb2⟩
      case round =>
        obtain ⟨left, cnt, ps, hrg, hC, hown, hcnt, hx2, hb⟩ := hrel
        clear hst hrg2 hb2 hszD
        obtain ⟨V, vc, rfl, _⟩ := own_shape hown
        go_wp2_with (at_next; refine wpList_next_ranges_ii _ rfl _ rfl 3 3 .i64 .i64 lawK Try.underlying3 Try.underlying3 B r k _ _ _ rfl hrg ?_ ?_)
        · intro _ hl0
          have HC := Lib.hid hC
          have HL0 := Lib.hid hl0
          obtain ⟨m, hm⟩ : ∃ m, m = ps.length := ⟨_, rfl⟩
          rw [← hm] at hown hcnt ⊢
          have HM' := Lib.hid hm
          clear hC hl0 hm hrg
          by_cases hm0 : m = 0
          · subst hm0
            have hps : ps = [] := List.eq_nil_of_length_eq_zero HM'.out.symm
            have HPS := Lib.hid hps
            have hfin := HC.out.done HAMB.out HL0.out (List.Perm.refl ps) (by rw [hps]; exact List.Pairwise.nil)
            have HF := Lib.hid hfin
            clear hps hfin
            go_wp2_with fail
            refine (AnyF.slices_SortFunc_none Try.sortPoint V vc _ _).mono ?_
            rintro e w' ⟨rfl, rfl⟩
            go_wp2_with fail
            go_ret2
            refine ⟨_, rfl, ?_, hb⟩
            rw [HX.out, ← HF.out, HPS.out]
            rw [HPS.out] at hown
            exact own_base hown (by omega)
          · rcases hown.2 with ⟨_, h00⟩ | ⟨g, cap, cur, hv, hgb, _⟩
            · exact absurd h00 hm0
            obtain ⟨rfl, rfl⟩ : V = some ⟨g, 0, none⟩ ∧ vc = cap := by injection hv with a1 a2 a3; exact ⟨a1, a3⟩
            have CS := Lib.hid (sortP g vc w2.heap.size m ps wr hown HM'.out (fun x hx => (HC.out.each x hx).2.2.2) (by omega))
            clear hv hm0
            go_wp2_with fail
            refine CS.out.mono ?_
            rintro e w4 ⟨rfl, qs, hperm, hsort, hown4, hg4⟩
            have hfin := HC.out.done HAMB.out HL0.out hperm hsort
            have HF := Lib.hid hfin
            have hml : Hid (m = qs.length) := by show m = qs.length; rw [hperm.length_eq]; exact HM'.out
            have hb4 : Below w.heap.size w w4 := hb.grown hg4 hb.size (fun j hj => by cases hj; omega)
            clear hperm hsort hfin CS
            go_wp2_with fail
            go_ret2
            refine ⟨_, rfl, ?_, hb4⟩
            rw [HX.out, ← HF.out, ← hml.out]
            exact own_base hown4 (by omega)
        · intro x cv w3 cnt3 hwx hwc hlx hat hrg3 hlt hg3 hs3 hen
          clear hs3
          have hcv : cv = sumAt los am p x := HD.out.val (hat _)
          have hown3 := hown.kept hg3 (own_far hown (by omega))
          have hle2 : w2.heap.size ≤ w3.heap.size := Nat.le_trans hx2 hg3.size
          have hb3 : Below w.heap.size w w3 := hb.grown hg3 hb.size (fun j hj => by cases hj; exact hrw)
          by_cases hc0 : 0 < cv
          · have q0 : decide (0 < cv) = true := by simpa using hc0
            have hxr := HR.out x (by rw [← hcv]; exact hc0)
            have HC := Lib.hid (hC.keep hlx hcv hc0 hxr)
            have HCV := Lib.hid hcv
            have hle := hg3.size
            have HLE := Lib.hid hrg.left_eq
            obtain ⟨m, hm⟩ : ∃ m, m = ps.length := ⟨_, rfl⟩
            rw [← hm] at hown3 hcnt ⊢
            have HM' := Lib.hid hm
            clear hcv hat hC hrg hown hg3 hm
            go_wp2_with (at_builtin; refine wpList_append_own _ rfl (.tmp 52) (.tmp 56) 27 rfl w2.heap.size 36 i0 _ 2 16 Try.underlying27 hi hz0 hz1 hz2 rfl (by decide) _ m _ rfl (own_below hown3 ((Below.refl _ _).alloc (Nat.le_refl _) _)) ⟨w3.heap.size, 0, none⟩ 1 1 (P2.cells ⟨x, cv⟩) rfl rfl ?c1 ?c2 ?c3 ?c4 ?c5 ?_)
            case c1 => exact cell_new w3 (P2.cells ⟨x, cv⟩) 36
            case c2 => intro u hu; simp [P2.cells] at hu; rcases hu with rfl | rfl <;> rfl
            case c3 => unfold maxLen; omega
            case c4 => omega
            case c5 => have := hrg3.lt; have := hle2; simp; omega
            intro v' w8 hown8 hg8 _
            have hb8 : Below w.heap.size w w8 := (hb3.alloc hb3.size _).grown hg8 (by have := hb3.size; simp; omega) (fun g' hg' => by have := own_low hown3 g' hg'; omega)
            have hrg8 := (hrg3.alloc _).kept hg8 (by intro e; have := own_low hown3 B e.symm; omega) (by intro e; have := own_low hown3 r e.symm; omega)
            have hz8 : w2.heap.size ≤ w8.heap.size := by have := hg8.size; simp at this; omega
            obtain ⟨V', vc', rfl, _⟩ := own_shape hown8
            have hown9 := flat_snoc2 hown8
            clear hown8
            clear hg8 hown3 hrg3
            go_wp2_with fail
            go_roundw
            case rel => exact ⟨_, cnt3, ps ++ [⟨x, cv⟩], hrg8, HC.out, by rw [List.length_append, ← HM'.out]; exact hown9, by rw [List.length_append, ← HM'.out]; simp; omega, hz8, hb8⟩
            case measure => rw [hrg8.left_eq, HLE.out]; exact hlt
          · have q0 : decide (0 < cv) = false := by simpa using hc0
            have HC := Lib.hid (hC.skip hcv hc0)
            have HLE := Lib.hid hrg.left_eq
            clear hcv hat hC hrg hown hg3
            go_wp2_with fail
            go_roundw
            case rel => exact ⟨_, cnt3, ps, hrg3, HC.out, hown3, by omega, hle2, hb3⟩
            case measure => rw [hrg3.left_eq, HLE.out]; exact hlt

end Go.Proofs.Ytilkcailpkebdaa
