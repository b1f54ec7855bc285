/-
  Texts of the proof, one after the other.
-/
import Derived.Test.YtilkcailpkebdaaGreatBase4
import Derived.Test.YtilkcailpkebdaaGreatBase3
import Derived.Test.YtilkcailpkebdaaGreatBase1

/-
  event.Points: its walk.
-/
namespace Go.Proofs.YtilkcailpkebdaaGreat
open Go.RowKit Go.Maps
set_option linter.unusedVariables false

theorem fold_sumI (am : List Int) : am.foldr (· + ·) 0 = sumI am := by
  induction am with
  | nil => rfl
  | cons a l ih => simp only [List.foldr_cons, sumI, ih]
theorem sumI_take {am : List Int} (h : ∀ a ∈ am, 0 ≤ a) (k : Nat) : sumI (am.take k) ≤ sumI am := by
  induction am generalizing k with
  | nil => simp
  | cons a l ih =>
    cases k with
    | zero =>
      have h1 := h a (by simp)
      have h2 := ih (fun x hx => h x (by simp [hx])) 0
      simp only [List.take_zero, sumI] at h2 ⊢; omega
    | succ k =>
      have h2 := ih (fun x hx => h x (by simp [hx])) k
      simp only [List.take_succ_cons, sumI]; omega
theorem sumAt_bd {los : List Los} {am : List Int} (h : ∀ a ∈ am, 0 ≤ a) (k : Nat) (p t : Int) : 0 ≤ sumAt (los.take k) (am.take k) p t ∧ sumAt (los.take k) (am.take k) p t ≤ sumI am := by
  have hk : ∀ a ∈ am.take k, 0 ≤ a := fun a ha => h a (List.mem_of_mem_take ha)
  have h1 := sumAt_nonneg (los := los.take k) hk p t
  have h2 := sumAt_le (los := los.take k) hk p t
  rw [fold_sumI] at h2
  have h3 := sumI_take h k
  omega
theorem MapAt.put {los : List Los} {am : List Int} {k : Nat} {l : Los} {a p cv : Int} {D : DataW Unit} (h : MapAt (los.take k) (am.take k) p D) (hlen : am.length = los.length) (hl : los[k]? = some l) (ha : am[k]? = some a) (hp : l.peril = p) (hc : cv = sumAt (los.take k) (am.take k) p l.hour) :
    MapAt (los.take (k + 1)) (am.take (k + 1)) p (D.put (.int .i64 l.hour) (.lit (.int .i64 (cv + a)))) := by
  obtain ⟨es, rfl⟩ := h.1
  refine ⟨⟨_, rfl⟩, fun t => ?_⟩
  rw [sumAt_next hlen hl ha]
  by_cases ht : t = l.hour
  · subst ht
    rw [atKey_put_same h.1 (by trivial), if_pos ⟨hp, rfl⟩, hc]
  · rw [atKey_put_other (by intro e; injection e with _ e; exact ht e), if_neg (fun e => ht e.2.symm), Int.add_zero]
    exact h.2 t
theorem MapAt.pass {los : List Los} {am : List Int} {k : Nat} {l : Los} {a p : Int} {D : DataW Unit} (h : MapAt (los.take k) (am.take k) p D) (hlen : am.length = los.length) (hl : los[k]? = some l) (ha : am[k]? = some a) (hp : l.peril ≠ p) : MapAt (los.take (k + 1)) (am.take (k + 1)) p D := by
  refine ⟨h.1, fun t => ?_⟩
  rw [sumAt_next hlen hl ha, if_neg (fun e => hp e.1), Int.add_zero]
  exact h.2 t
theorem MapAt.val {los : List Los} {am : List Int} {p t cv : Int} {D : DataW Unit} (h : MapAt los am p D) (hat : D.atKey (.int .i64 t) (.lit (.int .i64 0)) = .lit (.int .i64 cv)) : cv = sumAt los am p t := by
  rw [h.2 t] at hat
  injection hat with hat
  injection hat with _ hat
  exact hat.symm

theorem flat_snoc2 {w : World} {base n : Nat} {e : TypeId} {v : Value} {ps : List P2} {x : P2} (h : w.ownsRow base e 2 v n (ps.flatMap P2.cells ++ P2.cells x)) : w.ownsRow base e 2 v n ((ps ++ [x]).flatMap P2.cells) := by
  have e1 : (ps ++ [x]).flatMap P2.cells = ps.flatMap P2.cells ++ P2.cells x := by simp
  rw [e1]; exact h
theorem hours_range {los : List Los} {am : List Int} {p t : Int} (h : (los.zip am).all pairOk = true) (ht : t ∈ hoursL los am p) : 0 ≤ t ∧ t ≤ 876599 := by
  induction los generalizing am with
  | nil => simp [hoursL] at ht
  | cons l ls ih =>
    cases am with
    | nil => simp [hoursL] at ht
    | cons a ams =>
      simp only [List.zip_cons_cons, List.all_cons, Bool.and_eq_true] at h
      simp only [hoursL] at ht
      split at ht
      · rcases List.mem_cons.1 ht with rfl | ht
        · have := (pairOk_iff l a).1 h.1; omega
        · exact ih h.2 ht
      · exact ih h.2 ht

set_option maxRecDepth 100000 in
set_option maxHeartbeats 2000000 in
theorem epoints_any (A : Option Addr) (c : Nat) (los : List Los) (M : Option Addr) (mc : Nat) (am : List Int) (p : Int) (w : World) (hll : los.length ≤ 1000) (hal : am.length ≤ 1000) (hL : Losses w 0 A los) (hM : Ints w 0 M am) :
    Calls Tryz.prog 32 #[.slice A los.length c, .slice M am.length mc, .int .i64 p] w fun e w' => ∃ v, e = .returned (.tuple #[v, .int .i64 (chkE los am)]) ∧ w'.ownsRow w.heap.size 55 2 v (eptsF los am p).length ((eptsF los am p).flatMap P2.cells) ∧ Below w.heap.size w w' := by
  have C1 := Lib.hid (checkE_any A c los M mc am w (by omega) (by omega) hL hM)
  obtain ⟨n, hn⟩ : ∃ k, k = los.length := ⟨_, rfl⟩
  obtain ⟨na, hna⟩ : ∃ k, k = am.length := ⟨_, rfl⟩
  rw [← hn, ← hna] at C1 ⊢
  rw [← hn] at hll
  rw [← hna] at hal
  have HN := Lib.hid hn
  have HNA := Lib.hid hna
  clear hn hna
  have hmm := @run_makeMap Tryz.prog
  by_cases hE : chkE los am = 0
  case neg =>
    have q : (chkE los am != 0) = true := by simpa using hE
    have HX : Hid (eptsF los am p = []) := by unfold eptsF; rw [if_neg hE]; rfl
    clear hE
    go_enter Tryz.func32, Tryz.ntmps32
    go_wp2_with (go_at_call 29; refine C1.out.mono ?_; rintro e w1 ⟨rfl, hb1⟩)
    go_ret2
    refine ⟨_, rfl, ?_, hb1⟩
    rw [HX.out]; exact own_nil _ _ _ _
  have hG := goodE_of hE
  have hna : na = n := by rw [HNA.out, HN.out]; exact hG.same
  subst hna
  have HX : Hid (eptsF los am p = ptsF los am p) := by unfold eptsF; rw [if_pos hE]; rfl
  have HE := Lib.hid hE
  have q : (chkE los am != 0) = false := by rw [hE]; rfl
  have hn64 : na ≤ 64 := by rw [HN.out]; exact hG.len
  have HAMB := Lib.hid (fun a ha => (zip_amounts hG.same hG.all a ha).1)
  have HSUM := Lib.hid hG.sum
  have HALL := Lib.hid hG.all
  rw [hE] at C1
  rw [hE]
  clear hE hG
  go_enter Tryz.func32, Tryz.ntmps32
  go_wp2_with fail
  refine C1.out.mono ?_
  rintro e w1 ⟨rfl, hb1⟩
  go_wp2_with fail
  obtain ⟨B, hB⟩ : ∃ B, B = w1.heap.size := ⟨_, rfl⟩
  have hown0 := World.ownsMap_made w1 Tryz.prog 3 (plainElem (H := Unit) Tryz.prog 3)
  have hb0 : Below w.heap.size w (w1.alloc (.map #[] 0)) := hb1.alloc hb1.size _
  have hBw : w.heap.size ≤ B := by rw [hB]; exact hb1.size
  rw [← hB] at hown0 ⊢
  clear hB
  go_loopw [10, 11, 24] (fun _ _ ii wr => ∃ (k : Nat) (D : DataW Unit), k ≤ na ∧ ii = .int .i64 k ∧ wr.ownsMap Tryz.prog 3 (plainElem Tryz.prog 3) B k D ∧ MapAt (los.take k) (am.take k) p D ∧ Below w.heap.size w wr) (fun _ _ ii _ => na - (intOf ii).toNat)
  case atStart => exact ⟨0, _, Nat.zero_le _, rfl, hown0, ⟨isMap_empty, fun h => by simp [sumAt, DataW.atKey]⟩, hb0⟩
  case round =>
    obtain ⟨k, D, hk, rfl, hown, hD, hb⟩ := hrel
    have HD := Lib.hid hD
    clear hown0 hb0 hD hmm C1
    by_cases hkn : k < na
    · obtain ⟨l, hl, _⟩ := drop_cons (xs := los) (i := k) (by rw [← HN.out]; exact hkn)
      obtain ⟨a, ha, _⟩ := drop_cons (xs := am) (i := k) (by rw [← HNA.out]; exact hkn)
      obtain ⟨b, off, rfl, _, hbl, c0, c1, c2, c3, c4, c5, c6, c7, c8, c9⟩ := (hL.below hb).at_ hl
      obtain ⟨b2, off2, rfl, _, hbm, m0⟩ := (hM.below hb).at_ ha
      have hpo := (pairOk_iff l a).1 (List.all_eq_true.1 HALL.out _ (List.mem_of_getElem? (zip_get hl ha)))
      have HLX := Lib.hid hl
      have HAX := Lib.hid ha
      clear hl ha
      obtain ⟨wb, hwb⟩ : ∃ wb : World, wb = wr.alloc (.cells #[.int .i64 l.id, .int .i64 l.pol, .int .i64 l.risk, .int .i64 l.hour, .int .i64 l.peril, .int .i64 l.area, .int .i64 l.cur, .int .i64 l.sum, .int .i64 l.amt, .int .i64 l.paid] 92) := ⟨_, rfl⟩
      have hbb : Below wr.heap.size wr wb := by rw [hwb]; exact (Below.refl _ _).alloc (Nat.le_refl _) _
      have hownb : wb.ownsMap Tryz.prog 3 (plainElem Tryz.prog 3) B k D := by rw [hwb]; exact hown.alloc _
      have hb0b := hb.trans (hbb.mono hb.size)
      have p3 : wb.cell? ⟨wr.heap.size, 3, none⟩ = some (.int .i64 l.hour) := by rw [hwb]; simp
      have p4 : wb.cell? ⟨wr.heap.size, 4, none⟩ = some (.int .i64 l.peril) := by rw [hwb]; simp
      have m0b : wb.cell? ⟨b2, off2 + k, none⟩ = some (.int .i64 a) := (hbb.cell (p := ⟨b2, _, none⟩) hbm).trans m0
      go_upto_region 8 with fail
      rw [← hwb]
      clear hwb c0 c1 c2 c3 c4 c5 c6 c7 c8 c9 hown hbb m0
      by_cases hp : l.peril = p
      · have qp : (l.peril == p) = true := by simpa using hp
        have HP' := Lib.hid hp
        clear hp
        have hkey : keyOf Tryz.prog 3 (.int .i64 l.hour) = some (.int .i64 l.hour) := keyOf_int_mk Tryz.underlying3 (WalkArith.wf_i64 (by omega))
        obtain ⟨cv, hlk, hat, hwf⟩ := hownb.drew.lookup_int lawK Tryz.underlying100 Tryz.underlying3 (zeroI _) hkey
        have hcv := HD.out.val hat
        have hcb := sumAt_bd (los := los) HAMB.out k p l.hour
        rw [← hcv] at hcb
        have hsb := HSUM.out
        have HCV := Lib.hid hcv
        have HKEY := Lib.hid hkey
        have hwf2 : (Lit.int .i64 (cv + a)).wf = true := WalkArith.wf_i64 (by omega)
        have HWF := Lib.hid hwf2
        have hwr : IntKind.i64.wrap (cv + a) = cv + a := IntWalk.i64_in _ (by omega)
        have HWR := Lib.hid hwr
        have hkm : k < maxLen := by unfold maxLen; omega
        clear hat hkey hcv hwf2 hwr
        go_wp2_with fail
        go_still_tail 9, (by kernel_rfl)
        rw [HWR.out]
        refine wpList_mapUpdate_own _ rfl _ _ _ 100 rfl 3 3 lawK Tryz.underlying100 _ B k _ rfl hownb.drew hkm _ _ _ rfl rfl HKEY.out _ [] (plainElem_int Tryz.underlying3 HWF.out) ?_
        intro w2 hown2 hgrow2
        go_wp2_with fail
        have hb2 : Below w.heap.size w w2 := hb0b.drew.grown hgrow2 hb0b.size (fun j hj => by cases hj; exact hBw)
        go_wp2_with fail
        go_roundw
        case rel =>
          refine ⟨k + 1, _, by omega, by go_num, hown2, ?_, hb2⟩
          exact HD.out.put (by rw [← HNA.out, ← HN.out]) HLX.out HAX.out HP'.out HCV.out
        case measure => simp [intOf]; omega
      · have qp : (l.peril == p) = false := by simpa using hp
        have HP' := Lib.hid hp
        clear hp
        go_wp2_with fail
        go_roundw
        case rel => exact ⟨k + 1, D, by omega, by go_num, hownb.mono (by omega), HD.out.pass (by rw [← HNA.out, ← HN.out]) HLX.out HAX.out HP'.out, hb0b⟩
        case measure => simp [intOf]; omega
    · obtain rfl : k = na := by omega
      rw [List.take_of_length_le (by rw [← HN.out]; exact Nat.le_refl _), List.take_of_length_le (by rw [← HNA.out]; exact Nat.le_refl _)] at HD
      go_wp2_with (at_range; refine wpList_range_own _ rfl _ 100 rfl 3 3 lawK Tryz.underlying100 _ B k _ rfl hown ?_; intro w2 hrg2 hg2 hs2)
      go_frame
      have hszD : Maps.size D ≤ k := hown.size_le
      obtain ⟨r, hr⟩ : ∃ r, r = wr.heap.size := ⟨_, rfl⟩
      have hrw : w.heap.size ≤ r := by rw [hr]; exact hb.size
      have hb2 : Below w.heap.size w w2 := hb.grown hg2 hb.size (fun j hj => by cases hj)
      have hBr : B < r := by rw [hr]; exact hown.lt
      rw [← hr] at hrg2 ⊢
      clear hr hs2 hg2 hown
      have hrl := hrg2.lt
      obtain ⟨i0, hi, hz0, hz1, hz2⟩ := info_parts Tryz.infoPoint
      have hst := Coll.start HD.out
      have HR : Hid (∀ t, 0 < sumAt los am p t → 0 ≤ t ∧ t ≤ 876599) := fun t ht => hours_range HALL.out ((sumAt_pos HAMB.out p t).1 ht)
      go_loopw [12, 13, 14] (fun v _ _ wx => ∃ (left : Lit → Bool) (cnt : Nat) (ps : List P2), wx.ranges Tryz.prog 3 (plainElem Tryz.prog 3) B r k D left cnt ∧ Coll (sumAt los am p) left ps ∧ wx.ownsRow w2.heap.size 55 2 v ps.length (ps.flatMap P2.cells) ∧ ps.length + cnt ≤ k ∧ w2.heap.size ≤ wx.heap.size ∧ Below w.heap.size w wx) (fun _ _ _ wx => wx.rangeLeft B r)
      case atStart => exact ⟨_, _, [], hrg2, hst, own_nil _ _ _ _, by simpa using hszD, Nat.le_refl _, hb2⟩
      case round =>
        obtain ⟨left, cnt, ps, hrg, hC, hown, hcnt, hx2, hb⟩ := hrel
        clear hst hrg2 hb2 hszD
        obtain ⟨V, vc, rfl, _⟩ := own_shape hown
        go_wp2_with (at_next; refine wpList_next_ranges_ii _ rfl _ rfl 3 3 .i64 .i64 lawK Tryz.underlying3 Tryz.underlying3 B r k _ _ _ rfl hrg ?_ ?_)
        · intro _ hl0
          have HC := Lib.hid hC
          have HL0 := Lib.hid hl0
          obtain ⟨m, hm⟩ : ∃ m, m = ps.length := ⟨_, rfl⟩
          rw [← hm] at hown hcnt ⊢
          have HM' := Lib.hid hm
          clear hC hl0 hm hrg
          by_cases hm0 : m = 0
          · subst hm0
            have hps : ps = [] := List.eq_nil_of_length_eq_zero HM'.out.symm
            have HPS := Lib.hid hps
            have hfin := HC.out.done HAMB.out HL0.out (List.Perm.refl ps) (by rw [hps]; exact List.Pairwise.nil)
            have HF := Lib.hid hfin
            clear hps hfin
            go_wp2_with fail
            refine (AnyF.slices_SortFunc_none Tryz.sortPoint V vc _ _).mono ?_
            rintro e w' ⟨rfl, rfl⟩
            go_wp2_with fail
            go_ret2
            refine ⟨_, rfl, ?_, hb⟩
            rw [HX.out, ← HF.out, HPS.out]
            rw [HPS.out] at hown
            exact own_base hown (by omega)
          · rcases hown.2 with ⟨_, h00⟩ | ⟨g, cap, cur, hv, hgb, _⟩
            · exact absurd h00 hm0
            obtain ⟨rfl, rfl⟩ : V = some ⟨g, 0, none⟩ ∧ vc = cap := by injection hv with a1 a2 a3; exact ⟨a1, a3⟩
            have CS := Lib.hid (sortP g vc w2.heap.size m ps wr hown HM'.out (fun x hx => (HC.out.each x hx).2.2.2) (by omega))
            clear hv hm0
            go_wp2_with fail
            refine CS.out.mono ?_
            rintro e w4 ⟨rfl, qs, hperm, hsort, hown4, hg4⟩
            have hfin := HC.out.done HAMB.out HL0.out hperm hsort
            have HF := Lib.hid hfin
            have hml : Hid (m = qs.length) := by show m = qs.length; rw [hperm.length_eq]; exact HM'.out
            have hb4 : Below w.heap.size w w4 := hb.grown hg4 hb.size (fun j hj => by cases hj; omega)
            clear hperm hsort hfin CS
            go_wp2_with fail
            go_ret2
            refine ⟨_, rfl, ?_, hb4⟩
            rw [HX.out, ← HF.out, ← hml.out]
            exact own_base hown4 (by omega)
        · intro x cv w3 cnt3 hwx hwc hlx hat hrg3 hlt hg3 hs3 hen
          clear hs3
          have hcv : cv = sumAt los am p x := HD.out.val (hat _)
          have hown3 := hown.kept hg3 (own_far hown (by omega))
          have hle2 : w2.heap.size ≤ w3.heap.size := Nat.le_trans hx2 hg3.size
          have hb3 : Below w.heap.size w w3 := hb.grown hg3 hb.size (fun j hj => by cases hj; exact hrw)
          by_cases hc0 : 0 < cv
          · have q0 : decide (0 < cv) = true := by simpa using hc0
            have hxr := HR.out x (by rw [← hcv]; exact hc0)
            have HC := Lib.hid (hC.keep hlx hcv hc0 hxr)
            have HCV := Lib.hid hcv
            have hle := hg3.size
            have HLE := Lib.hid hrg.left_eq
            obtain ⟨m, hm⟩ : ∃ m, m = ps.length := ⟨_, rfl⟩
            rw [← hm] at hown3 hcnt ⊢
            have HM' := Lib.hid hm
            clear hcv hat hC hrg hown hg3 hm
            go_wp2_with (at_builtin; refine wpList_append_own _ rfl (.tmp 52) (.tmp 56) 56 rfl w2.heap.size 55 i0 _ 2 16 Tryz.underlying56 hi hz0 hz1 hz2 rfl (by decide) _ m _ rfl (own_below hown3 ((Below.refl _ _).alloc (Nat.le_refl _) _)) ⟨w3.heap.size, 0, none⟩ 1 1 (P2.cells ⟨x, cv⟩) rfl rfl ?c1 ?c2 ?c3 ?c4 ?c5 ?_)
            case c1 => exact cell_new w3 (P2.cells ⟨x, cv⟩) 55
            case c2 => intro u hu; simp [P2.cells] at hu; rcases hu with rfl | rfl <;> rfl
            case c3 => unfold maxLen; omega
            case c4 => omega
            case c5 => have := hrg3.lt; have := hle2; simp; omega
            intro v' w8 hown8 hg8 _
            have hb8 : Below w.heap.size w w8 := (hb3.alloc hb3.size _).grown hg8 (by have := hb3.size; simp; omega) (fun g' hg' => by have := own_low hown3 g' hg'; omega)
            have hrg8 := (hrg3.alloc _).kept hg8 (by intro e; have := own_low hown3 B e.symm; omega) (by intro e; have := own_low hown3 r e.symm; omega)
            have hz8 : w2.heap.size ≤ w8.heap.size := by have := hg8.size; simp at this; omega
            obtain ⟨V', vc', rfl, _⟩ := own_shape hown8
            have hown9 := flat_snoc2 hown8
            clear hown8
            clear hg8 hown3 hrg3
            go_wp2_with fail
            go_roundw
            case rel => exact ⟨_, cnt3, ps ++ [⟨x, cv⟩], hrg8, HC.out, by rw [List.length_append, ← HM'.out]; exact hown9, by rw [List.length_append, ← HM'.out]; simp; omega, hz8, hb8⟩
            case measure => rw [hrg8.left_eq, HLE.out]; exact hlt
          · have q0 : decide (0 < cv) = false := by simpa using hc0
            have HC := Lib.hid (hC.skip hcv hc0)
            have HLE := Lib.hid hrg.left_eq
            clear hcv hat hC hrg hown hg3
            go_wp2_with fail
            go_roundw
            case rel => exact ⟨_, cnt3, ps, hrg3, HC.out, hown3, by omega, hle2, hb3⟩
            case measure => rw [hrg3.left_eq, HLE.out]; exact hlt

end Go.Proofs.YtilkcailpkebdaaGreat

/-
  Points of accepted losses are accepted; there are no more windows than losses. Plain Lean.
-/
namespace Go.Proofs.YtilkcailpkebdaaGreat
open Go.RowKit
set_option linter.unusedVariables false

theorem chkLoop_fine : ∀ (ps : List P2) (h : Option Int) (s : Int), (∀ p ∈ ps, ptOk p = true) → ps.Pairwise (fun p q => p.a < q.a) → (∀ x, h = some x → ∀ p ∈ ps, x < p.a) → s + sumB ps ≤ 17592186044416 → chkLoop h ps s = 0 := by
  intro ps
  induction ps with
  | nil => intro h s _ _ _ hs; simp only [chkLoop, sumB] at *; rw [if_neg (by omega)]
  | cons p ps ih =>
    intro h s hok hasc hh hs
    rw [List.pairwise_cons] at hasc
    unfold chkLoop
    rw [if_neg (by rw [hok p (by simp)]; simp), if_neg]
    · refine ih (some p.a) (s + p.b) (fun q hq => hok q (by simp [hq])) hasc.2 (fun x hx q hq => ?_) (by simp only [sumB] at hs; omega)
      injection hx with hx; subst hx; exact hasc.1 q hq
    · cases h with
      | none => simp
      | some x => have := hh x rfl p (by simp); simp; omega
theorem sumB_map (ps : List P2) : sumB ps = sumI (ps.map P2.b) := by
  induction ps with
  | nil => rfl
  | cons p ps ih => simp only [sumB, List.map_cons, sumI, ih]
theorem sum_const0 (ks : List Int) (f : Int → Int) (h : ∀ k, f k = 0) : sumI (ks.map f) = 0 := by
  induction ks with
  | nil => rfl
  | cons k ks ih => simp only [List.map_cons, sumI, ih, h]; omega
theorem sumI_pos0 {am : List Int} (h : ∀ a ∈ am, 0 ≤ a) : 0 ≤ sumI am := by
  induction am with
  | nil => simp [sumI]
  | cons a l ih => have h1 := h a (by simp); have h2 := ih (fun x hx => h x (by simp [hx])); simp only [sumI]; omega
/-- Sums over the hours are sums over losses. -/
theorem sum_sumAt_le (p : Int) : ∀ (los : List Los) (am : List Int) (ks : List Int), ks.Nodup → (∀ a ∈ am, 0 ≤ a) → sumI (ks.map (sumAt los am p)) ≤ sumI am := by
  intro los
  induction los with
  | nil =>
    intro am ks _ h
    have h0 : sumI (ks.map (sumAt [] am p)) = 0 := sum_const0 ks _ (fun k => rfl)
    have h1 := sumI_pos0 h
    omega
  | cons l ls ih =>
    intro am ks hk h
    cases am with
    | nil =>
      have h0 : sumI (ks.map (sumAt (l :: ls) [] p)) = 0 := sum_const0 ks _ (fun k => rfl)
      simp only [sumI]; omega
    | cons a ams =>
      have h1 := h a (by simp)
      have h2 := ih ams ks hk (fun x hx => h x (by simp [hx]))
      have h3 : sumI (ks.map (sumAt (l :: ls) (a :: ams) p)) ≤ a + sumI (ks.map (sumAt ls ams p)) := by
        clear ih h2 h
        induction ks with
        | nil => simp [sumI]; exact h1
        | cons k ks ih2 =>
          rw [List.nodup_cons] at hk
          have h4 := ih2 hk.2
          simp only [List.map_cons, sumI]
          have e : sumAt (l :: ls) (a :: ams) p k = (if l.peril = p ∧ l.hour = k then a else 0) + sumAt ls ams p k := rfl
          rw [e]
          by_cases hc : l.peril = p ∧ l.hour = k
          · rw [if_pos hc]
            have e2 : ks.map (sumAt (l :: ls) (a :: ams) p) = ks.map (sumAt ls ams p) := List.map_congr_left fun t ht => by
              have : ¬ (l.peril = p ∧ l.hour = t) := fun h => hk.1 (by rw [← hc.2, h.2]; exact ht)
              show (if l.peril = p ∧ l.hour = t then a else 0) + sumAt ls ams p t = _
              rw [if_neg this]; omega
            rw [e2]; omega
          · rw [if_neg hc]; omega
      simp only [sumI]; omega
theorem ptsF_fine {los : List Los} {am : List Int} (h : chkE los am = 0) (p : Int) : (∀ x ∈ ptsF los am p, ptOk x = true) ∧ (ptsF los am p).Pairwise (fun a b => a.a < b.a) ∧ sumB (ptsF los am p) ≤ 17592186044416 ∧ (ptsF los am p).length ≤ 64 := by
  have hG := goodE_of h
  have hN : ∀ a ∈ am, 0 ≤ a := fun a ha => (zip_amounts hG.same hG.all a ha).1
  have hs : sumB (ptsF los am p) ≤ sumI am := by
    rw [sumB_map]
    unfold ptsF
    rw [List.map_map]
    exact sum_sumAt_le p los am (hoursF los am p) ((asc_insAll _).imp (fun hab => by omega)) hN
  have hsm := hG.sum
  refine ⟨fun x hx => ?_, List.pairwise_map.2 (asc_insAll _), by omega, ?_⟩
  · obtain ⟨t, ht, rfl⟩ := List.mem_map.1 hx
    have h1 := (mem_hoursF hN p t).1 ht
    have h2 := hours_range hG.all ((sumAt_pos hN p t).1 h1)
    have h3 := sumAt_le (los := los) hN p t
    rw [fold_sumI] at h3
    exact (ptOk_iff _).2 ⟨h2.1, h2.2, by dsimp only; omega, by dsimp only; omega⟩
  · unfold ptsF; rw [List.length_map]
    refine Nat.le_trans (insAll_len _) ?_
    have : ∀ (ls : List Los) (ams : List Int), (hoursL ls ams p).length ≤ ls.length := by
      intro ls
      induction ls with
      | nil => intro ams; simp [hoursL]
      | cons l ls ih =>
        intro ams
        cases ams with
        | nil => simp [hoursL]
        | cons a ams => have := ih ams; simp only [hoursL]; split <;> simp only [List.length_cons] <;> omega
    exact Nat.le_trans (this los am) hG.len
theorem chkErr_pts {los : List Los} {am : List Int} {n : Int} {ls : List P2} (h : chkE los am = 0) (hr : recErr 0 ls = 0) (hn : ¬ (n < 1 ∨ 8784 < n)) (p : Int) : chkErr (ptsF los am p) n ls = 0 := by
  obtain ⟨h1, h2, h3, h4⟩ := ptsF_fine h p
  unfold chkErr
  rw [if_neg (by simp [hr]), if_neg hn, if_neg (by omega)]
  exact chkLoop_fine _ none 0 h1 h2 (fun x hx => by cases hx) (by omega)
/-- How many losses are by a peril. -/
def cntP (los : List Los) (p : Int) : Nat := (los.filter fun l => decide (l.peril = p)).length
theorem hoursL_cnt (p : Int) : ∀ (los : List Los) (am : List Int), (hoursL los am p).length ≤ cntP los p := by
  intro los
  induction los with
  | nil => intro am; simp [hoursL]
  | cons l ls ih =>
    intro am
    cases am with
    | nil => simp [hoursL]
    | cons a ams =>
      have := ih ams
      unfold cntP at *
      simp only [hoursL]
      by_cases hp : l.peril = p
      · rw [List.filter_cons_of_pos (by simpa using hp), List.length_cons]
        split
        · simp only [List.length_cons]; omega
        · omega
      · rw [List.filter_cons_of_neg (by simpa using hp), if_neg (fun h => hp h.1)]; exact this
theorem sum_cntP : ∀ (los : List Los) (ks : List Int), ks.Nodup → (ks.map (cntP los)).sum ≤ los.length := by
  intro los
  induction los with
  | nil =>
    intro ks _
    have : ∀ ks : List Int, (ks.map (cntP [])).sum = 0 := by
      intro ks
      induction ks with
      | nil => rfl
      | cons k ks ih => rw [List.map_cons, List.sum_cons, ih]; rfl
    rw [this]; exact Nat.zero_le _
  | cons l ls ih =>
    intro ks hk
    have h1 := ih ks hk
    have h2 : (ks.map (cntP (l :: ls))).sum ≤ 1 + (ks.map (cntP ls)).sum := by
      clear ih h1
      induction ks with
      | nil => simp
      | cons k ks ih2 =>
        rw [List.nodup_cons] at hk
        have h4 := ih2 hk.2
        simp only [List.map_cons, List.sum_cons]
        by_cases hc : l.peril = k
        · have e1 : cntP (l :: ls) k = 1 + cntP ls k := by unfold cntP; rw [List.filter_cons_of_pos (by simpa using hc), List.length_cons]; omega
          have e2 : ks.map (cntP (l :: ls)) = ks.map (cntP ls) := List.map_congr_left fun t ht => by
            unfold cntP; rw [List.filter_cons_of_neg (by simp; intro h; exact hk.1 (by rw [← hc, h]; exact ht))]
          rw [e1, e2]; omega
        · have e1 : cntP (l :: ls) k = cntP ls k := by unfold cntP; rw [List.filter_cons_of_neg (by simpa using hc)]
          rw [e1]; omega
    simp only [List.length_cons]; omega
theorem coll_part (los : List Los) (am : List Int) (n : Int) (ls : List P2) : ∀ ks : List Int, (ks.flatMap (winsP los am n ls)).length ≤ (ks.map (cntP los)).sum := by
  intro ks
  induction ks with
  | nil => simp
  | cons k ks ih =>
    rw [List.flatMap_cons, List.length_append, List.map_cons, List.sum_cons]
    have h1 := winsP_len los am n ls k
    have h2 : (ptsF los am k).length ≤ cntP los k := by unfold ptsF; rw [List.length_map]; exact Nat.le_trans (insAll_len _) (hoursL_cnt k los am)
    omega
theorem coll_take_len {los : List Los} {am : List Int} {n : Int} {ls : List P2} (k : Nat) : (((perilsF los).take k).flatMap (winsP los am n ls)).length ≤ los.length := by
  refine Nat.le_trans (coll_part los am n ls _) (sum_cntP los _ ?_)
  have hp : perilsF los = insAll (perilsL los) := compact_sorted _
  rw [hp]
  exact ((asc_insAll _).imp (fun hab => by omega)).sublist (List.take_sublist _ _)
theorem coll_len {los : List Los} {am : List Int} {n : Int} {ls : List P2} : (collW los am n ls).length ≤ los.length := by
  have := coll_take_len (los := los) (am := am) (n := n) (ls := ls) (perilsF los).length
  rw [List.take_length] at this
  exact this
theorem best_len {los : List Los} {am : List Int} {n : Int} {ls : List P2} : (bestF los am n ls).length ≤ los.length := by
  obtain ⟨_, h2⟩ := insW_all (collW los am n ls) [] List.Pairwise.nil
  rw [List.append_nil] at h2
  unfold bestF
  rw [h2.length_eq]; exact coll_len
theorem spans_in (L : Int) (ls ps : List P2) : ∀ f i, ∀ s ∈ spansF L ls ps f i, 0 ≤ s.a ∧ s.a ≤ s.b ∧ s.b < ps.length := by
  intro f
  induction f with
  | zero => intro i s hs; simp [spansF] at hs
  | succ f ih =>
    intro i s hs
    by_cases hi : i < ps.length
    · obtain ⟨p, hp, hd⟩ := drop_cons (xs := ps) (i := i) hi
      by_cases he : valAt L ls ps i = valAt L ls ps (i + 1)
      · rw [spans_eq hp he] at hs; exact ih _ s hs
      · obtain ⟨j, hj⟩ := findAt_some hd he
        have hb := findAt_bd hj
        rw [spans_hit hp he hj] at hs
        rcases List.mem_cons.1 hs with rfl | hs
        · dsimp only; omega
        · exact ih _ s hs
    · rw [spans_end (by omega)] at hs; simp at hs
theorem spansOf_in {ps : List P2} {n : Int} {ls : List P2} {s : P2} (h : s ∈ spansOf ps n ls) : 0 ≤ s.a ∧ s.a ≤ s.b ∧ s.b < ps.length := by
  unfold spansOf at h
  split at h
  · exact spans_in n ls ps _ _ s h
  · simp at h
def bestA (los : List Los) (am : List Int) (n : Int) (ls : List P2) : Int :=
  if chkE los am ≠ 0 then chkE los am else if recErr 0 ls ≠ 0 then recErr 0 ls else if n < 1 ∨ 8784 < n then 1 else 0
def bestW (los : List Los) (am : List Int) (n : Int) (ls : List P2) : List Win := if bestA los am n ls = 0 then evW los am (bestF los am n ls) n ls else []
def bestT (los : List Los) (am : List Int) (n : Int) (ls : List P2) : List Int := if bestA los am n ls = 0 then evT los am (bestF los am n ls) n ls else []
def bestR (los : List Los) (am : List Int) (n : Int) (ls : List P2) : List Int := if bestA los am n ls = 0 then evR los am (bestF los am n ls) n ls else []
def bestE (los : List Los) (am : List Int) (n : Int) (ls : List P2) : Int := if bestA los am n ls = 0 then evalErr los am (bestF los am n ls) n ls else bestA los am n ls
theorem best_bad {los : List Los} {am : List Int} {n : Int} {ls : List P2} (h : bestA los am n ls ≠ 0) : bestW los am n ls = [] ∧ bestT los am n ls = [] ∧ bestR los am n ls = [] ∧ bestE los am n ls = bestA los am n ls := by
  unfold bestW bestT bestR bestE; rw [if_neg h, if_neg h, if_neg h, if_neg h]; exact ⟨rfl, rfl, rfl, rfl⟩
theorem best_ok {los : List Los} {am : List Int} {n : Int} {ls : List P2} (h : bestA los am n ls = 0) : bestW los am n ls = evW los am (bestF los am n ls) n ls ∧ bestT los am n ls = evT los am (bestF los am n ls) n ls ∧ bestR los am n ls = evR los am (bestF los am n ls) n ls ∧ bestE los am n ls = evalErr los am (bestF los am n ls) n ls := by
  unfold bestW bestT bestR bestE; rw [if_pos h, if_pos h, if_pos h, if_pos h]; exact ⟨rfl, rfl, rfl, rfl⟩

end Go.Proofs.YtilkcailpkebdaaGreat

/-
  The chosen spans: each is shorter than the length, and each begins behind the one before it. Plain Lean.
-/
namespace Go.Proofs.YtilkcailpkebdaaGreat
open Go.RowKit
set_option linter.unusedVariables false

theorem findJ_short {L : Int} {ls : List P2} {h0 r : Int} : ∀ (qs : List P2) (vs : List Int) (t : Int) (j k : Nat), findJ L ls h0 r qs vs t j = some k → j ≤ k ∧ ∃ q, qs[k - j]? = some q ∧ q.a - h0 < L := by
  intro qs
  induction qs with
  | nil => intro vs t j k h; simp [findJ] at h
  | cons q qs ih =>
    intro vs t j k h
    cases vs with
    | nil => simp [findJ] at h
    | cons v vs =>
      unfold findJ at h
      split at h
      · cases h
      · rename_i hlt
        split at h
        · injection h with h
          subst h
          exact ⟨Nat.le_refl _, q, by simp, by omega⟩
        · obtain ⟨h1, q', h2, h3⟩ := ih vs _ _ k h
          refine ⟨by omega, q', ?_, h3⟩
          rw [show k - j = (k - (j + 1)) + 1 by omega]; simpa using h2
theorem spans_short (L : Int) (ls ps : List P2) : ∀ f i, (∀ s ∈ spansF L ls ps f i, hourAt ps s.b - hourAt ps s.a < L) ∧ (spansF L ls ps f i).Pairwise (fun a b => a.b < b.a) ∧ (∀ s ∈ spansF L ls ps f i, (i : Int) ≤ s.a) := by
  intro f
  induction f with
  | zero => intro i; simp [spansF]
  | succ f ih =>
    intro i
    by_cases hi : i < ps.length
    · obtain ⟨p, hp, hd⟩ := drop_cons (xs := ps) (i := i) hi
      by_cases he : valAt L ls ps i = valAt L ls ps (i + 1)
      · rw [spans_eq hp he]
        obtain ⟨h1, h2, h3⟩ := ih (i + 1)
        exact ⟨h1, h2, fun s hs => by have := h3 s hs; omega⟩
      · obtain ⟨j, hj⟩ := findAt_some hd he
        have hb := findAt_bd hj
        obtain ⟨h1, h2, h3⟩ := ih (j + 1)
        rw [spans_hit hp he hj]
        refine ⟨fun s hs => ?_, List.pairwise_cons.2 ⟨fun s hs => ?_, h2⟩, fun s hs => ?_⟩
        · rcases List.mem_cons.1 hs with rfl | hs
          · unfold findAt at hj
            obtain ⟨h4, q, h5, h6⟩ := findJ_short _ _ _ _ _ hj
            rw [List.getElem?_drop, show i + (j - i) = j by omega] at h5
            dsimp only
            unfold hourAt
            rw [Int.toNat_natCast, Int.toNat_natCast, h5, hp]
            exact h6
          · exact h1 s hs
        · have := h3 s hs; dsimp only; omega
        · rcases List.mem_cons.1 hs with rfl | hs
          · exact Int.le_refl _
          · have := h3 s hs; omega
    · rw [spans_end (by omega)]; simp
/-- Windows of a peril: as long as allowed, and apart. -/
theorem winsP_fine {los : List Los} {am : List Int} {n : Int} {ls : List P2} (h : chkE los am = 0) (p : Int) : (∀ w ∈ winsP los am n ls p, 0 ≤ w.fr ∧ w.fr < w.to ∧ w.to ≤ 876600 ∧ w.to - w.fr ≤ n) ∧ (winsP los am n ls p).Pairwise (fun a b => a.to ≤ b.fr) := by
  obtain ⟨h1, h2, _, _⟩ := ptsF_fine h p
  have hle : ∀ i j : Int, 0 ≤ i → i ≤ j → j < (ptsF los am p).length → hourAt (ptsF los am p) i ≤ hourAt (ptsF los am p) j := fun i j hi hij hj => by
    rcases Int.lt_or_eq_of_le hij with hlt | rfl
    · have := hourAt_lt h2 hi hlt hj; omega
    · exact Int.le_refl _
  have hin : ∀ i : Int, 0 ≤ i → i < (ptsF los am p).length → 0 ≤ hourAt (ptsF los am p) i ∧ hourAt (ptsF los am p) i ≤ 876599 := fun i hi hj => by
    have hl : i.toNat < (ptsF los am p).length := by omega
    unfold hourAt
    rw [List.getElem?_eq_getElem hl]
    have := (ptOk_iff _).1 (h1 _ (List.getElem_mem hl))
    exact ⟨this.1, this.2.1⟩
  unfold winsP spansOf
  split
  · have hs := spans_short n ls (ptsF los am p) (ptsF los am p).length 0
    have hr := spans_in n ls (ptsF los am p) (ptsF los am p).length 0
    constructor
    · intro w hw
      obtain ⟨s, hsm, rfl⟩ := List.mem_map.1 hw
      have a1 := hr s hsm
      have a2 := hs.1 s hsm
      have a3 := hin s.a a1.1 (by omega)
      have a4 := hin s.b (by omega) a1.2.2
      have a5 := hle s.a s.b a1.1 a1.2.1 a1.2.2
      unfold winOf; dsimp only; omega
    · refine List.pairwise_map.2 (hs.2.1.imp_of_mem fun {a b} ha hb hab => ?_)
      have b1 := hr a ha
      have b2 := hr b hb
      have := hourAt_lt h2 (i := a.b) (j := b.a) (by omega) hab (by omega)
      unfold winOf; dsimp only; omega
  · exact ⟨fun w hw => by simp at hw, List.Pairwise.nil⟩

end Go.Proofs.YtilkcailpkebdaaGreat

/-
  Valid windows have each loss at most once; the totals add up, in whatever order the losses stand: plain Lean.
-/
namespace Go.Proofs.YtilkcailpkebdaaGreat
open Go.RowKit
set_option linter.unusedVariables false

def cntW : List Win → Los → Int
  | [], _ => 0
  | x :: xs, l => (if covers x l = true then 1 else 0) + cntW xs l
theorem cntW_nonneg (ws : List Win) (l : Los) : 0 ≤ cntW ws l ∧ cntW ws l ≤ ws.length := by
  induction ws with
  | nil => simp [cntW]
  | cons x xs ih => simp only [cntW, List.length_cons]; split <;> omega
theorem cntW_next {ws : List Win} {l : Los} {k : Nat} {x : Win} {s r : Int} (hd : ws.drop k = x :: ws.drop (k + 1)) (h : s + cntW (ws.drop k) l = r) : (s + if covers x l = true then 1 else 0) + cntW (ws.drop (k + 1)) l = r := by
  rw [hd, cntW] at h; omega
theorem findW_cnt (l : Los) : ∀ (ws : List Win) (k : Nat), 0 ≤ findW l ws k ↔ 0 < cntW ws l := by
  intro ws
  induction ws with
  | nil => intro k; simp [findW, cntW]
  | cons x xs ih =>
    intro k
    have := cntW_nonneg xs l
    simp only [findW, cntW]
    split
    · constructor <;> intro _ <;> omega
    · rw [ih]; omega
theorem wins_meet (n : Int) : ∀ (xs before : List Win), winsLoop n before xs = 0 → xs.Pairwise (fun v x => winMeet v x = false) ∧ ∀ v ∈ before, ∀ x ∈ xs, winMeet v x = false := by
  intro xs
  induction xs with
  | nil => intro before _; exact ⟨List.Pairwise.nil, fun _ _ _ h => by simp at h⟩
  | cons x xs ih =>
    intro before h
    unfold winsLoop at h
    split at h
    · rename_i h1; exact absurd h h1
    · rename_i h1
      have h0 : oneE before x n = 0 := by omega
      obtain ⟨p1, p2⟩ := ih _ h
      have hm : ∀ v ∈ before, winMeet v x = false := by
        intro v hv
        unfold oneE at h0
        split at h0
        · omega
        · split at h0
          · omega
          · split at h0
            · omega
            · split at h0
              · omega
              · rename_i h4
                rw [List.any_eq_true] at h4
                cases hq : winMeet v x with
                | false => rfl
                | true => exact absurd ⟨v, hv, hq⟩ h4
      refine ⟨List.pairwise_cons.2 ⟨fun y hy => p2 x (by simp) y hy, p1⟩, fun v hv y hy => ?_⟩
      rcases List.mem_cons.1 hy with rfl | hy
      · exact hm v hv
      · exact p2 v (by simp [hv]) y hy
theorem cnt_once {ws : List Win} (h : ws.Pairwise (fun v x => winMeet v x = false)) (l : Los) : cntW ws l ≤ 1 := by
  induction ws with
  | nil => simp [cntW]
  | cons x xs ih =>
    rw [List.pairwise_cons] at h
    have h2 := ih h.2
    simp only [cntW]
    split
    · rename_i hc
      have : cntW xs l = 0 := by
        have h1 := h.1
        clear h ih h2
        induction xs with
        | nil => rfl
        | cons y ys ih2 =>
          have hy := h1 y (by simp)
          have := ih2 (fun z hz => h1 z (by simp [hz]))
          simp only [cntW]
          rw [if_neg, this]
          · rfl
          · intro hcy
            have a1 := (covers_iff _ _).1 hc
            have a2 := (covers_iff _ _).1 hcy
            have : winMeet x y = true := (winMeet_iff _ _).2 ⟨by omega, by omega, by omega⟩
            rw [hy] at this; cases this
      omega
    · omega
theorem valid_once {ws : List Win} {n : Int} (h : winsE ws n = 0) (l : Los) : cntW ws l ≤ 1 := by
  unfold winsE at h
  split at h
  · omega
  · split at h
    · omega
    · exact cnt_once (wins_meet n ws [] h).1 l
theorem valid_asg {ws : List Win} {n : Int} (h : winsE ws n = 0) (l : Los) : (cntW ws l = 1 ∧ 0 ≤ asgAt ws l) ∨ (cntW ws l = 0 ∧ ¬ 0 ≤ asgAt ws l) := by
  have h1 := valid_once h l
  have h2 := findW_cnt l ws 0
  have h3 := cntW_nonneg ws l
  unfold asgAt
  rw [h2]
  omega

/-- What is lost in windows. -/
def sumIn : List Int → List Int → Int
  | i :: is, a :: ams => (if 0 ≤ i then a else 0) + sumIn is ams
  | _, _ => 0
theorem sumI_append (l l' : List Int) : sumI (l ++ l') = sumI l + sumI l' := by
  induction l with
  | nil => simp [sumI]
  | cons a l ih => simp only [List.cons_append, sumI, ih]; omega
theorem sum_range_add (f : Nat → Int) (i a : Int) : ∀ n : Nat, sumI ((List.range n).map (addTo f i a)) = sumI ((List.range n).map f) + if 0 ≤ i ∧ i < n then a else 0 := by
  intro n
  induction n with
  | zero => rw [if_neg (by omega)]; simp [sumI]
  | succ n ih =>
    rw [List.range_succ, List.map_append, List.map_append, sumI_append, sumI_append, ih]
    simp only [List.map_cons, List.map_nil, sumI, addTo]
    by_cases h : (n : Int) = i
    · rw [if_pos h, if_neg (by omega), if_pos (by omega)]; omega
    · rw [if_neg h]
      by_cases h2 : 0 ≤ i ∧ i < n
      · rw [if_pos h2, if_pos (by omega)]; omega
      · rw [if_neg h2, if_neg (by omega)]; omega
theorem sum_totLoop (n : Nat) : ∀ (is am : List Int) (f : Nat → Int), (∀ i ∈ is, i < n) → sumI ((List.range n).map (totLoop is am f)) = sumI ((List.range n).map f) + sumIn is am := by
  intro is
  induction is with
  | nil => intro am f _; simp [totLoop, sumIn]
  | cons i is ih =>
    intro am f h
    cases am with
    | nil => simp [totLoop, sumIn]
    | cons a am =>
      simp only [totLoop, sumIn]
      rw [ih am _ (fun x hx => h x (by simp [hx]))]
      have hi := h i (by simp)
      by_cases h0 : 0 ≤ i
      · rw [if_pos h0, if_pos h0, sum_range_add, if_pos ⟨h0, hi⟩]; omega
      · rw [if_neg h0, if_neg h0]; omega
theorem sum_totF (los : List Los) (am : List Int) (ws : List Win) : sumI (totF los am ws) = sumIn (asgF los ws) am := by
  unfold totF
  rw [sum_totLoop]
  · have : ∀ n : Nat, sumI ((List.range n).map fun _ => (0 : Int)) = 0 := by
      intro n
      induction n with
      | zero => rfl
      | succ n ih => rw [List.range_succ, List.map_append, sumI_append, ih]; rfl
    rw [this]; omega
  · intro i hi
    unfold asgF at hi
    obtain ⟨l, _, rfl⟩ := List.mem_map.1 hi
    have := asgAt_bd ws l
    omega
def at1 (j : Nat) (z : Int × Int) : Int := if (j : Int) = z.1 then z.2 else 0
theorem totLoop_at (j : Nat) : ∀ (is am : List Int) (f : Nat → Int), totLoop is am f j = f j + sumI ((is.zip am).map (at1 j)) := by
  intro is
  induction is with
  | nil => intro am f; simp [totLoop, sumI]
  | cons i is ih =>
    intro am f
    cases am with
    | nil => simp [totLoop, sumI]
    | cons a am =>
      simp only [totLoop, List.zip_cons_cons, List.map_cons, sumI, at1]
      rw [ih]
      by_cases h0 : 0 ≤ i
      · rw [if_pos h0]
        unfold addTo
        by_cases hj : (j : Int) = i
        · rw [if_pos hj, if_pos hj]; omega
        · rw [if_neg hj, if_neg hj]; omega
      · rw [if_neg h0, if_neg (by omega)]; omega
theorem sumI_perm {l l' : List Int} (h : l.Perm l') : sumI l = sumI l' := by
  induction h with
  | nil => rfl
  | cons x _ ih => simp only [sumI, ih]
  | swap x y l => simp only [sumI]; omega
  | trans _ _ h1 h2 => rw [h1, h2]
theorem zip_rev {α β : Type} {l : List α} {l' : List β} (h : l.length = l'.length) : (l.reverse.zip l'.reverse).Perm (l.zip l') := by
  have e : l.reverse.zip l'.reverse = (l.zip l').reverse := by
    show List.zipWith Prod.mk l.reverse l'.reverse = (List.zipWith Prod.mk l l').reverse
    rw [List.reverse_zipWith h]
  rw [e]
  exact List.reverse_perm _
theorem totF_rev {los : List Los} {am : List Int} (ws : List Win) (h : am.length = los.length) : totF los.reverse am.reverse ws = totF los am ws := by
  unfold totF
  refine List.map_congr_left fun j _ => ?_
  rw [totLoop_at, totLoop_at]
  have : asgF los.reverse ws = (asgF los ws).reverse := by unfold asgF; rw [List.map_reverse]
  rw [this, sumI_perm ((zip_rev (l := asgF los ws) (l' := am) (by unfold asgF; rw [List.length_map]; omega)).map (at1 j))]
theorem chkE_rev {los : List Los} {am : List Int} (h : chkE los am = 0) : chkE los.reverse am.reverse = 0 := by
  obtain ⟨h1, h2, h3, h4⟩ := goodE_of h
  rw [chkE_sum (by rw [List.length_reverse, List.length_reverse]; omega), if_neg]
  · rw [sumI_perm (List.reverse_perm am)]; omega
  · rw [List.all_eq_true] at h3 ⊢
    intro z hz
    exact h3 z ((zip_rev h2.symm).mem_iff.1 hz)
theorem sumIn_next {is am : List Int} {k : Nat} {i a s r : Int} (hi : is.drop k = i :: is.drop (k + 1)) (ha : am.drop k = a :: am.drop (k + 1)) (h : s + sumIn (is.drop k) (am.drop k) = r) : (s + if 0 ≤ i then a else 0) + sumIn (is.drop (k + 1)) (am.drop (k + 1)) = r := by
  rw [hi, ha, sumIn] at h; omega

end Go.Proofs.YtilkcailpkebdaaGreat

/-
  Bounds of values: no windows that lie apart recover more than the value at the first index; the chosen spans recover just as much. Plain Lean.
-/
namespace Go.Proofs.YtilkcailpkebdaaGreat
open Go.RowKit
set_option linter.unusedVariables false

theorem limited_mono {a b : Int} (h : a ≤ b) : limited a ≤ limited b := by
  unfold limited imax imin; repeat' split
  all_goals omega
theorem layerF_mono {a b : Int} (h : a ≤ b) (r l : Int) : layerF a r l ≤ layerF b r l := by
  have := limited_mono h
  unfold layerF imax imin; repeat' split
  all_goals omega
theorem layerF_zero (r l : Int) : layerF 0 r l = 0 := by
  have h1 := limited_bd r
  have h2 := limited_bd l
  have h3 : limited 0 = 0 := by unfold limited imax imin; repeat' split
                                all_goals omega
  unfold layerF imax imin; rw [h3]; repeat' split
  all_goals omega
theorem sumL_mono {a b : Int} (h : a ≤ b) (ls : List P2) : sumL a ls ≤ sumL b ls := by
  induction ls with
  | nil => exact Int.le_refl _
  | cons l ls ih => have := layerF_mono h l.a l.b; simp only [sumL]; omega
theorem sumL_zero (ls : List P2) : sumL 0 ls = 0 := by
  induction ls with
  | nil => rfl
  | cons l ls ih => simp only [sumL, layerF_zero, ih]; omega
theorem recVal_zero (ls : List P2) : recVal 0 ls = 0 := by
  unfold recVal; split
  · exact sumL_zero ls
  · rfl
theorem recErr_free {t u : Int} {ls : List P2} (h : recErr t ls = 0) (h0 : 0 ≤ u) (h1 : u ≤ 17592186044416) : recErr u ls = 0 := by
  obtain ⟨a, b, c⟩ := recErr_ok h
  exact (rec_ok (by omega) c (by omega)).1
theorem recVal_mono {a b : Int} (h : a ≤ b) (h0 : 0 ≤ a) (h1 : b ≤ 17592186044416) (ls : List P2) : recVal a ls ≤ recVal b ls := by
  unfold recVal
  by_cases ha : recErr a ls = 0
  · rw [if_pos ha, if_pos (recErr_free ha (by omega) h1)]; exact sumL_mono h ls
  · rw [if_neg ha]
    by_cases hb : recErr b ls = 0
    · exact absurd (recErr_free hb h0 (by omega)) ha
    · rw [if_neg hb]; exact Int.le_refl _

/-- Values that bound. -/
structure BndV (L : Int) (ls ps : List P2) (V : Nat → Int) : Prop where
  last : 0 ≤ V ps.length
  step : ∀ i, i < ps.length → V (i + 1) ≤ V i
  span : ∀ i j p q, i ≤ j → ps[i]? = some p → ps[j]? = some q → q.a - p.a < L → recVal (sumT ps i (j - i + 1)) ls + V (j + 1) ≤ V i
theorem BndV.mono {L : Int} {ls ps : List P2} {V : Nat → Int} (h : BndV L ls ps V) : ∀ k i, i + k ≤ ps.length → V (i + k) ≤ V i := by
  intro k
  induction k with
  | zero => intro i _; exact Int.le_refl _
  | succ k ih =>
    intro i hi
    have h1 := ih (i + 1) (by omega)
    have h2 := h.step i (by omega)
    rw [show i + (k + 1) = i + 1 + k by omega]; omega
theorem BndV.nonneg {L : Int} {ls ps : List P2} {V : Nat → Int} (h : BndV L ls ps V) {i : Nat} (hi : i ≤ ps.length) : 0 ≤ V i := by
  have h1 := h.mono (ps.length - i) i (by omega)
  have h2 := h.last
  rw [show i + (ps.length - i) = ps.length by omega] at h1; omega

def inR (x : Win) (q : P2) : Bool := decide (x.fr ≤ q.a) && decide (q.a < x.to)
theorem inR_iff (x : Win) (q : P2) : inR x q = true ↔ x.fr ≤ q.a ∧ q.a < x.to := by simp [inR]
def amtR (qs : List P2) (x : Win) : Int := sumB (qs.filter (inR x))
def recsR (qs ls : List P2) (ws : List Win) : Int := sumI (ws.map fun x => recVal (amtR qs x) ls)
theorem amtR_none {qs : List P2} {x : Win} (h : ∀ q ∈ qs, inR x q = false) : amtR qs x = 0 := by
  unfold amtR; rw [List.filter_eq_nil_iff.2 (fun q hq => by rw [h q hq]; simp)]; rfl
theorem amtR_drop {qs : List P2} {x : Win} {k : Nat} (h : ∀ q ∈ qs.take k, inR x q = false) : amtR qs x = amtR (qs.drop k) x := by
  unfold amtR
  conv => lhs; rw [← List.take_append_drop k qs]
  rw [List.filter_append, List.filter_eq_nil_iff.2 (fun q hq => by rw [h q hq]; simp), List.nil_append]
theorem recsR_congr {qs qs' ls : List P2} {ws : List Win} (h : ∀ x ∈ ws, amtR qs x = amtR qs' x) : recsR qs ls ws = recsR qs' ls ws := by
  unfold recsR; rw [List.map_congr_left fun x hx => by rw [h x hx]]
theorem amt_split {x : Win} : ∀ {qs : List P2}, qs.Pairwise (fun a b => a.a < b.a) → (∀ q ∈ qs, x.fr ≤ q.a) → ∃ k, k ≤ qs.length ∧ qs.filter (inR x) = qs.take k ∧ (∀ q ∈ qs.take k, q.a < x.to) ∧ (∀ q ∈ qs.drop k, x.to ≤ q.a) := by
  intro qs
  induction qs with
  | nil => intro _ _; exact ⟨0, by simp, by simp, by simp, by simp⟩
  | cons q qs ih =>
    intro hs hf
    rw [List.pairwise_cons] at hs
    by_cases hq : q.a < x.to
    · obtain ⟨k, h1, h2, h3, h4⟩ := ih hs.2 (fun y hy => hf y (by simp [hy]))
      refine ⟨k + 1, by simp only [List.length_cons]; omega, ?_, ?_, ?_⟩
      · rw [List.filter_cons_of_pos ((inR_iff _ _).2 ⟨hf q (by simp), hq⟩), h2, List.take_succ_cons]
      · rw [List.take_succ_cons]; intro y hy
        rcases List.mem_cons.1 hy with rfl | hy
        · exact hq
        · exact h3 y hy
      · rw [List.drop_succ_cons]; exact h4
    · refine ⟨0, by simp, ?_, by simp, ?_⟩
      · rw [List.take_zero, List.filter_eq_nil_iff]
        intro y hy hin
        have hin := (inR_iff _ _).1 hin
        rcases List.mem_cons.1 hy with rfl | hy
        · omega
        · have := hs.1 y hy; omega
      · rw [List.drop_zero]; intro y hy
        rcases List.mem_cons.1 hy with rfl | hy
        · omega
        · have := hs.1 y hy; omega
/-- No windows apart recover more. -/
theorem bound_all {L : Int} {ls ps : List P2} {V : Nat → Int} (h : BndV L ls ps V) (hs : ps.Pairwise (fun a b => a.a < b.a)) : ∀ (m i : Nat) (ws : List Win), ps.length - i + ws.length ≤ m → i ≤ ps.length → ws.Pairwise (fun a b => a.to ≤ b.fr) → (∀ w ∈ ws, w.fr < w.to ∧ w.to - w.fr ≤ L) → recsR (ps.drop i) ls ws ≤ V i := by
  intro m
  induction m with
  | zero =>
    intro i ws hm hi _ _
    have : ws = [] := List.eq_nil_of_length_eq_zero (by omega)
    subst this
    exact h.nonneg hi
  | succ m ih =>
    intro i ws hm hi hp hw
    cases ws with
    | nil => exact h.nonneg hi
    | cons w ws =>
      rw [List.pairwise_cons] at hp
      have hww := hw w (by simp)
      simp only [List.length_cons] at hm
      by_cases hin : i < ps.length
      · obtain ⟨q, hq, hd⟩ := drop_cons (xs := ps) (i := i) hin
        have hsd : (ps.drop i).Pairwise (fun a b => a.a < b.a) := hs.sublist (List.drop_sublist _ _)
        rw [hd, List.pairwise_cons] at hsd
        by_cases h1 : q.a < w.fr
        · have e : recsR (ps.drop i) ls (w :: ws) = recsR (ps.drop (i + 1)) ls (w :: ws) := recsR_congr fun x hx => by
            have hxf : w.fr ≤ x.fr := by
              rcases List.mem_cons.1 hx with rfl | hx
              · exact Int.le_refl _
              · have := hp.1 x hx; omega
            have e1 := amtR_drop (qs := ps.drop i) (x := x) (k := 1) (by rw [hd]; simp; unfold inR; simp; intro _; omega)
            rw [e1, List.drop_drop]
          rw [e]
          have := ih (i + 1) (w :: ws) (by simp only [List.length_cons]; omega) (by omega) (List.pairwise_cons.2 hp) hw
          have := h.step i hin
          omega
        · by_cases h2 : w.to ≤ q.a
          · have e : amtR (ps.drop i) w = 0 := amtR_none fun y hy => by
              rw [hd] at hy
              have : q.a ≤ y.a := by
                rcases List.mem_cons.1 hy with rfl | hy
                · exact Int.le_refl _
                · have := hsd.1 y hy; omega
              unfold inR; simp; omega
            have e2 : recsR (ps.drop i) ls (w :: ws) = recsR (ps.drop i) ls ws := by
              unfold recsR; rw [List.map_cons, sumI, e, recVal_zero]; omega
            rw [e2]
            exact ih i ws (by omega) hi hp.2 (fun x hx => hw x (by simp [hx]))
          · obtain ⟨k, k1, k2, k3, k4⟩ := amt_split (x := w) (qs := ps.drop i) (hs.sublist (List.drop_sublist _ _)) (fun y hy => by
              rw [hd] at hy
              rcases List.mem_cons.1 hy with rfl | hy
              · omega
              · have := hsd.1 y hy; omega)
            rw [List.length_drop] at k1
            have k0 : k ≠ 0 := by
              rintro rfl
              have := k4 q (by rw [List.drop_zero, hd]; simp)
              omega
            obtain ⟨z, hz, _⟩ := drop_cons (xs := ps) (i := i + (k - 1)) (by omega)
            have hza : z.a < w.to := k3 z (by
              refine List.mem_of_getElem? (i := k - 1) ?_
              rw [List.getElem?_take_of_lt (by omega), List.getElem?_drop]; exact hz)
            have e1 : amtR (ps.drop i) w = sumT ps i k := by unfold amtR sumT; rw [k2]
            have e2 : recsR (ps.drop i) ls ws = recsR (ps.drop (i + k)) ls ws := recsR_congr fun x hx => by
              have hxf := hp.1 x hx
              have e3 := amtR_drop (qs := ps.drop i) (x := x) (k := k) (fun y hy => by have := k3 y hy; unfold inR; simp; omega)
              rw [e3, List.drop_drop]
            have e3 : recsR (ps.drop i) ls (w :: ws) = recVal (sumT ps i k) ls + recsR (ps.drop (i + k)) ls ws := by
              rw [← e2, ← e1]; rfl
            have h3 := h.span i (i + (k - 1)) q z (by omega) hq hz (by omega)
            rw [show i + (k - 1) - i + 1 = k by omega, show i + (k - 1) + 1 = i + k by omega] at h3
            have h4 := ih (i + k) ws (by omega) (by omega) hp.2 (fun x hx => hw x (by simp [hx]))
            rw [e3]; omega
      · have e2 : recsR (ps.drop i) ls (w :: ws) = recsR (ps.drop i) ls ws := by
          have e : amtR (ps.drop i) w = 0 := amtR_none fun y hy => by rw [List.drop_eq_nil_of_le (by omega)] at hy; simp at hy
          unfold recsR; rw [List.map_cons, sumI, e, recVal_zero]; omega
        rw [e2]
        exact ih i ws (by omega) hi hp.2 (fun x hx => hw x (by simp [hx]))

/-! ### The values bound -/
theorem scan_ge (L : Int) (ls : List P2) (h0 : Int) : ∀ (qs : List P2) (vs : List Int) (t b : Int), b ≤ scan L ls h0 qs vs t b := by
  intro qs
  induction qs with
  | nil => intro vs t b; rw [scan_nil]; exact Int.le_refl _
  | cons q qs ih =>
    intro vs t b
    cases vs with
    | nil => simp only [scan]; exact Int.le_refl _
    | cons v vs =>
      simp only [scan]
      split
      · exact Int.le_refl _
      · have := ih vs (t + q.b) (imax b (recVal (t + q.b) ls + v))
        have h2 : b ≤ imax b (recVal (t + q.b) ls + v) := by unfold imax; split <;> omega
        omega
theorem scan_span {L : Int} {ls ps : List P2} {h0 : Int} (hs : ps.Pairwise (fun a b => a.a < b.a)) : ∀ (m k j : Nat) (q : P2) (t b r : Int), j = k + m → ps[j]? = some q → q.a - h0 < L → scan L ls h0 (ps.drop k) (valsF L ls (ps.drop (k + 1))) t b = r → recVal (t + sumT ps k (m + 1)) ls + valAt L ls ps (j + 1) ≤ r := by
  intro m
  induction m with
  | zero =>
    intro k j q t b r hj hq hlt h
    obtain rfl : j = k := by omega
    obtain ⟨q', hq', hd⟩ := drop_cons (xs := ps) (i := j) (List.getElem?_eq_some_iff.1 hq).1
    obtain rfl : q = q' := by rw [hq] at hq'; injection hq'
    have h2 := scan_step hd h hlt
    have h3 := scan_ge L ls h0 (ps.drop (j + 1)) (valsF L ls (ps.drop (j + 2))) (t + q.b) (imax b (recVal (t + q.b) ls + valAt L ls ps (j + 1)))
    rw [h2] at h3
    have h4 : recVal (t + q.b) ls + valAt L ls ps (j + 1) ≤ imax b (recVal (t + q.b) ls + valAt L ls ps (j + 1)) := by unfold imax; split <;> omega
    rw [sumT_cons hd, sumT_zero, Int.add_zero]
    omega
  | succ m ih =>
    intro k j q t b r hj hq hlt h
    have hjl := (List.getElem?_eq_some_iff.1 hq).1
    obtain ⟨q', hq', hd⟩ := drop_cons (xs := ps) (i := k) (by omega)
    have hlt' : q'.a < q.a := by
      have := (List.pairwise_iff_getElem.1 hs) k j (by omega) hjl (by omega)
      rw [(List.getElem?_eq_some_iff.1 hq').2, (List.getElem?_eq_some_iff.1 hq).2] at this
      exact this
    have h2 := scan_step hd h (by omega)
    have h3 := ih (k + 1) j q (t + q'.b) _ r (by omega) hq hlt h2
    rw [sumT_cons hd, ← Int.add_assoc]; exact h3
theorem valAt_bnd {L : Int} {ls ps : List P2} (hs : ps.Pairwise (fun a b => a.a < b.a)) : BndV L ls ps (valAt L ls ps) := by
  refine ⟨by rw [valAt_end]; exact Int.le_refl _, fun i hi => ?_, fun i j p q hij hp hq hlt => ?_⟩
  · obtain ⟨p, hp, hd⟩ := drop_cons (xs := ps) (i := i) hi
    have := scan_ge L ls p.a (ps.drop i) (valsF L ls (ps.drop (i + 1))) 0 (valAt L ls ps (i + 1))
    rw [scan_start hd] at this; exact this
  · obtain ⟨p', hp', hd⟩ := drop_cons (xs := ps) (i := i) (List.getElem?_eq_some_iff.1 hp).1
    obtain rfl : p = p' := by rw [hp] at hp'; injection hp'
    have := scan_span (ls := ls) hs (j - i) i j q 0 _ _ (by omega) hq hlt (scan_start hd)
    rwa [Int.zero_add] at this

/-! ### The chosen spans attain them -/
theorem find_val {L : Int} {ls ps : List P2} {h0 r : Int} : ∀ (m k j : Nat) (t : Int), ps.length - k ≤ m → findJ L ls h0 r (ps.drop k) (valsF L ls (ps.drop (k + 1))) t k = some j → k ≤ j ∧ recVal (t + sumT ps k (j - k + 1)) ls + valAt L ls ps (j + 1) = r := by
  intro m
  induction m with
  | zero =>
    intro k j t hm h
    rw [List.drop_eq_nil_of_le (by omega), findJ_nil] at h; cases h
  | succ m ih =>
    intro k j t hm h
    by_cases hk : k < ps.length
    · obtain ⟨q, hq, hd⟩ := drop_cons (xs := ps) (i := k) hk
      by_cases hlt : q.a - h0 < L
      · by_cases he : recVal (t + q.b) ls + valAt L ls ps (k + 1) = r
        · have := findJ_hit hd h hlt he
          injection this with this
          subst this
          rw [Nat.sub_self, sumT_cons hd, sumT_zero, Int.add_zero]
          exact ⟨Nat.le_refl _, he⟩
        · have h2 := findJ_step hd h hlt he
          obtain ⟨h3, h4⟩ := ih (k + 1) j (t + q.b) (by omega) h2
          refine ⟨by omega, ?_⟩
          rw [show j - k + 1 = (j - (k + 1) + 1) + 1 by omega, sumT_cons hd, ← Int.add_assoc]; exact h4
      · have := findJ_far hd h (by omega); cases this
    · rw [List.drop_eq_nil_of_le (by omega), findJ_nil] at h; cases h
def recS (ps ls : List P2) (s : P2) : Int := recVal (sumT ps s.a.toNat (s.b.toNat - s.a.toNat + 1)) ls
theorem spans_val {L : Int} {ls ps : List P2} (hs : ps.Pairwise (fun a b => a.a < b.a)) : ∀ f i, i ≤ ps.length → ps.length - i ≤ f → sumI ((spansF L ls ps f i).map (recS ps ls)) = valAt L ls ps i ∧ ∀ s ∈ spansF L ls ps f i, 0 < recS ps ls s := by
  intro f
  induction f with
  | zero =>
    intro i hi hf
    obtain rfl : i = ps.length := by omega
    rw [valAt_end]; simp [spansF, sumI]
  | succ f ih =>
    intro i hi hf
    by_cases hin : i < ps.length
    · obtain ⟨p, hp, hd⟩ := drop_cons (xs := ps) (i := i) hin
      by_cases he : valAt L ls ps i = valAt L ls ps (i + 1)
      · rw [spans_eq hp he, he]
        exact ih (i + 1) (by omega) (by omega)
      · obtain ⟨j, hj⟩ := findAt_some hd he
        have hb := findAt_bd hj
        rw [spans_hit hp he hj]
        obtain ⟨h1, h2⟩ := ih (j + 1) (by omega) (by omega)
        unfold findAt at hj
        obtain ⟨_, h3⟩ := find_val (ps.length - i) i j 0 (Nat.le_refl _) hj
        rw [Int.zero_add] at h3
        have hB := valAt_bnd (L := L) (ls := ls) hs
        have h4 := hB.mono (j - i) (i + 1) (by omega)
        rw [show i + 1 + (j - i) = j + 1 by omega] at h4
        have h5 := hB.step i hin
        have h6 : recS ps ls ⟨(i : Int), (j : Int)⟩ = recVal (sumT ps i (j - i + 1)) ls := by unfold recS; rfl
        refine ⟨?_, fun s hsm => ?_⟩
        · rw [List.map_cons, sumI, h1, h6]; exact h3
        · rcases List.mem_cons.1 hsm with rfl | hsm
          · rw [h6]; omega
          · exact h2 s hsm
    · rw [spans_end (by omega)]
      obtain rfl : i = ps.length := by omega
      rw [valAt_end]; simp [sumI]
/-- The points of a window from one point to another. -/
theorem amt_span {ps : List P2} (hs : ps.Pairwise (fun a b => a.a < b.a)) {i j : Nat} {p q : P2} (hij : i ≤ j) (hp : ps[i]? = some p) (hq : ps[j]? = some q) (pe : Int) : amtR ps ⟨pe, p.a, q.a + 1⟩ = sumT ps i (j - i + 1) := by
  have hil := (List.getElem?_eq_some_iff.1 hp).1
  have hjl := (List.getElem?_eq_some_iff.1 hq).1
  have hget : ∀ a b (ha : a < ps.length) (hb : b < ps.length), a < b → ps[a].a < ps[b].a := fun a b ha hb h => (List.pairwise_iff_getElem.1 hs) a b ha hb h
  have ei : ps[i].a = p.a := by rw [(List.getElem?_eq_some_iff.1 hp).2]
  have ej : ps[j].a = q.a := by rw [(List.getElem?_eq_some_iff.1 hq).2]
  rw [amtR_drop (k := i)]
  · obtain ⟨k, k1, k2, k3, k4⟩ := amt_split (x := ⟨pe, p.a, q.a + 1⟩) (qs := ps.drop i) (hs.sublist (List.drop_sublist _ _)) (fun y hy => by
      obtain ⟨t, ht, rfl⟩ := List.mem_iff_getElem.1 hy
      rw [List.getElem_drop]
      rw [List.length_drop] at ht
      dsimp only
      rcases Nat.eq_zero_or_pos t with rfl | h0
      · rw [← ei]; exact Int.le_refl _
      · have := hget i (i + t) hil (by omega) (by omega); omega)
    rw [List.length_drop] at k1
    have hk1 : j - i < k := by
      rcases Nat.lt_or_ge (j - i) k with h | h
      · exact h
      · have := k4 q (by
          refine List.mem_of_getElem? (i := j - i - k) ?_
          rw [List.drop_drop, List.getElem?_drop, show i + k + (j - i - k) = j by omega]; exact hq)
        dsimp only at this; omega
    have hk2 : k ≤ j - i + 1 := by
      rcases Nat.lt_or_ge (j - i + 1) k with h | h
      · have hl : j + 1 < ps.length := by omega
        have := k3 ps[j + 1] (by
          refine List.mem_of_getElem? (i := j - i + 1) ?_
          rw [List.getElem?_take_of_lt (by omega), List.getElem?_drop, show i + (j - i + 1) = j + 1 by omega]; exact List.getElem?_eq_getElem hl)
        have h2 := hget j (j + 1) hjl hl (by omega)
        dsimp only at this; omega
      · exact h
    obtain rfl : k = j - i + 1 := by omega
    unfold amtR sumT; rw [k2]
  · intro y hy
    obtain ⟨t, ht, rfl⟩ := List.mem_iff_getElem.1 hy
    rw [List.length_take] at ht
    rw [List.getElem_take]
    have := hget t i (by omega) hil (by omega)
    unfold inR; simp; omega

end Go.Proofs.YtilkcailpkebdaaGreat
