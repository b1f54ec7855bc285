/-
  Texts of the proof, one after the other.
-/
import Derived.Test.YtilkcailpkebdaaGreatBase4
import Derived.Test.YtilkcailpkebdaaGreatBase1
import Derived.Deep.DeepCutAuto
import Derived.Deep.RegionHeld3
import Derived.Test.YtilkcailpkebdaaGreatBase3

/-
  event.Points: its walk.
-/
namespace Go.Proofs.YtilkcailpkebdaaGreat
open Go.RowKit Go.Maps
set_option linter.unusedVariables false

theorem fold_sumI (am : List Int) : am.foldr (· + ·) 0 = sumI am := by
  induction am with
  | nil => rfl
  | cons a l ih => simp only [List.foldr_cons, sumI, ih]
theorem sumI_take {am : List Int} (h : ∀ a ∈ am, 0 ≤ a) (k : Nat) : sumI (am.take k) ≤ sumI am := by
  induction am generalizing k with
  | nil => simp
  | cons a l ih =>
    cases k with
    | zero =>
      have h1 := h a (by simp)
      have h2 := ih (fun x hx => h x (by simp [hx])) 0
      simp only [List.take_zero, sumI] at h2 ⊢; omega
    | succ k =>
      have h2 := ih (fun x hx => h x (by simp [hx])) k
      simp only [List.take_succ_cons, sumI]; omega
theorem sumAt_bd {los : List Los} {am : List Int} (h : ∀ a ∈ am, 0 ≤ a) (k : Nat) (p t : Int) : 0 ≤ sumAt (los.take k) (am.take k) p t ∧ sumAt (los.take k) (am.take k) p t ≤ sumI am := by
  have hk : ∀ a ∈ am.take k, 0 ≤ a := fun a ha => h a (List.mem_of_mem_take ha)
  have h1 := sumAt_nonneg (los := los.take k) hk p t
  have h2 := sumAt_le (los := los.take k) hk p t
  rw [fold_sumI] at h2
  have h3 := sumI_take h k
  omega
theorem MapAt.put {los : List Los} {am : List Int} {k : Nat} {l : Los} {a p cv : Int} {D : DataW Unit} (h : MapAt (los.take k) (am.take k) p D) (hlen : am.length = los.length) (hl : los[k]? = some l) (ha : am[k]? = some a) (hp : l.peril = p) (hc : cv = sumAt (los.take k) (am.take k) p l.hour) :
    MapAt (los.take (k + 1)) (am.take (k + 1)) p (D.put (.int .i64 l.hour) (.lit (.int .i64 (cv + a)))) := by
  obtain ⟨es, rfl⟩ := h.1
  refine ⟨⟨_, rfl⟩, fun t => ?_⟩
  rw [sumAt_next hlen hl ha]
  by_cases ht : t = l.hour
  · subst ht
    rw [atKey_put_same h.1 (by trivial), if_pos ⟨hp, rfl⟩, hc]
  · rw [atKey_put_other (by intro e; injection e with _ e; exact ht e), if_neg (fun e => ht e.2.symm), Int.add_zero]
    exact h.2 t
theorem MapAt.pass {los : List Los} {am : List Int} {k : Nat} {l : Los} {a p : Int} {D : DataW Unit} (h : MapAt (los.take k) (am.take k) p D) (hlen : am.length = los.length) (hl : los[k]? = some l) (ha : am[k]? = some a) (hp : l.peril ≠ p) : MapAt (los.take (k + 1)) (am.take (k + 1)) p D := by
  refine ⟨h.1, fun t => ?_⟩
  rw [sumAt_next hlen hl ha, if_neg (fun e => hp e.1), Int.add_zero]
  exact h.2 t
theorem MapAt.val {los : List Los} {am : List Int} {p t cv : Int} {D : DataW Unit} (h : MapAt los am p D) (hat : D.atKey (.int .i64 t) (.lit (.int .i64 0)) = .lit (.int .i64 cv)) : cv = sumAt los am p t := by
  rw [h.2 t] at hat
  injection hat with hat
  injection hat with _ hat
  exact hat.symm

theorem flat_snoc2 {w : World} {base n : Nat} {e : TypeId} {v : Value} {ps : List P2} {x : P2} (h : w.ownsRow base e 2 v n (ps.flatMap P2.cells ++ P2.cells x)) : w.ownsRow base e 2 v n ((ps ++ [x]).flatMap P2.cells) := by
  have e1 : (ps ++ [x]).flatMap P2.cells = ps.flatMap P2.cells ++ P2.cells x := by simp
  rw [e1]; exact h
theorem hours_range {los : List Los} {am : List Int} {p t : Int} (h : (los.zip am).all pairOk = true) (ht : t ∈ hoursL los am p) : 0 ≤ t ∧ t ≤ 876599 := by
  induction los generalizing am with
  | nil => simp [hoursL] at ht
  | cons l ls ih =>
    cases am with
    | nil => simp [hoursL] at ht
    | cons a ams =>
      simp only [List.zip_cons_cons, List.all_cons, Bool.and_eq_true] at h
      simp only [hoursL] at ht
      split at ht
      · rcases List.mem_cons.1 ht with rfl | ht
        · have := (pairOk_iff l a).1 h.1; omega
        · exact ih h.2 ht
      · exact ih h.2 ht

set_option maxRecDepth 100000 in
set_option maxHeartbeats 2000000 in
theorem epoints_any (A : Option Addr) (c : Nat) (los : List Los) (M : Option Addr) (mc : Nat) (am : List Int) (p : Int) (w : World) (hll : los.length ≤ 1000) (hal : am.length ≤ 1000) (hL : Losses w 0 A los) (hM : Ints w 0 M am) :
    Calls Tryz.prog 32 #[.slice A los.length c, .slice M am.length mc, .int .i64 p] w fun e w' => ∃ v, e = .returned (.tuple #[v, .int .i64 (chkE los am)]) ∧ w'.ownsRow w.heap.size 55 2 v (eptsF los am p).length ((eptsF los am p).flatMap P2.cells) ∧ Below w.heap.size w w' := by
  have C1 := Lib.hid (checkE_any A c los M mc am w (by omega) (by omega) hL hM)
  obtain ⟨n, hn⟩ : ∃ k, k = los.length := ⟨_, rfl⟩
  obtain ⟨na, hna⟩ : ∃ k, k = am.length := ⟨_, rfl⟩
  rw [← hn, ← hna] at C1 ⊢
  rw [← hn] at hll
  rw [← hna] at hal
  have HN := Lib.hid hn
  have HNA := Lib.hid hna
  clear hn hna
  have hmm := @run_makeMap Tryz.prog
  by_cases hE : chkE los am = 0
  case neg =>
    have q : (chkE los am != 0) = true := by simpa using hE
    have HX : Hid (eptsF los am p = []) := by unfold eptsF; rw [if_neg hE]; rfl
    clear hE
    go_enter Tryz.func32, Tryz.ntmps32
    go_wp2_with (go_at_call 29; refine C1.out.mono ?_; rintro e w1 ⟨rfl, hb1⟩)
    go_ret2
    refine ⟨_, rfl, ?_, hb1⟩
    rw [HX.out]; exact own_nil _ _ _ _
  have hG := goodE_of hE
  have hna : na = n := by rw [HNA.out, HN.out]; exact hG.same
  subst hna
  have HX : Hid (eptsF los am p = ptsF los am p) := by unfold eptsF; rw [if_pos hE]; rfl
  have HE := Lib.hid hE
  have q : (chkE los am != 0) = false := by rw [hE]; rfl
  have hn64 : na ≤ 64 := by rw [HN.out]; exact hG.len
  have HAMB := Lib.hid (fun a ha => (zip_amounts hG.same hG.all a ha).1)
  have HSUM := Lib.hid hG.sum
  have HALL := Lib.hid hG.all
  rw [hE] at C1
  rw [hE]
  clear hE hG
  go_enter Tryz.func32, Tryz.ntmps32
  go_wp2_with fail
  refine C1.out.mono ?_
  rintro e w1 ⟨rfl, hb1⟩
  go_wp2_with fail
  obtain ⟨B, hB⟩ : ∃ B, B = w1.heap.size := ⟨_, rfl⟩
  have hown0 := World.ownsMap_made w1 Tryz.prog 3 (plainElem (H := Unit) Tryz.prog 3)
  have hb0 : Below w.heap.size w (w1.alloc (.map #[] 0)) := hb1.alloc hb1.size _
  have hBw : w.heap.size ≤ B := by rw [hB]; exact hb1.size
  rw [← hB] at hown0 ⊢
  clear hB
  go_loopw [10, 11, 24] (fun _ _ ii wr => ∃ (k : Nat) (D : DataW Unit), k ≤ na ∧ ii = .int .i64 k ∧ wr.ownsMap Tryz.prog 3 (plainElem Tryz.prog 3) B k D ∧ MapAt (los.take k) (am.take k) p D ∧ Below w.heap.size w wr) (fun _ _ ii _ => na - (intOf ii).toNat)
  case atStart => exact ⟨0, _, Nat.zero_le _, rfl, hown0, ⟨isMap_empty, fun h => by simp [sumAt, DataW.atKey]⟩, hb0⟩
  case round =>
    obtain ⟨k, D, hk, rfl, hown, hD, hb⟩ := hrel
    have HD := Lib.hid hD
    clear hown0 hb0 hD hmm C1
    by_cases hkn : k < na
    · obtain ⟨l, hl, _⟩ := drop_cons (xs := los) (i := k) (by rw [← HN.out]; exact hkn)
      obtain ⟨a, ha, _⟩ := drop_cons (xs := am) (i := k) (by rw [← HNA.out]; exact hkn)
      obtain ⟨b, off, rfl, _, hbl, c0, c1, c2, c3, c4, c5, c6, c7, c8, c9⟩ := (hL.below hb).at_ hl
      obtain ⟨b2, off2, rfl, _, hbm, m0⟩ := (hM.below hb).at_ ha
      have hpo := (pairOk_iff l a).1 (List.all_eq_true.1 HALL.out _ (List.mem_of_getElem? (zip_get hl ha)))
      have HLX := Lib.hid hl
      have HAX := Lib.hid ha
      clear hl ha
      obtain ⟨wb, hwb⟩ : ∃ wb : World, wb = wr.alloc (.cells #[.int .i64 l.id, .int .i64 l.pol, .int .i64 l.risk, .int .i64 l.hour, .int .i64 l.peril, .int .i64 l.area, .int .i64 l.cur, .int .i64 l.sum, .int .i64 l.amt, .int .i64 l.paid] 92) := ⟨_, rfl⟩
      have hbb : Below wr.heap.size wr wb := by rw [hwb]; exact (Below.refl _ _).alloc (Nat.le_refl _) _
      have hownb : wb.ownsMap Tryz.prog 3 (plainElem Tryz.prog 3) B k D := by rw [hwb]; exact hown.alloc _
      have hb0b := hb.trans (hbb.mono hb.size)
      have p3 : wb.cell? ⟨wr.heap.size, 3, none⟩ = some (.int .i64 l.hour) := by rw [hwb]; simp
      have p4 : wb.cell? ⟨wr.heap.size, 4, none⟩ = some (.int .i64 l.peril) := by rw [hwb]; simp
      have m0b : wb.cell? ⟨b2, off2 + k, none⟩ = some (.int .i64 a) := (hbb.cell (p := ⟨b2, _, none⟩) hbm).trans m0
      go_upto_region 8 with fail
      rw [← hwb]
      clear hwb c0 c1 c2 c3 c4 c5 c6 c7 c8 c9 hown hbb m0
      by_cases hp : l.peril = p
      · have qp : (l.peril == p) = true := by simpa using hp
        have HP' := Lib.hid hp
        clear hp
        have hkey : keyOf Tryz.prog 3 (.int .i64 l.hour) = some (.int .i64 l.hour) := keyOf_int_mk Tryz.underlying3 (WalkArith.wf_i64 (by omega))
        obtain ⟨cv, hlk, hat, hwf⟩ := hownb.drew.lookup_int lawK Tryz.underlying100 Tryz.underlying3 (zeroI _) hkey
        have hcv := HD.out.val hat
        have hcb := sumAt_bd (los := los) HAMB.out k p l.hour
        rw [← hcv] at hcb
        have hsb := HSUM.out
        have HCV := Lib.hid hcv
        have HKEY := Lib.hid hkey
        have hwf2 : (Lit.int .i64 (cv + a)).wf = true := WalkArith.wf_i64 (by omega)
        have HWF := Lib.hid hwf2
        have hwr : IntKind.i64.wrap (cv + a) = cv + a := IntWalk.i64_in _ (by omega)
        have HWR := Lib.hid hwr
        have hkm : k < maxLen := by unfold maxLen; omega
        clear hat hkey hcv hwf2 hwr
        go_wp2_with fail
        go_still_tail 9, (by kernel_rfl)
        rw [HWR.out]
        refine wpList_mapUpdate_own _ rfl _ _ _ 100 rfl 3 3 lawK Tryz.underlying100 _ B k _ rfl hownb.drew hkm _ _ _ rfl rfl HKEY.out _ [] (plainElem_int Tryz.underlying3 HWF.out) ?_
        intro w2 hown2 hgrow2
        go_wp2_with fail
        have hb2 : Below w.heap.size w w2 := hb0b.drew.grown hgrow2 hb0b.size (fun j hj => by cases hj; exact hBw)
        go_wp2_with fail
        go_roundw
        case rel =>
          refine ⟨k + 1, _, by omega, by go_num, hown2, ?_, hb2⟩
          exact HD.out.put (by rw [← HNA.out, ← HN.out]) HLX.out HAX.out HP'.out HCV.out
        case measure => simp [intOf]; omega
      · have qp : (l.peril == p) = false := by simpa using hp
        have HP' := Lib.hid hp
        clear hp
        go_wp2_with fail
        go_roundw
        case rel => exact ⟨k + 1, D, by omega, by go_num, hownb.mono (by omega), HD.out.pass (by rw [← HNA.out, ← HN.out]) HLX.out HAX.out HP'.out, hb0b⟩
        case measure => simp [intOf]; omega
    · obtain rfl : k = na := by omega
      rw [List.take_of_length_le (by rw [← HN.out]; exact Nat.le_refl _), List.take_of_length_le (by rw [← HNA.out]; exact Nat.le_refl _)] at HD
      go_wp2_with (at_range; refine wpList_range_own _ rfl _ 100 rfl 3 3 lawK Tryz.underlying100 _ B k _ rfl hown ?_; intro w2 hrg2 hg2 hs2)
      go_frame
      have hszD : Maps.size D ≤ k := hown.size_le
      obtain ⟨r, hr⟩ : ∃ r, r = wr.heap.size := ⟨_, rfl⟩
      have hrw : w.heap.size ≤ r := by rw [hr]; exact hb.size
      have hb2 : Below w.heap.size w w2 := hb.grown hg2 hb.size (fun j hj => by cases hj)
      have hBr : B < r := by rw [hr]; exact hown.lt
      rw [← hr] at hrg2 ⊢
      clear hr hs2 hg2 hown
      have hrl := hrg2.lt
      obtain ⟨i0, hi, hz0, hz1, hz2⟩ := info_parts Tryz.infoPoint
      have hst := Coll.start HD.out
      have HR : Hid (∀ t, 0 < sumAt los am p t → 0 ≤ t ∧ t ≤ 876599) := fun t ht => hours_range HALL.out ((sumAt_pos HAMB.out p t).1 ht)
      go_loopw [12, 13, 14] (fun v _ _ wx => ∃ (left : Lit → Bool) (cnt : Nat) (ps : List P2), wx.ranges Tryz.prog 3 (plainElem Tryz.prog 3) B r k D left cnt ∧ Coll (sumAt los am p) left ps ∧ wx.ownsRow w2.heap.size 55 2 v ps.length (ps.flatMap P2.cells) ∧ ps.length + cnt ≤ k ∧ w2.heap.size ≤ wx.heap.size ∧ Below w.heap.size w wx) (fun _ _ _ wx => wx.rangeLeft B r)
      case atStart => exact ⟨_, _, [], hrg2, hst, own_nil _ _ _ _, by simpa using hszD, Nat.le_refl _, hb2⟩
      case round =>
        obtain ⟨left, cnt, ps, hrg, hC, hown, hcnt, hx2, hb⟩ := hrel
        clear hst hrg2 hb2 hszD
        obtain ⟨V, vc, rfl, _⟩ := own_shape hown
        go_wp2_with (at_next; refine wpList_next_ranges_ii _ rfl _ rfl 3 3 .i64 .i64 lawK Tryz.underlying3 Tryz.underlying3 B r k _ _ _ rfl hrg ?_ ?_)
        · intro _ hl0
          have HC := Lib.hid hC
          have HL0 := Lib.hid hl0
          obtain ⟨m, hm⟩ : ∃ m, m = ps.length := ⟨_, rfl⟩
          rw [← hm] at hown hcnt ⊢
          have HM' := Lib.hid hm
          clear hC hl0 hm hrg
          by_cases hm0 : m = 0
          · subst hm0
            have hps : ps = [] := List.eq_nil_of_length_eq_zero HM'.out.symm
            have HPS := Lib.hid hps
            have hfin := HC.out.done HAMB.out HL0.out (List.Perm.refl ps) (by rw [hps]; exact List.Pairwise.nil)
            have HF := Lib.hid hfin
            clear hps hfin
            go_wp2_with fail
            refine (AnyF.slices_SortFunc_none Tryz.sortPoint V vc _ _).mono ?_
            rintro e w' ⟨rfl, rfl⟩
            go_wp2_with fail
            go_ret2
            refine ⟨_, rfl, ?_, hb⟩
            rw [HX.out, ← HF.out, HPS.out]
            rw [HPS.out] at hown
            exact own_base hown (by omega)
          · rcases hown.2 with ⟨_, h00⟩ | ⟨g, cap, cur, hv, hgb, _⟩
            · exact absurd h00 hm0
            obtain ⟨rfl, rfl⟩ : V = some ⟨g, 0, none⟩ ∧ vc = cap := by injection hv with a1 a2 a3; exact ⟨a1, a3⟩
            have CS := Lib.hid (sortP g vc w2.heap.size m ps wr hown HM'.out (fun x hx => (HC.out.each x hx).2.2.2) (by omega))
            clear hv hm0
            go_wp2_with fail
            refine CS.out.mono ?_
            rintro e w4 ⟨rfl, qs, hperm, hsort, hown4, hg4⟩
            have hfin := HC.out.done HAMB.out HL0.out hperm hsort
            have HF := Lib.hid hfin
            have hml : Hid (m = qs.length) := by show m = qs.length; rw [hperm.length_eq]; exact HM'.out
            have hb4 : Below w.heap.size w w4 := hb.grown hg4 hb.size (fun j hj => by cases hj; omega)
            clear hperm hsort hfin CS
            go_wp2_with fail
            go_ret2
            refine ⟨_, rfl, ?_, hb4⟩
            rw [HX.out, ← HF.out, ← hml.out]
            exact own_base hown4 (by omega)
        · intro x cv w3 cnt3 hwx hwc hlx hat hrg3 hlt hg3 hs3 hen
          clear hs3
          have hcv : cv = sumAt los am p x := HD.out.val (hat _)
          have hown3 := hown.kept hg3 (own_far hown (by omega))
          have hle2 : w2.heap.size ≤ w3.heap.size := Nat.le_trans hx2 hg3.size
          have hb3 : Below w.heap.size w w3 := hb.grown hg3 hb.size (fun j hj => by cases hj; exact hrw)
          by_cases hc0 : 0 < cv
          · have q0 : decide (0 < cv) = true := by simpa using hc0
            have hxr := HR.out x (by rw [← hcv]; exact hc0)
            have HC := Lib.hid (hC.keep hlx hcv hc0 hxr)
            have HCV := Lib.hid hcv
            have hle := hg3.size
            have HLE := Lib.hid hrg.left_eq
            obtain ⟨m, hm⟩ : ∃ m, m = ps.length := ⟨_, rfl⟩
            rw [← hm] at hown3 hcnt ⊢
            have HM' := Lib.hid hm
            clear hcv hat hC hrg hown hg3 hm
            go_wp2_with (at_builtin; refine wpList_append_own _ rfl (.tmp 52) (.tmp 56) 56 rfl w2.heap.size 55 i0 _ 2 16 Tryz.underlying56 hi hz0 hz1 hz2 rfl (by decide) _ m _ rfl (own_below hown3 ((Below.refl _ _).alloc (Nat.le_refl _) _)) ⟨w3.heap.size, 0, none⟩ 1 1 (P2.cells ⟨x, cv⟩) rfl rfl ?c1 ?c2 ?c3 ?c4 ?c5 ?_)
            case c1 => exact cell_new w3 (P2.cells ⟨x, cv⟩) 55
            case c2 => intro u hu; simp [P2.cells] at hu; rcases hu with rfl | rfl <;> rfl
            case c3 => unfold maxLen; omega
            case c4 => omega
            case c5 => have := hrg3.lt; have := hle2; simp; omega
            intro v' w8 hown8 hg8 _
            have hb8 : Below w.heap.size w w8 := (hb3.alloc hb3.size _).grown hg8 (by have := hb3.size; simp; omega) (fun g' hg' => by have := own_low hown3 g' hg'; omega)
            have hrg8 := (hrg3.alloc _).kept hg8 (by intro e; have := own_low hown3 B e.symm; omega) (by intro e; have := own_low hown3 r e.symm; omega)
            have hz8 : w2.heap.size ≤ w8.heap.size := by have := hg8.size; simp at this; omega
            obtain ⟨V', vc', rfl, _⟩ := own_shape hown8
            have hown9 := flat_snoc2 hown8
            clear hown8
            clear hg8 hown3 hrg3
            go_wp2_with fail
            go_roundw
            case rel => exact ⟨_, cnt3, ps ++ [⟨x, cv⟩], hrg8, HC.out, by rw [List.length_append, ← HM'.out]; exact hown9, by rw [List.length_append, ← HM'.out]; simp; omega, hz8, hb8⟩
            case measure => rw [hrg8.left_eq, HLE.out]; exact hlt
          · have q0 : decide (0 < cv) = false := by simpa using hc0
            have HC := Lib.hid (hC.skip hcv hc0)
            have HLE := Lib.hid hrg.left_eq
            clear hcv hat hC hrg hown hg3
            go_wp2_with fail
            go_roundw
            case rel => exact ⟨_, cnt3, ps, hrg3, HC.out, hown3, by omega, hle2, hb3⟩
            case measure => rw [hrg3.left_eq, HLE.out]; exact hlt

end Go.Proofs.YtilkcailpkebdaaGreat

/-
  Points of accepted losses are accepted; there are no more windows than losses. Plain Lean.
-/
namespace Go.Proofs.YtilkcailpkebdaaGreat
open Go.RowKit
set_option linter.unusedVariables false

theorem chkLoop_fine : ∀ (ps : List P2) (h : Option Int) (s : Int), (∀ p ∈ ps, ptOk p = true) → ps.Pairwise (fun p q => p.a < q.a) → (∀ x, h = some x → ∀ p ∈ ps, x < p.a) → s + sumB ps ≤ 17592186044416 → chkLoop h ps s = 0 := by
  intro ps
  induction ps with
  | nil => intro h s _ _ _ hs; simp only [chkLoop, sumB] at *; rw [if_neg (by omega)]
  | cons p ps ih =>
    intro h s hok hasc hh hs
    rw [List.pairwise_cons] at hasc
    unfold chkLoop
    rw [if_neg (by rw [hok p (by simp)]; simp), if_neg]
    · refine ih (some p.a) (s + p.b) (fun q hq => hok q (by simp [hq])) hasc.2 (fun x hx q hq => ?_) (by simp only [sumB] at hs; omega)
      injection hx with hx; subst hx; exact hasc.1 q hq
    · cases h with
      | none => simp
      | some x => have := hh x rfl p (by simp); simp; omega
theorem sumB_map (ps : List P2) : sumB ps = sumI (ps.map P2.b) := by
  induction ps with
  | nil => rfl
  | cons p ps ih => simp only [sumB, List.map_cons, sumI, ih]
theorem sum_const0 (ks : List Int) (f : Int → Int) (h : ∀ k, f k = 0) : sumI (ks.map f) = 0 := by
  induction ks with
  | nil => rfl
  | cons k ks ih => simp only [List.map_cons, sumI, ih, h]; omega
theorem sumI_pos0 {am : List Int} (h : ∀ a ∈ am, 0 ≤ a) : 0 ≤ sumI am := by
  induction am with
  | nil => simp [sumI]
  | cons a l ih => have h1 := h a (by simp); have h2 := ih (fun x hx => h x (by simp [hx])); simp only [sumI]; omega
/-- Sums over the hours are sums over losses. -/
theorem sum_sumAt_le (p : Int) : ∀ (los : List Los) (am : List Int) (ks : List Int), ks.Nodup → (∀ a ∈ am, 0 ≤ a) → sumI (ks.map (sumAt los am p)) ≤ sumI am := by
  intro los
  induction los with
  | nil =>
    intro am ks _ h
    have h0 : sumI (ks.map (sumAt [] am p)) = 0 := sum_const0 ks _ (fun k => rfl)
    have h1 := sumI_pos0 h
    omega
  | cons l ls ih =>
    intro am ks hk h
    cases am with
    | nil =>
      have h0 : sumI (ks.map (sumAt (l :: ls) [] p)) = 0 := sum_const0 ks _ (fun k => rfl)
      simp only [sumI]; omega
    | cons a ams =>
      have h1 := h a (by simp)
      have h2 := ih ams ks hk (fun x hx => h x (by simp [hx]))
      have h3 : sumI (ks.map (sumAt (l :: ls) (a :: ams) p)) ≤ a + sumI (ks.map (sumAt ls ams p)) := by
        clear ih h2 h
        induction ks with
        | nil => simp [sumI]; exact h1
        | cons k ks ih2 =>
          rw [List.nodup_cons] at hk
          have h4 := ih2 hk.2
          simp only [List.map_cons, sumI]
          have e : sumAt (l :: ls) (a :: ams) p k = (if l.peril = p ∧ l.hour = k then a else 0) + sumAt ls ams p k := rfl
          rw [e]
          by_cases hc : l.peril = p ∧ l.hour = k
          · rw [if_pos hc]
            have e2 : ks.map (sumAt (l :: ls) (a :: ams) p) = ks.map (sumAt ls ams p) := List.map_congr_left fun t ht => by
              have : ¬ (l.peril = p ∧ l.hour = t) := fun h => hk.1 (by rw [← hc.2, h.2]; exact ht)
              show (if l.peril = p ∧ l.hour = t then a else 0) + sumAt ls ams p t = _
              rw [if_neg this]; omega
            rw [e2]; omega
          · rw [if_neg hc]; omega
      simp only [sumI]; omega
theorem ptsF_fine {los : List Los} {am : List Int} (h : chkE los am = 0) (p : Int) : (∀ x ∈ ptsF los am p, ptOk x = true) ∧ (ptsF los am p).Pairwise (fun a b => a.a < b.a) ∧ sumB (ptsF los am p) ≤ 17592186044416 ∧ (ptsF los am p).length ≤ 64 := by
  have hG := goodE_of h
  have hN : ∀ a ∈ am, 0 ≤ a := fun a ha => (zip_amounts hG.same hG.all a ha).1
  have hs : sumB (ptsF los am p) ≤ sumI am := by
    rw [sumB_map]
    unfold ptsF
    rw [List.map_map]
    exact sum_sumAt_le p los am (hoursF los am p) ((asc_insAll _).imp (fun hab => by omega)) hN
  have hsm := hG.sum
  refine ⟨fun x hx => ?_, List.pairwise_map.2 (asc_insAll _), by omega, ?_⟩
  · obtain ⟨t, ht, rfl⟩ := List.mem_map.1 hx
    have h1 := (mem_hoursF hN p t).1 ht
    have h2 := hours_range hG.all ((sumAt_pos hN p t).1 h1)
    have h3 := sumAt_le (los := los) hN p t
    rw [fold_sumI] at h3
    exact (ptOk_iff _).2 ⟨h2.1, h2.2, by dsimp only; omega, by dsimp only; omega⟩
  · unfold ptsF; rw [List.length_map]
    refine Nat.le_trans (insAll_len _) ?_
    have : ∀ (ls : List Los) (ams : List Int), (hoursL ls ams p).length ≤ ls.length := by
      intro ls
      induction ls with
      | nil => intro ams; simp [hoursL]
      | cons l ls ih =>
        intro ams
        cases ams with
        | nil => simp [hoursL]
        | cons a ams => have := ih ams; simp only [hoursL]; split <;> simp only [List.length_cons] <;> omega
    exact Nat.le_trans (this los am) hG.len
theorem chkErr_pts {los : List Los} {am : List Int} {n : Int} {ls : List P2} (h : chkE los am = 0) (hr : recErr 0 ls = 0) (hn : ¬ (n < 1 ∨ 8784 < n)) (p : Int) : chkErr (ptsF los am p) n ls = 0 := by
  obtain ⟨h1, h2, h3, h4⟩ := ptsF_fine h p
  unfold chkErr
  rw [if_neg (by simp [hr]), if_neg hn, if_neg (by omega)]
  exact chkLoop_fine _ none 0 h1 h2 (fun x hx => by cases hx) (by omega)
/-- How many losses are by a peril. -/
def cntP (los : List Los) (p : Int) : Nat := (los.filter fun l => decide (l.peril = p)).length
theorem hoursL_cnt (p : Int) : ∀ (los : List Los) (am : List Int), (hoursL los am p).length ≤ cntP los p := by
  intro los
  induction los with
  | nil => intro am; simp [hoursL]
  | cons l ls ih =>
    intro am
    cases am with
    | nil => simp [hoursL]
    | cons a ams =>
      have := ih ams
      unfold cntP at *
      simp only [hoursL]
      by_cases hp : l.peril = p
      · rw [List.filter_cons_of_pos (by simpa using hp), List.length_cons]
        split
        · simp only [List.length_cons]; omega
        · omega
      · rw [List.filter_cons_of_neg (by simpa using hp), if_neg (fun h => hp h.1)]; exact this
theorem sum_cntP : ∀ (los : List Los) (ks : List Int), ks.Nodup → (ks.map (cntP los)).sum ≤ los.length := by
  intro los
  induction los with
  | nil =>
    intro ks _
    have : ∀ ks : List Int, (ks.map (cntP [])).sum = 0 := by
      intro ks
      induction ks with
      | nil => rfl
      | cons k ks ih => rw [List.map_cons, List.sum_cons, ih]; rfl
    rw [this]; exact Nat.zero_le _
  | cons l ls ih =>
    intro ks hk
    have h1 := ih ks hk
    have h2 : (ks.map (cntP (l :: ls))).sum ≤ 1 + (ks.map (cntP ls)).sum := by
      clear ih h1
      induction ks with
      | nil => simp
      | cons k ks ih2 =>
        rw [List.nodup_cons] at hk
        have h4 := ih2 hk.2
        simp only [List.map_cons, List.sum_cons]
        by_cases hc : l.peril = k
        · have e1 : cntP (l :: ls) k = 1 + cntP ls k := by unfold cntP; rw [List.filter_cons_of_pos (by simpa using hc), List.length_cons]; omega
          have e2 : ks.map (cntP (l :: ls)) = ks.map (cntP ls) := List.map_congr_left fun t ht => by
            unfold cntP; rw [List.filter_cons_of_neg (by simp; intro h; exact hk.1 (by rw [← hc, h]; exact ht))]
          rw [e1, e2]; omega
        · have e1 : cntP (l :: ls) k = cntP ls k := by unfold cntP; rw [List.filter_cons_of_neg (by simpa using hc)]
          rw [e1]; omega
    simp only [List.length_cons]; omega
theorem coll_part (los : List Los) (am : List Int) (n : Int) (ls : List P2) : ∀ ks : List Int, (ks.flatMap (winsP los am n ls)).length ≤ (ks.map (cntP los)).sum := by
  intro ks
  induction ks with
  | nil => simp
  | cons k ks ih =>
    rw [List.flatMap_cons, List.length_append, List.map_cons, List.sum_cons]
    have h1 := winsP_len los am n ls k
    have h2 : (ptsF los am k).length ≤ cntP los k := by unfold ptsF; rw [List.length_map]; exact Nat.le_trans (insAll_len _) (hoursL_cnt k los am)
    omega
theorem coll_take_len {los : List Los} {am : List Int} {n : Int} {ls : List P2} (k : Nat) : (((perilsF los).take k).flatMap (winsP los am n ls)).length ≤ los.length := by
  refine Nat.le_trans (coll_part los am n ls _) (sum_cntP los _ ?_)
  have hp : perilsF los = insAll (perilsL los) := compact_sorted _
  rw [hp]
  exact ((asc_insAll _).imp (fun hab => by omega)).sublist (List.take_sublist _ _)
theorem coll_len {los : List Los} {am : List Int} {n : Int} {ls : List P2} : (collW los am n ls).length ≤ los.length := by
  have := coll_take_len (los := los) (am := am) (n := n) (ls := ls) (perilsF los).length
  rw [List.take_length] at this
  exact this
theorem best_len {los : List Los} {am : List Int} {n : Int} {ls : List P2} : (bestF los am n ls).length ≤ los.length := by
  obtain ⟨_, h2⟩ := insW_all (collW los am n ls) [] List.Pairwise.nil
  rw [List.append_nil] at h2
  unfold bestF
  rw [h2.length_eq]; exact coll_len
theorem spans_in (L : Int) (ls ps : List P2) : ∀ f i, ∀ s ∈ spansF L ls ps f i, 0 ≤ s.a ∧ s.a ≤ s.b ∧ s.b < ps.length := by
  intro f
  induction f with
  | zero => intro i s hs; simp [spansF] at hs
  | succ f ih =>
    intro i s hs
    by_cases hi : i < ps.length
    · obtain ⟨p, hp, hd⟩ := drop_cons (xs := ps) (i := i) hi
      by_cases he : valAt L ls ps i = valAt L ls ps (i + 1)
      · rw [spans_eq hp he] at hs; exact ih _ s hs
      · obtain ⟨j, hj⟩ := findAt_some hd he
        have hb := findAt_bd hj
        rw [spans_hit hp he hj] at hs
        rcases List.mem_cons.1 hs with rfl | hs
        · dsimp only; omega
        · exact ih _ s hs
    · rw [spans_end (by omega)] at hs; simp at hs
theorem spansOf_in {ps : List P2} {n : Int} {ls : List P2} {s : P2} (h : s ∈ spansOf ps n ls) : 0 ≤ s.a ∧ s.a ≤ s.b ∧ s.b < ps.length := by
  unfold spansOf at h
  split at h
  · exact spans_in n ls ps _ _ s h
  · simp at h
def bestA (los : List Los) (am : List Int) (n : Int) (ls : List P2) : Int :=
  if chkE los am ≠ 0 then chkE los am else if recErr 0 ls ≠ 0 then recErr 0 ls else if n < 1 ∨ 8784 < n then 1 else 0
def bestW (los : List Los) (am : List Int) (n : Int) (ls : List P2) : List Win := if bestA los am n ls = 0 then evW los am (bestF los am n ls) n ls else []
def bestT (los : List Los) (am : List Int) (n : Int) (ls : List P2) : List Int := if bestA los am n ls = 0 then evT los am (bestF los am n ls) n ls else []
def bestR (los : List Los) (am : List Int) (n : Int) (ls : List P2) : List Int := if bestA los am n ls = 0 then evR los am (bestF los am n ls) n ls else []
def bestE (los : List Los) (am : List Int) (n : Int) (ls : List P2) : Int := if bestA los am n ls = 0 then evalErr los am (bestF los am n ls) n ls else bestA los am n ls
theorem best_bad {los : List Los} {am : List Int} {n : Int} {ls : List P2} (h : bestA los am n ls ≠ 0) : bestW los am n ls = [] ∧ bestT los am n ls = [] ∧ bestR los am n ls = [] ∧ bestE los am n ls = bestA los am n ls := by
  unfold bestW bestT bestR bestE; rw [if_neg h, if_neg h, if_neg h, if_neg h]; exact ⟨rfl, rfl, rfl, rfl⟩
theorem best_ok {los : List Los} {am : List Int} {n : Int} {ls : List P2} (h : bestA los am n ls = 0) : bestW los am n ls = evW los am (bestF los am n ls) n ls ∧ bestT los am n ls = evT los am (bestF los am n ls) n ls ∧ bestR los am n ls = evR los am (bestF los am n ls) n ls ∧ bestE los am n ls = evalErr los am (bestF los am n ls) n ls := by
  unfold bestW bestT bestR bestE; rw [if_pos h, if_pos h, if_pos h, if_pos h]; exact ⟨rfl, rfl, rfl, rfl⟩

end Go.Proofs.YtilkcailpkebdaaGreat

/-
  event.one: its contract.
-/
namespace Go.Proofs.YtilkcailpkebdaaGreat
open Go.RowKit
set_option linter.unusedVariables false

theorem below_alloc1 (w : World) (o : Obj) : Below w.heap.size w (w.alloc o) := (Below.refl _ _).alloc (Nat.le_refl _) _

set_option maxRecDepth 100000 in
set_option maxHeartbeats 2000000 in
theorem one_any (A : Option Addr) (c : Nat) (bs : List Win) (x : Win) (n : Int) (w : World) (hbl : bs.length ≤ 1000) (hB : Wins w 0 A bs) :
    Calls Tryz.prog 70 #[.slice A bs.length c, .agg #[.int .i64 x.peril, .int .i64 x.fr, .int .i64 x.to], .int .i64 n] w fun e w' => e = .returned (.int .i64 (oneE bs x n)) ∧ Below w.heap.size w w' := by
  obtain ⟨m, hm⟩ : ∃ m, m = bs.length := ⟨_, rfl⟩
  rw [← hm] at hbl ⊢
  have HM := Lib.hid hm
  clear hm
  by_cases hr : winRange x = true
  case neg =>
    have HR := Lib.hid (one_range (before := bs) (n := n) (Bool.eq_false_iff.2 hr))
    have hno : ¬ (0 ≤ x.peril ∧ x.peril ≤ 15 ∧ 0 ≤ x.fr ∧ x.fr < x.to ∧ x.to ≤ 876600) := fun h => hr ((winRange_iff x).2 h)
    clear hr
    by_cases h1 : 0 ≤ x.peril ∧ x.peril ≤ 15
    · have v1 := withinB_true h1.1 h1.2
      have hno' : ¬ (0 ≤ x.fr ∧ x.fr < x.to ∧ x.to ≤ 876600) := by omega
      clear hno h1
      go_enter Tryz.func70, Tryz.ntmps70
      go_wp2_with (go_at_call 53; refine (within_any _ _ _ _).mono ?_; rintro e w' ⟨rfl, rfl⟩)
      all_goals first | (exfalso; omega) | (go_ret; exact ⟨ret_int HR.out.symm, (Below.refl _ _).alloc (Nat.le_refl _) _⟩)
    · have v1 := withinB_false h1
      clear hno h1
      go_enter Tryz.func70, Tryz.ntmps70
      go_wp2_with (go_at_call 53; refine (within_any _ _ _ _).mono ?_; rintro e w' ⟨rfl, rfl⟩)
      go_ret
      exact ⟨ret_int HR.out.symm, (Below.refl _ _).alloc (Nat.le_refl _) _⟩
  obtain ⟨g1, g2, g3, g4, g5⟩ := (winRange_iff x).1 hr
  have v1 := withinB_true g1 g2
  by_cases hl : n < x.to - x.fr
  · have HR := Lib.hid (one_limit (before := bs) hr hl)
    clear hr
    go_enter Tryz.func70, Tryz.ntmps70
    go_wp2_with (go_at_call 53; refine (within_any _ _ _ _).mono ?_; rintro e w' ⟨rfl, rfl⟩)
    go_ret
    exact ⟨ret_int HR.out.symm, (Below.refl _ _).alloc (Nat.le_refl _) _⟩
  have HRG := Lib.hid hr
  have HLM := Lib.hid hl
  have hl' : x.to - x.fr ≤ n := by omega
  clear hr hl
  have hb0 := (Below.refl w.heap.size w).alloc (Nat.le_refl _) (.cells #[.int .i64 x.peril, .int .i64 x.fr, .int .i64 x.to] 75)
  have hB0 := hB.below hb0
  have k0 : (w.alloc (.cells #[.int .i64 x.peril, .int .i64 x.fr, .int .i64 x.to] 75)).cell? ⟨w.heap.size, 0, none⟩ = some (.int .i64 x.peril) := by simp
  have k1 : (w.alloc (.cells #[.int .i64 x.peril, .int .i64 x.fr, .int .i64 x.to] 75)).cell? ⟨w.heap.size, 1, none⟩ = some (.int .i64 x.fr) := by simp
  have k2 : (w.alloc (.cells #[.int .i64 x.peril, .int .i64 x.fr, .int .i64 x.to] 75)).cell? ⟨w.heap.size, 2, none⟩ = some (.int .i64 x.to) := by simp
  have kz : w.heap.size < (w.alloc (.cells #[.int .i64 x.peril, .int .i64 x.fr, .int .i64 x.to] 75)).heap.size := by simp
  go_enter Tryz.func70, Tryz.ntmps70
  go_upto_if 42 with (go_at_call 53; refine (within_any _ _ _ _).mono ?_; rintro e w' ⟨rfl, rfl⟩)
  obtain ⟨w1, hw1⟩ : ∃ w1 : World, w1 = w.alloc (.cells #[.int .i64 x.peril, .int .i64 x.fr, .int .i64 x.to] 75) := ⟨_, rfl⟩
  rw [← hw1] at hb0 hB0 k0 k1 k2 kz ⊢
  clear hw1 hB
  go_cut [4, 8] (fun s4 _ wc => s4 = .pointer (some ⟨w.heap.size, 0, none⟩) ∧ Below w1.heap.size w1 wc ∧ ∀ l, bs.getLast? = some l → winOrd l x = false)
  case first =>
    by_cases h0 : 0 < m
    · obtain ⟨l, hl, _⟩ := drop_cons (xs := bs) (i := m - 1) (by rw [← HM.out]; omega)
      have HLL : Hid (bs.getLast? = some l) := by rw [List.getLast?_eq_getElem?, ← HM.out, hl]; rfl
      obtain ⟨b, off, rfl, _, _, c0, c1, c2⟩ := hB0.at_ hl
      have q : decide (0 < m) = true := by simpa using h0
      clear hl
      rcases Int.lt_trichotomy x.fr l.fr with hlt | heq | hgt
      · have HR := Lib.hid (one_order (n := n) HRG.out (by omega) HLL.out ((winOrd_iff l x).2 (.inl hlt)))
        go_wp2_with fail
        go_ret
        exact ⟨ret_int HR.out.symm, hb0.trans ((below_alloc1 w1 _).mono hb0.size)⟩
      · have qe : (x.fr == l.fr) = true := by simpa using heq
        have hnl : ¬ x.fr < l.fr := by omega
        by_cases hp : x.peril ≤ l.peril
        · have HR := Lib.hid (one_order (n := n) HRG.out (by omega) HLL.out ((winOrd_iff l x).2 (.inr ⟨heq, hp⟩)))
          clear heq
          go_wp2_with fail
          go_ret
          exact ⟨ret_int HR.out.symm, hb0.trans ((below_alloc1 w1 _).mono hb0.size)⟩
        · have HO : Hid (winOrd l x = false) := by rw [Bool.eq_false_iff]; intro h; have := (winOrd_iff l x).1 h; omega
          clear heq
          go_wp2_with fail
          go_meet
          exact ⟨rfl, below_alloc1 w1 _, fun l' hl' => by rw [HLL.out] at hl'; injection hl' with hl'; rw [← hl']; exact HO.out⟩
      · have qe : (x.fr == l.fr) = false := by simp; omega
        have hnl : ¬ x.fr < l.fr := by omega
        have HO : Hid (winOrd l x = false) := by rw [Bool.eq_false_iff]; intro h; have := (winOrd_iff l x).1 h; omega
        go_wp2_with fail
        go_meet
        exact ⟨rfl, below_alloc1 w1 _, fun l' hl' => by rw [HLL.out] at hl'; injection hl' with hl'; rw [← hl']; exact HO.out⟩
    · have q : decide (0 < m) = false := by simp; omega
      go_wp2_with fail
      go_meet
      refine ⟨rfl, Below.refl _ _, fun l hl => ?_⟩
      have : bs = [] := List.eq_nil_of_length_eq_zero (by have := HM.out; omega)
      rw [this] at hl; simp at hl
  case rest =>
    obtain ⟨rfl, hbc, hord⟩ := hcut
    have HR := Lib.hid (one_rest (n := n) HRG.out (by omega) hord)
    clear hord
    go_wp2_with fail
    go_loopw [10, 69] (fun _ ii wr => ∃ k : Nat, k ≤ m ∧ ii = .int .i64 k ∧ Below w1.heap.size w1 wr ∧ ((bs.drop k).any fun v => winMeet v x) = (bs.any fun v => winMeet v x)) (fun _ ii _ => m - (intOf ii).toNat)
    case atStart => exact ⟨0, Nat.zero_le _, rfl, hbc, rfl⟩
    case round =>
      obtain ⟨k, hk, rfl, hbr, hany⟩ := hrel
      have HA := Lib.hid hany
      clear hany
      by_cases hlt : k < m
      · obtain ⟨v, hv, hd⟩ := drop_cons (xs := bs) (i := k) (by rw [← HM.out]; exact hlt)
        obtain ⟨b, off, rfl, _, _, c0, c1, c2⟩ := (hB0.below hbr).at_ hv
        have j0 : wr.cell? ⟨w.heap.size, 0, none⟩ = some (.int .i64 x.peril) := (hbr.cell (p := ⟨w.heap.size, 0, none⟩) kz).trans k0
        have j1 : wr.cell? ⟨w.heap.size, 1, none⟩ = some (.int .i64 x.fr) := (hbr.cell (p := ⟨w.heap.size, 1, none⟩) kz).trans k1
        have j2 : wr.cell? ⟨w.heap.size, 2, none⟩ = some (.int .i64 x.to) := (hbr.cell (p := ⟨w.heap.size, 2, none⟩) kz).trans k2
        have jz : w.heap.size < wr.heap.size := Nat.lt_of_lt_of_le kz hbr.size
        have HV := Lib.hid (List.mem_of_getElem? hv)
        have HD := Lib.hid hd
        clear hv hd
        by_cases hmt : winMeet v x = true
        · obtain ⟨e1, e2, e3⟩ := (winMeet_iff v x).1 hmt
          have HX : Hid (oneE bs x n = 8) := by
            rw [HR.out, if_pos (List.any_eq_true.2 ⟨v, HV.out, hmt⟩)]; rfl
          have q1 : (v.peril == x.peril) = true := by simpa using e1
          clear hmt e1
          go_wp2_with fail
          go_ret
          exact ⟨ret_int HX.out.symm, hb0.trans ((hbr.alloc hbr.size _).mono hb0.size)⟩
        · have HX : Hid (((bs.drop (k + 1)).any fun v => winMeet v x) = (bs.any fun v => winMeet v x)) := by
            have := HA.out
            rw [HD.out, List.any_cons, Bool.eq_false_iff.2 hmt, Bool.false_or] at this
            exact this
          have hno : ¬ (v.peril = x.peril ∧ v.fr < x.to ∧ x.fr < v.to) := fun h => hmt ((winMeet_iff v x).2 h)
          clear hmt
          by_cases e1 : v.peril = x.peril
          · have q1 : (v.peril == x.peril) = true := by simpa using e1
            have hno' : ¬ (v.fr < x.to ∧ x.fr < v.to) := fun h => hno ⟨e1, h⟩
            clear hno e1
            by_cases e2 : v.fr < x.to
            · have e3 : ¬ x.fr < v.to := by omega
              go_wp2_with fail
              go_roundw
              case rel => exact ⟨k + 1, by omega, by go_num, hbr.alloc hbr.size _, HX.out⟩
              case measure => simp [intOf]; omega
            · go_wp2_with fail
              go_roundw
              case rel => exact ⟨k + 1, by omega, by go_num, hbr.alloc hbr.size _, HX.out⟩
              case measure => simp [intOf]; omega
          · have q1 : (v.peril == x.peril) = false := by simpa using e1
            clear hno e1
            go_wp2_with fail
            go_roundw
            case rel => exact ⟨k + 1, by omega, by go_num, hbr.alloc hbr.size _, HX.out⟩
            case measure => simp [intOf]; omega
      · obtain rfl : k = m := by omega
        have HX : Hid (oneE bs x n = 0) := by
          have h1 := HA.out
          rw [HM.out, List.drop_length, List.any_nil] at h1
          rw [HR.out, if_neg (by rw [← h1]; simp)]; rfl
        go_wp2_with fail
        go_ret
        exact ⟨ret_int HX.out.symm, hb0.trans (hbr.mono hb0.size)⟩

end Go.Proofs.YtilkcailpkebdaaGreat

/-
  event.Validate: its contract.
-/
namespace Go.Proofs.YtilkcailpkebdaaGreat
open Go.RowKit
set_option linter.unusedVariables false

theorem Wins.take {w : World} {lo : Nat} {A : Option Addr} {xs : List Win} (h : Wins w lo A xs) (k : Nat) : Wins w lo A (xs.take k) := by
  intro hp
  have hp' : 0 < (xs.map Win.cells).length := by simp at hp ⊢; omega
  obtain ⟨b, off, e, h1, h2, hc⟩ := h hp'
  refine ⟨b, off, e, h1, h2, fun i x hx => hc i x ?_⟩
  rw [List.map_take, List.getElem?_take] at hx
  split at hx
  · exact hx
  · cases hx

set_option maxHeartbeats 1000000 in
theorem validate_any (A : Option Addr) (c : Nat) (xs : List Win) (n : Int) (w : World) (hxl : xs.length ≤ 9223372036854775807) (hxc : xs.length ≤ c) (hX : Wins w 0 A xs) :
    Calls Tryz.prog 46 #[.slice A xs.length c, .int .i64 n] w fun e w' => e = .returned (.int .i64 (winsE xs n)) ∧ Below w.heap.size w w' := by
  obtain ⟨m, hm⟩ : ∃ m, m = xs.length := ⟨_, rfl⟩
  rw [← hm] at hxl hxc ⊢
  have HM := Lib.hid hm
  by_cases h64 : 64 < m
  · have HR : Hid (winsE xs n = 4) := by unfold winsE; rw [if_pos (by omega)]; rfl
    clear hm
    go_enter Tryz.func46, Tryz.ntmps46
    go_wp2_with fail
    go_ret
    exact ⟨ret_int HR.out.symm, Below.refl _ _⟩
  have q : decide (64 < (m : Int)) = false := by simp; omega
  by_cases hn : 1 ≤ n ∧ n ≤ 8784
  case neg =>
    have HR : Hid (winsE xs n = 1) := by unfold winsE; rw [if_neg (by omega), if_pos (by omega)]; rfl
    have v1 := withinB_false hn
    clear hm
    go_enter Tryz.func46, Tryz.ntmps46
    go_wp2_with (go_at_call 53; refine (within_any _ _ _ _).mono ?_; rintro e w' ⟨rfl, rfl⟩)
    go_ret
    exact ⟨ret_int HR.out.symm, Below.refl _ _⟩
  have HR : Hid (winsE xs n = winsLoop n [] xs) := by unfold winsE; rw [if_neg (by omega), if_neg (by omega)]; rfl
  have v1 := withinB_true hn.1 hn.2
  have CO : Hid (∀ (k : Nat) (x : Win) (W : World), k ≤ m → Wins W 0 A xs → Calls Tryz.prog 70 #[.slice A k c, .agg #[.int .i64 x.peril, .int .i64 x.fr, .int .i64 x.to], .int .i64 n] W fun e w' => e = .returned (.int .i64 (oneE (xs.take k) x n)) ∧ Below W.heap.size W w') := by
    intro k x W hk h
    have := one_any A c (xs.take k) x n W (by simp; omega) (h.take k)
    rw [List.length_take, Nat.min_eq_left (by omega)] at this
    exact this
  clear hm hn
  go_enter Tryz.func46, Tryz.ntmps46
  go_wp2_with (go_at_call 53; refine (within_any _ _ _ _).mono ?_; rintro e w' ⟨rfl, rfl⟩)
  go_loopw [5, 6, 7, 16] (fun _ _ _ ii wr => ∃ k : Nat, k ≤ m ∧ ii = .int .i64 k ∧ Below w.heap.size w wr ∧ winsLoop n (xs.take k) (xs.drop k) = winsLoop n [] xs) (fun _ _ _ ii _ => m - (intOf ii).toNat)
  case atStart => exact ⟨0, Nat.zero_le _, rfl, Below.refl _ _, rfl⟩
  case round =>
    obtain ⟨k, hk, rfl, hb, hloop⟩ := hrel
    have HL := Lib.hid hloop
    clear hloop
    by_cases hlt : k < m
    · obtain ⟨x, hx, hd⟩ := drop_cons (xs := xs) (i := k) (by rw [← HM.out]; exact hlt)
      obtain ⟨b, off, rfl, _, hbl, c0, c1, c2⟩ := (hX.below hb).at_ hx
      have HD := Lib.hid hd
      have HXK := Lib.hid hx
      clear hx hd
      go_wp2_with fail
      obtain ⟨w1, hw1⟩ : ∃ w1 : World, w1 = wr.alloc (.cells #[.int .i64 x.peril, .int .i64 x.fr, .int .i64 x.to] 75) := ⟨_, rfl⟩
      have d0 : w1.cell? ⟨wr.heap.size, 0, none⟩ = some (.int .i64 x.peril) := by rw [hw1]; simp
      have d1 : w1.cell? ⟨wr.heap.size, 1, none⟩ = some (.int .i64 x.fr) := by rw [hw1]; simp
      have d2 : w1.cell? ⟨wr.heap.size, 2, none⟩ = some (.int .i64 x.to) := by rw [hw1]; simp
      have hb1 : Below w.heap.size w w1 := by rw [hw1]; exact hb.alloc hb.size _
      have hX1 : Wins w1.drew 0 (some ⟨b, off, none⟩) xs := hX.below (w' := w1.drew) hb1.drew
      rw [← hw1]
      clear hw1 c0 c1 c2 hb
      have hk0 : (0 : Int) ≤ (k : Int) := by omega
      have hkc : (k : Int) ≤ (c : Int) := by omega
      have hkm : (k : Int) ≤ (m : Int) := by omega
      have hkc' : k ≤ c := by omega
      go_region_held3 (fun W => W.cell? ⟨wr.heap.size, 0, none⟩ = some (.int .i64 x.peril) ∧ W.cell? ⟨wr.heap.size, 1, none⟩ = some (.int .i64 x.fr) ∧ W.cell? ⟨wr.heap.size, 2, none⟩ = some (.int .i64 x.to))
        (first | go_keep | exact keep2)
        (first | (go_at_call 70; refine (CO.out k x _ hk hX1).mono ?_; rintro e w2 ⟨rfl, hb2⟩; have keep2 : w2.cell? ⟨wr.heap.size, 0, none⟩ = some (.int .i64 x.peril) ∧ w2.cell? ⟨wr.heap.size, 1, none⟩ = some (.int .i64 x.fr) ∧ w2.cell? ⟨wr.heap.size, 2, none⟩ = some (.int .i64 x.to) := ⟨(hb2.cell (p := ⟨wr.heap.size, 0, none⟩) (World.block_lt_of_cell? w1 _ d0)).trans d0, (hb2.cell (p := ⟨wr.heap.size, 1, none⟩) (World.block_lt_of_cell? w1 _ d1)).trans d1, (hb2.cell (p := ⟨wr.heap.size, 2, none⟩) (World.block_lt_of_cell? w1 _ d2)).trans d2⟩))
      have hbw : Below w.heap.size w w2 := hb1.drew.trans (hb2.mono hb1.size)
      by_cases he : oneE (xs.take k) x n = 0
      · have q3 : (oneE (xs.take k) x n != 0) = false := by rw [he]; rfl
        have HX := Lib.hid (wins_next HXK.out HD.out HL.out he)
        clear he
        go_wp2_with fail
        go_roundw
        case rel => exact ⟨k + 1, by omega, by go_num, hbw, HX.out⟩
        case measure => simp [intOf]; omega
      · have q3 : (oneE (xs.take k) x n != 0) = true := by simpa using he
        have HX := Lib.hid (wins_stop HD.out HL.out he)
        clear he
        go_wp2_with fail
        go_ret
        exact ⟨ret_int (HR.out.trans HX.out).symm, hbw⟩
    · obtain rfl : k = m := by omega
      have h1 := HL.out
      rw [HM.out] at h1
      have HX := Lib.hid (wins_end h1)
      clear h1
      go_wp2_with fail
      go_ret
      exact ⟨ret_int (HR.out.trans HX.out).symm, hb⟩

end Go.Proofs.YtilkcailpkebdaaGreat

/-
  event.Assign (with slices.IndexFunc and its closure), treatyref25.Assign: their contracts.
-/
namespace Go.Proofs.YtilkcailpkebdaaGreat
open Go.RowKit
set_option linter.unusedVariables false

set_option maxHeartbeats 1000000 in
theorem closure_any (x : Win) (l : Los) (bx : Nat) (w : World) (d3 : w.cell? ⟨bx, 3, none⟩ = some (.int .i64 l.hour)) (d4 : w.cell? ⟨bx, 4, none⟩ = some (.int .i64 l.peril)) :
    Calls Tryz.prog 91 #[.agg #[.int .i64 x.peril, .int .i64 x.fr, .int .i64 x.to], .pointer (some ⟨bx, 0, none⟩)] w fun e w' => e = .returned (.bool (covers x l)) ∧ Below w.heap.size w w' := by
  have hne : bx < w.heap.size := World.block_lt_of_cell? w _ d3
  by_cases h1 : x.peril = l.peril
  · have q1 : (x.peril == l.peril) = true := by simpa using h1
    by_cases h2 : x.fr ≤ l.hour
    · have q2 : decide (x.fr ≤ l.hour) = true := by simpa using h2
      by_cases h3 : l.hour < x.to
      · have HR := Lib.hid ((covers_iff x l).2 ⟨h1, h2, h3⟩)
        clear h1
        go_enter Tryz.func91, Tryz.ntmps91
        go_wp2_with fail
        go_ret
        exact ⟨ret_bool HR.out.symm, below_alloc1 _ _⟩
      · have HR : Hid (covers x l = false) := by rw [Bool.eq_false_iff]; intro h; have := (covers_iff x l).1 h; omega
        clear h1
        go_enter Tryz.func91, Tryz.ntmps91
        go_wp2_with fail
        go_ret
        exact ⟨ret_bool HR.out.symm, below_alloc1 _ _⟩
    · have HR : Hid (covers x l = false) := by rw [Bool.eq_false_iff]; intro h; have := (covers_iff x l).1 h; omega
      clear h1
      go_enter Tryz.func91, Tryz.ntmps91
      go_wp2_with fail
      go_ret
      exact ⟨ret_bool HR.out.symm, below_alloc1 _ _⟩
  · have q1 : (x.peril == l.peril) = false := by simpa using h1
    have HR : Hid (covers x l = false) := by rw [Bool.eq_false_iff]; intro h; have := (covers_iff x l).1 h; omega
    clear h1
    go_enter Tryz.func91, Tryz.ntmps91
    go_wp2_with fail
    go_ret
    exact ⟨ret_bool HR.out.symm, below_alloc1 _ _⟩

set_option maxHeartbeats 1000000 in
theorem indexFunc_any (A : Option Addr) (c : Nat) (ws : List Win) (l : Los) (bx : Nat) (w : World) (hl : ws.length ≤ 9223372036854775807) (hW : Wins w 0 A ws) (d3 : w.cell? ⟨bx, 3, none⟩ = some (.int .i64 l.hour)) (d4 : w.cell? ⟨bx, 4, none⟩ = some (.int .i64 l.peril)) :
    Calls Tryz.prog 90 #[.slice A ws.length c, .func (.func 91) #[] #[.pointer (some ⟨bx, 0, none⟩)]] w fun e w' => e = .returned (.int .i64 (asgAt ws l)) ∧ Below w.heap.size w w' := by
  obtain ⟨m, hm⟩ : ∃ m, m = ws.length := ⟨_, rfl⟩
  rw [← hm] at hl ⊢
  have HM := Lib.hid hm
  have hne : bx < w.heap.size := World.block_lt_of_cell? w _ d3
  clear hm
  go_enter Tryz.func90, Tryz.ntmps90
  go_wp2_with fail
  go_loopw [5, 8] (fun _ ii wr => ∃ k : Nat, k ≤ m ∧ ii = .int .i64 k ∧ Below w.heap.size w wr ∧ findW l (ws.drop k) k = asgAt ws l) (fun _ ii _ => m - (intOf ii).toNat)
  case atStart => exact ⟨0, Nat.zero_le _, rfl, Below.refl _ _, rfl⟩
  case round =>
    obtain ⟨k, hk, rfl, hb, hf⟩ := hrel
    have HF := Lib.hid hf
    clear hf
    by_cases hlt : k < m
    · obtain ⟨x, hx, hd⟩ := drop_cons (xs := ws) (i := k) (by rw [← HM.out]; exact hlt)
      obtain ⟨b, off, rfl, _, hbl, c0, c1, c2⟩ := (hW.below hb).at_ hx
      have e3 : wr.cell? ⟨bx, 3, none⟩ = some (.int .i64 l.hour) := (hb.cell (p := ⟨bx, 3, none⟩) hne).trans d3
      have e4 : wr.cell? ⟨bx, 4, none⟩ = some (.int .i64 l.peril) := (hb.cell (p := ⟨bx, 4, none⟩) hne).trans d4
      have CC := Lib.hid (closure_any x l bx wr e3 e4)
      have HD := Lib.hid hd
      clear hx hd e3 e4
      go_wp2_with fail
      refine CC.out.mono ?_
      rintro e w2 ⟨rfl, hb2⟩
      have hbw := hb.trans (hb2.mono hb.size)
      by_cases hc : covers x l = true
      · have HX := Lib.hid (findW_hit HD.out HF.out hc)
        go_wp2_with fail
        go_ret
        exact ⟨ret_int HX.out.symm, hbw⟩
      · have HX := Lib.hid (findW_next HD.out HF.out hc)
        have hc' : covers x l = false := Bool.eq_false_iff.2 hc
        clear hc
        go_wp2_with fail
        go_roundw
        case rel => exact ⟨k + 1, by omega, by go_num, hbw, HX.out⟩
        case measure => simp [intOf]; omega
    · obtain rfl : k = m := by omega
      have h1 := HF.out
      rw [HM.out] at h1
      have HX := Lib.hid (findW_end h1)
      clear h1
      go_wp2_with fail
      go_ret
      exact ⟨ret_int HX.out.symm, hb⟩

end Go.Proofs.YtilkcailpkebdaaGreat
