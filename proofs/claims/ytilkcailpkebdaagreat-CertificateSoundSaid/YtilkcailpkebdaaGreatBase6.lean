/-
  Texts of the proof, one after the other.
-/
import Derived.Test.YtilkcailpkebdaaGreatBase4
import Derived.Test.YtilkcailpkebdaaGreatBase5
import Derived.Test.YtilkcailpkebdaaGreatBase1
import Derived.Deep.DeepCutAuto
import Derived.Deep.RegionHeld3
import Derived.Test.YtilkcailpkebdaaGreatBase3
import Derived.Deep.LoopGhost
import Derived.RegionTactic

/-
  What is lost in a window, by losses and by points; sums over perils; valid windows are in order. Plain Lean.
-/
namespace Go.Proofs.YtilkcailpkebdaaGreat
open Go.RowKit
set_option linter.unusedVariables false

/-- What is lost in a window. -/
def amtW (los : List Los) (am : List Int) (x : Win) : Int := sumI ((los.zip am).map fun z => if covers x z.1 = true then z.2 else 0)
theorem findW_iff (l : Los) : ∀ (ws : List Win) (k j : Nat) (x : Win), ws.Pairwise (fun v x => winMeet v x = false) → ws[j]? = some x → (((k + j : Nat) : Int) = findW l ws k ↔ covers x l = true) := by
  intro ws
  induction ws with
  | nil => intro k j x _ h; simp at h
  | cons y ys ih =>
    intro k j x hp hx
    rw [List.pairwise_cons] at hp
    simp only [findW]
    by_cases hc : covers y l = true
    · rw [if_pos hc]
      cases j with
      | zero => obtain rfl : y = x := by simpa using hx
                exact ⟨fun _ => hc, fun _ => by omega⟩
      | succ j =>
        have hx' : ys[j]? = some x := by simpa using hx
        refine ⟨fun h => by omega, fun h => ?_⟩
        have a1 := (covers_iff _ _).1 hc
        have a2 := (covers_iff _ _).1 h
        have a3 := hp.1 x (List.mem_of_getElem? hx')
        rw [(winMeet_iff _ _).2 ⟨by omega, by omega, by omega⟩] at a3; cases a3
    · rw [if_neg hc]
      cases j with
      | zero =>
        obtain rfl : y = x := by simpa using hx
        refine ⟨fun h => ?_, fun h => absurd h hc⟩
        have := findW_bd l ys (k + 1); omega
      | succ j =>
        have := ih (k + 1) j x hp.2 (by simpa using hx)
        rw [← this, show k + (j + 1) = k + 1 + j by omega]
theorem totF_amt {los : List Los} {am : List Int} {ws : List Win} (h : ws.Pairwise (fun v x => winMeet v x = false)) : totF los am ws = ws.map (amtW los am) := by
  unfold totF
  refine List.ext_getElem (by simp) fun j h1 h2 => ?_
  have hj : j < ws.length := by simpa using h2
  rw [List.getElem_map, List.getElem_map, List.getElem_range, totLoop_at, Int.zero_add]
  unfold amtW asgF
  rw [List.zip_map_left, List.map_map]
  congr 1
  refine List.map_congr_left fun z _ => ?_
  have := findW_iff z.1 ws 0 j ws[j] h (List.getElem?_eq_getElem hj)
  rw [Nat.zero_add] at this
  simp only [Function.comp_def, Prod.map, at1, id_eq]
  unfold asgAt
  by_cases hc : covers ws[j] z.1 = true
  · rw [if_pos (this.2 hc), if_pos hc]
  · rw [if_neg (fun h => hc (this.1 h)), if_neg hc]

theorem sumI_add (ks : List Int) (f g : Int → Int) : sumI (ks.map fun k => f k + g k) = sumI (ks.map f) + sumI (ks.map g) := by
  induction ks with
  | nil => rfl
  | cons k ks ih => simp only [List.map_cons, sumI, ih]; omega
theorem sumI_zero (ks : List Int) (f : Int → Int) (h : ∀ k ∈ ks, f k = 0) : sumI (ks.map f) = 0 := by
  induction ks with
  | nil => rfl
  | cons k ks ih => simp only [List.map_cons, sumI]; rw [h k (by simp), ih (fun x hx => h x (by simp [hx]))]; rfl
theorem sumI_one (t a : Int) : ∀ ks : List Int, ks.Nodup → sumI (ks.map fun k => if t = k then a else 0) = if t ∈ ks then a else 0 := by
  intro ks
  induction ks with
  | nil => intro _; simp [sumI]
  | cons k ks ih =>
    intro h
    rw [List.nodup_cons] at h
    simp only [List.map_cons, sumI]
    by_cases e : t = k
    · subst e
      rw [if_pos rfl, if_pos (by simp), sumI_zero ks _ (fun x hx => if_neg (fun h2 => h.1 (by rw [h2]; exact hx)))]; omega
    · rw [if_neg e, ih h.2]
      by_cases m : t ∈ ks
      · rw [if_pos m, if_pos (by simp [m])]; omega
      · rw [if_neg m, if_neg (by simp [e, m])]; omega
theorem sum_hours (x : Win) (ks : List Int) (hk : ks.Nodup) : ∀ (los : List Los) (am : List Int), (∀ a ∈ am, 0 ≤ a) → (∀ z ∈ los.zip am, z.1.peril = x.peril → 0 < z.2 → z.1.hour ∈ ks) → sumI (ks.map fun k => if x.fr ≤ k ∧ k < x.to then sumAt los am x.peril k else 0) = amtW los am x := by
  intro los
  induction los with
  | nil => intro am _ _; rw [sumI_zero _ _ (fun k _ => by simp [sumAt])]; simp [amtW, sumI]
  | cons l ls ih =>
    intro am hn hm
    cases am with
    | nil => rw [sumI_zero _ _ (fun k _ => by simp [sumAt])]; simp [amtW, sumI]
    | cons a ams =>
      have h1 := ih ams (fun y hy => hn y (by simp [hy])) (fun z hz => hm z (by rw [List.zip_cons_cons]; exact List.mem_cons_of_mem _ hz))
      have h0 := hn a (by simp)
      have e : (fun k => if x.fr ≤ k ∧ k < x.to then sumAt (l :: ls) (a :: ams) x.peril k else 0) = fun k => (if l.hour = k then (if covers x l = true then a else 0) else 0) + (if x.fr ≤ k ∧ k < x.to then sumAt ls ams x.peril k else 0) := by
        funext k
        simp only [sumAt]
        by_cases hin : x.fr ≤ k ∧ k < x.to
        · rw [if_pos hin, if_pos hin]
          by_cases hk2 : l.hour = k
          · by_cases hpp : l.peril = x.peril
            · rw [if_pos ⟨hpp, hk2⟩, if_pos hk2, if_pos ((covers_iff _ _).2 ⟨hpp.symm, by omega, by omega⟩)]
            · rw [if_neg (fun h => hpp h.1), if_pos hk2, if_neg (fun h => hpp ((covers_iff _ _).1 h).1.symm)]
          · rw [if_neg (fun h => hk2 h.2), if_neg hk2]
        · rw [if_neg hin, if_neg hin]
          by_cases hk2 : l.hour = k
          · rw [if_pos hk2, if_neg (fun h => hin (by have := (covers_iff _ _).1 h; omega))]; omega
          · rw [if_neg hk2]; omega
      rw [e, sumI_add, h1, sumI_one _ _ _ hk]
      unfold amtW
      rw [List.zip_cons_cons, List.map_cons, sumI]
      congr 1
      dsimp only
      by_cases hc : covers x l = true
      · rw [if_pos hc]
        by_cases ha : 0 < a
        · rw [if_pos (hm (l, a) (by simp) ((covers_iff _ _).1 hc).1.symm ha)]
        · rw [show a = 0 by omega]; simp
      · rw [if_neg hc]; simp
theorem mem_hoursL {p : Int} : ∀ (los : List Los) (am : List Int), ∀ z ∈ los.zip am, z.1.peril = p → 0 < z.2 → z.1.hour ∈ hoursL los am p := by
  intro los
  induction los with
  | nil => intro am z hz; simp at hz
  | cons l ls ih =>
    intro am z hz h1 h2
    cases am with
    | nil => simp at hz
    | cons a ams =>
      rw [List.zip_cons_cons] at hz
      simp only [hoursL]
      rcases List.mem_cons.1 hz with rfl | hz
      · rw [if_pos ⟨h1, h2⟩]; simp
      · split
        · exact List.mem_cons_of_mem _ (ih ams z hz h1 h2)
        · exact ih ams z hz h1 h2
/-- By points. -/
theorem amtW_pts {los : List Los} {am : List Int} (h : ∀ a ∈ am, 0 ≤ a) (x : Win) : amtW los am x = amtR (ptsF los am x.peril) x := by
  rw [← sum_hours x (hoursF los am x.peril) ((asc_insAll _).imp (fun hab => by omega)) los am h (fun z hz h1 h2 => (mem_insAll _ _).2 (mem_hoursL los am z hz h1 h2))]
  unfold amtR ptsF
  generalize hoursF los am x.peril = ks
  induction ks with
  | nil => rfl
  | cons k ks ih =>
    simp only [List.map_cons, sumI]
    by_cases hin : x.fr ≤ k ∧ k < x.to
    · rw [if_pos hin, List.filter_cons_of_pos ((inR_iff _ _).2 hin), sumB, ih]
    · rw [if_neg hin, List.filter_cons_of_neg (fun h => hin ((inR_iff _ _).1 h)), ih, Int.zero_add]
theorem amtW_bd {los : List Los} {am : List Int} (h : ∀ a ∈ am, 0 ≤ a) (x : Win) : 0 ≤ amtW los am x ∧ amtW los am x ≤ sumI am := by
  unfold amtW
  induction los generalizing am with
  | nil =>
    simp only [List.zip_nil_left, List.map_nil, sumI]
    have : ∀ l : List Int, (∀ a ∈ l, 0 ≤ a) → 0 ≤ sumI l := by
      intro l
      induction l with
      | nil => intro _; simp [sumI]
      | cons a l ih => intro h; have h1 := h a (by simp); have h2 := ih (fun x hx => h x (by simp [hx])); simp only [sumI]; omega
    exact ⟨by omega, this am h⟩
  | cons l ls ih =>
    cases am with
    | nil => simp [sumI]
    | cons a ams =>
      have h1 := h a (by simp)
      have h2 := ih (am := ams) (fun y hy => h y (by simp [hy]))
      rw [List.zip_cons_cons, List.map_cons, sumI, sumI]
      dsimp only
      split <;> omega
theorem amtW_far {los : List Los} {am : List Int} {x : Win} (h : ∀ l ∈ los, l.peril ≠ x.peril) : amtW los am x = 0 := by
  unfold amtW
  induction los generalizing am with
  | nil => simp [sumI]
  | cons l ls ih =>
    cases am with
    | nil => simp [sumI]
    | cons a ams =>
      rw [List.zip_cons_cons, List.map_cons, sumI, ih (fun y hy => h y (by simp [hy]))]
      dsimp only
      rw [if_neg (fun hc => h l (by simp) ((covers_iff _ _).1 hc).1.symm)]; rfl

/-! ### Sums by perils -/
theorem sum_by {ws : List Win} {g : Win → Int} {ks : List Int} (hk : ks.Nodup) (h : ∀ w ∈ ws, w.peril ∉ ks → g w = 0) : sumI (ws.map g) = sumI (ks.map fun p => sumI ((ws.filter fun w => decide (w.peril = p)).map g)) := by
  induction ws with
  | nil => rw [sumI_zero _ _ (fun k _ => by simp [sumI])]; rfl
  | cons w ws ih =>
    have h1 := ih (fun x hx => h x (by simp [hx]))
    have e : (fun p => sumI (((w :: ws).filter fun w => decide (w.peril = p)).map g)) = fun p => (if w.peril = p then g w else 0) + sumI ((ws.filter fun w => decide (w.peril = p)).map g) := by
      funext p
      by_cases hp : w.peril = p
      · rw [List.filter_cons_of_pos (by simpa using hp), List.map_cons, sumI, if_pos hp]
      · rw [List.filter_cons_of_neg (by simpa using hp), if_neg hp]; omega
    rw [e, sumI_add, ← h1, sumI_one _ _ _ hk, List.map_cons, sumI]
    by_cases hm : w.peril ∈ ks
    · rw [if_pos hm]
    · rw [if_neg hm, h w (by simp) hm]
theorem sumI_leF {ks : List Int} {f g : Int → Int} (h : ∀ k ∈ ks, f k ≤ g k) : sumI (ks.map f) ≤ sumI (ks.map g) := by
  induction ks with
  | nil => exact Int.le_refl _
  | cons k ks ih => have h1 := h k (by simp); have h2 := ih (fun x hx => h x (by simp [hx])); simp only [List.map_cons, sumI]; omega

/-! ### Valid windows -/
theorem oneE_zero {before : List Win} {x : Win} {n : Int} (h : oneE before x n = 0) : winRange x = true ∧ x.to - x.fr ≤ n ∧ (∀ l, before.getLast? = some l → winOrd l x = false) ∧ ∀ v ∈ before, winMeet v x = false := by
  unfold oneE at h
  split at h
  · omega
  · rename_i h1
    split at h
    · omega
    · rename_i h2
      split at h
      · omega
      · rename_i h3
        split at h
        · omega
        · rename_i h4
          refine ⟨by simpa using h1, by omega, fun l hl => ?_, fun v hv => ?_⟩
          · rw [hl] at h3; simpa using h3
          · rw [List.any_eq_true] at h4
            cases hq : winMeet v x with
            | false => rfl
            | true => exact absurd ⟨v, hv, hq⟩ h4
theorem wins_order (n : Int) : ∀ (xs before : List Win), winsLoop n before xs = 0 → before.Pairwise (fun a b => a.fr ≤ b.fr) → (before ++ xs).Pairwise (fun a b => a.fr ≤ b.fr) ∧ ∀ x ∈ xs, winRange x = true ∧ x.to - x.fr ≤ n := by
  intro xs
  induction xs with
  | nil => intro before _ h; exact ⟨by simpa using h, fun x hx => by simp at hx⟩
  | cons x xs ih =>
    intro before h hb
    unfold winsLoop at h
    split at h
    · rename_i h1; exact absurd h h1
    · rename_i h1
      obtain ⟨r1, r2, r3, _⟩ := oneE_zero (show oneE before x n = 0 by omega)
      have hb' : (before ++ [x]).Pairwise (fun a b => a.fr ≤ b.fr) := by
        refine List.pairwise_append.2 ⟨hb, by simp, fun a ha b hbm => ?_⟩
        obtain rfl : b = x := by simpa using hbm
        rcases List.eq_nil_or_concat before with rfl | ⟨init, l, rfl⟩
        · simp at ha
        · have hl := r3 l (by simp)
          have h2 : l.fr ≤ b.fr := by
            rw [Bool.eq_false_iff, Ne, winOrd_iff] at hl
            omega
          rw [List.concat_eq_append] at ha hb
          rcases List.mem_append.1 ha with ha | ha
          · have := (List.pairwise_append.1 hb).2.2 a ha l (by simp)
            omega
          · obtain rfl : a = l := by simpa using ha
            exact h2
      obtain ⟨p1, p2⟩ := ih _ h hb'
      refine ⟨by simpa using p1, fun y hy => ?_⟩
      rcases List.mem_cons.1 hy with rfl | hy
      · exact ⟨r1, r2⟩
      · exact p2 y hy
theorem winsE_parts {ws : List Win} {n : Int} (h : winsE ws n = 0) : winsLoop n [] ws = 0 ∧ 1 ≤ n ∧ n ≤ 8784 ∧ ws.length ≤ 64 := by
  unfold winsE at h
  split at h
  · omega
  · split at h
    · omega
    · exact ⟨h, by omega, by omega, by omega⟩
/-- The windows of one peril among valid ones. -/
theorem valid_peril {ws : List Win} {n : Int} (h : winsE ws n = 0) (p : Int) : (ws.filter fun w => decide (w.peril = p)).Pairwise (fun a b => a.to ≤ b.fr) ∧ ∀ w ∈ ws.filter (fun w => decide (w.peril = p)), w.fr < w.to ∧ w.to - w.fr ≤ n := by
  have hl := (winsE_parts h).1
  obtain ⟨p1, p2⟩ := wins_order n ws [] hl List.Pairwise.nil
  have p3 := (wins_meet n ws [] hl).1
  rw [List.nil_append] at p1
  constructor
  · have := (List.Pairwise.and p1 p3).sublist (List.filter_sublist (l := ws) (p := fun w => decide (w.peril = p)))
    refine this.imp_of_mem fun {a b} ha hb hab => ?_
    have a1 : a.peril = p := by simpa using (List.mem_filter.1 ha).2
    have b1 : b.peril = p := by simpa using (List.mem_filter.1 hb).2
    have b2 := (winRange_iff _).1 (p2 b (List.mem_filter.1 hb).1).1
    have := hab.2
    rw [Bool.eq_false_iff, Ne, winMeet_iff] at this
    omega
  · intro w hw
    have := p2 w (List.mem_filter.1 hw).1
    have h2 := (winRange_iff _).1 this.1
    omega
/-- In strict order, apart and in range: valid. -/
theorem wins_valid (n : Int) : ∀ (xs before : List Win), (∀ x ∈ xs, winRange x = true ∧ x.to - x.fr ≤ n) → (before ++ xs).Pairwise (fun a b => a.fr < b.fr ∨ (a.fr = b.fr ∧ a.peril < b.peril)) → (before ++ xs).Pairwise (fun a b => winMeet a b = false) → winsLoop n before xs = 0 := by
  intro xs
  induction xs with
  | nil => intro before _ _ _; rfl
  | cons x xs ih =>
    intro before h1 h2 h3
    have e : oneE before x n = 0 := by
      obtain ⟨r1, r2⟩ := h1 x (by simp)
      rw [one_rest r1 (by omega)]
      · rw [if_neg]
        rw [Bool.not_eq_true, List.any_eq_false]
        intro v hv
        have := (List.pairwise_append.1 h3).2.2 v hv x (by simp)
        simp [this]
      · intro l hl
        have := (List.pairwise_append.1 h2).2.2 l (List.mem_of_getLast? hl) x (by simp)
        rw [Bool.eq_false_iff, Ne, winOrd_iff]; omega
    unfold winsLoop
    rw [if_neg (by rw [e]; simp)]
    exact ih _ (fun y hy => h1 y (by simp [hy])) (by simpa using h2) (by simpa using h3)
theorem totals_valid {los : List Los} {am : List Int} {ws : List Win} {n : Int} (h : winsE ws n = 0) : totF los am ws = ws.map (amtW los am) := totF_amt (wins_meet n ws [] (winsE_parts h).1).1

end Go.Proofs.YtilkcailpkebdaaGreat

/-
  The best windows are valid; their recoveries add up to the values of the perils' points, and no valid windows recover more. Plain Lean.
-/
namespace Go.Proofs.YtilkcailpkebdaaGreat
open Go.RowKit
set_option linter.unusedVariables false

theorem perils_eq (los : List Los) : perilsF los = insAll (perilsL los) := compact_sorted _
theorem perils_mem {los : List Los} {p : Int} : p ∈ perilsF los ↔ ∃ l ∈ los, l.peril = p := by
  rw [perils_eq, mem_insAll]; unfold perilsL; rw [List.mem_map]
theorem perils_nodup (los : List Los) : (perilsF los).Nodup := by rw [perils_eq]; exact (asc_insAll _).imp (fun hab => by omega)
theorem peril_range {los : List Los} {am : List Int} (h : chkE los am = 0) {l : Los} (hl : l ∈ los) : 0 ≤ l.peril ∧ l.peril ≤ 15 := by
  have hG := goodE_of h
  obtain ⟨k, hk, rfl⟩ := List.getElem_of_mem hl
  have hs := hG.same
  have hz := zip_get (los := los) (am := am) (k := k) (List.getElem?_eq_getElem hk) (List.getElem?_eq_getElem (by omega))
  have := List.all_eq_true.1 hG.all _ (List.mem_of_getElem? hz)
  have := (pairOk_iff _ _).1 this
  omega
theorem amounts_nonneg {los : List Los} {am : List Int} (h : chkE los am = 0) : ∀ a ∈ am, 0 ≤ a := fun a ha => (zip_amounts (goodE_of h).same (goodE_of h).all a ha).1
theorem amtW_range {los : List Los} {am : List Int} (h : chkE los am = 0) (x : Win) : 0 ≤ amtW los am x ∧ amtW los am x ≤ 17592186044416 := by
  have h1 := amtW_bd (los := los) (amounts_nonneg h) x
  have h2 := (goodE_of h).sum
  omega
theorem best_perm (los : List Los) (am : List Int) (n : Int) (ls : List P2) : (bestF los am n ls).Perm (collW los am n ls) := by
  obtain ⟨_, h2⟩ := insW_all (collW los am n ls) [] List.Pairwise.nil
  rwa [List.append_nil] at h2
theorem winMeet_symm {a b : Win} (h : winMeet a b = false) : winMeet b a = false := by
  rw [Bool.eq_false_iff, Ne, winMeet_iff] at h ⊢
  omega
theorem coll_mem {los : List Los} {am : List Int} {n : Int} {ls : List P2} {w : Win} (h : w ∈ collW los am n ls) : ∃ p, p ∈ perilsF los ∧ w ∈ winsP los am n ls p ∧ w.peril = p := by
  unfold collW at h
  obtain ⟨p, hp, hw⟩ := List.mem_flatMap.1 h
  exact ⟨p, hp, hw, (winsP_asc los am n ls p).2 w hw⟩
theorem coll_nodup (los : List Los) (am : List Int) (n : Int) (ls : List P2) : (collW los am n ls).Nodup := by
  unfold collW List.Nodup
  rw [List.pairwise_flatMap]
  refine ⟨fun p _ => (winsP_asc los am n ls p).1.imp (fun {a b} hab e => by subst e; omega), (perils_nodup los).imp fun {p q} hpq x hx y hy e => ?_⟩
  have h1 := (winsP_asc los am n ls p).2 x hx
  have h2 := (winsP_asc los am n ls q).2 y hy
  subst e; exact hpq (h1.symm.trans h2)
theorem coll_meet {los : List Los} {am : List Int} {n : Int} {ls : List P2} (h : chkE los am = 0) : (collW los am n ls).Pairwise (fun a b => winMeet a b = false) := by
  unfold collW
  rw [List.pairwise_flatMap]
  refine ⟨fun p _ => (winsP_fine h p).2.imp (fun {a b} hab => ?_), (perils_nodup los).imp fun {p q} hpq x hx y hy => ?_⟩
  · rw [Bool.eq_false_iff, Ne, winMeet_iff]; omega
  · have h1 := (winsP_asc los am n ls p).2 x hx
    have h2 := (winsP_asc los am n ls q).2 y hy
    rw [Bool.eq_false_iff, Ne, winMeet_iff]
    intro h3; exact hpq (by omega)
theorem best_meet {los : List Los} {am : List Int} {n : Int} {ls : List P2} (h : chkE los am = 0) : (bestF los am n ls).Pairwise (fun a b => winMeet a b = false) :=
  ((best_perm los am n ls).pairwise_iff (fun {a b} hab => winMeet_symm hab)).2 (coll_meet h)
/-- The best windows are valid. -/
theorem best_valid {los : List Los} {am : List Int} {n : Int} {ls : List P2} (h : chkE los am = 0) (h1 : 1 ≤ n) (h2 : n ≤ 8784) : winsE (bestF los am n ls) n = 0 := by
  unfold winsE
  have hl := best_len (los := los) (am := am) (n := n) (ls := ls)
  have hg := (goodE_of h).len
  rw [if_neg (by omega), if_neg (by omega)]
  have hP := best_perm los am n ls
  refine wins_valid n _ [] (fun w hw => ?_) ?_ ?_
  · obtain ⟨p, hp, hwp, e⟩ := coll_mem (hP.mem_iff.1 hw)
    have f := (winsP_fine h p).1 w hwp
    obtain ⟨l, hl, e2⟩ := perils_mem.1 hp
    have r := peril_range h hl
    refine ⟨(winRange_iff _).2 ⟨by omega, by omega, by omega, by omega, by omega⟩, by omega⟩
  · rw [List.nil_append]
    have s1 : (bestF los am n ls).Pairwise (fun a b => ¬ winLt b a) := (insW_all (collW los am n ls) [] List.Pairwise.nil).1
    have s2 : (bestF los am n ls).Pairwise (fun a b => a ≠ b) := (hP.nodup_iff).2 (coll_nodup los am n ls)
    refine (List.Pairwise.and s1 s2).imp_of_mem fun {a b} ha hb hab => ?_
    by_cases hlt : winLt a b
    · exact hlt
    · exact absurd (coll_key (hP.mem_iff.1 ha) (hP.mem_iff.1 hb) hlt hab.1) hab.2
  · rw [List.nil_append]; exact best_meet h
theorem sum_flat (ks : List Int) (f : Int → List Win) (g : Win → Int) : sumI ((ks.flatMap f).map g) = sumI (ks.map fun k => sumI ((f k).map g)) := by
  induction ks with
  | nil => rfl
  | cons k ks ih => rw [List.flatMap_cons, List.map_append, sumI_append, ih, List.map_cons, sumI]
theorem win_of_span {los : List Los} {am : List Int} {n : Int} {ls : List P2} (h : chkE los am = 0) {p : Int} {s : P2} (hs : s ∈ spansOf (ptsF los am p) n ls) : recVal (amtW los am (winOf p (ptsF los am p) s)) ls = recS (ptsF los am p) ls s := by
  obtain ⟨h1, h2, h3⟩ := spansOf_in hs
  have hasc := (ptsF_fine h p).2.1
  rw [amtW_pts (amounts_nonneg h)]
  show recVal (amtR (ptsF los am p) (winOf p (ptsF los am p) s)) ls = _
  have hi : s.a.toNat < (ptsF los am p).length := by omega
  have hj : s.b.toNat < (ptsF los am p).length := by omega
  have e := amt_span hasc (i := s.a.toNat) (j := s.b.toNat) (by omega) (List.getElem?_eq_getElem hi) (List.getElem?_eq_getElem hj) p
  have e2 : winOf p (ptsF los am p) s = ⟨p, (ptsF los am p)[s.a.toNat].a, (ptsF los am p)[s.b.toNat].a + 1⟩ := by
    unfold winOf hourAt; rw [List.getElem?_eq_getElem hi, List.getElem?_eq_getElem hj]; rfl
  rw [e2, e]; rfl
/-- The greatest recoveries, over all perils. -/
def bestSum (los : List Los) (am : List Int) (n : Int) (ls : List P2) : Int := sumI ((perilsF los).map fun p => valAt n ls (ptsF los am p) 0)
theorem coll_sum {los : List Los} {am : List Int} {n : Int} {ls : List P2} (h : chkE los am = 0) (hr : recErr 0 ls = 0) (h1 : 1 ≤ n) (h2 : n ≤ 8784) : sumI ((collW los am n ls).map fun w => recVal (amtW los am w) ls) = bestSum los am n ls ∧ ∀ w ∈ collW los am n ls, 0 < recVal (amtW los am w) ls := by
  have hv : ∀ p, sumI ((winsP los am n ls p).map fun w => recVal (amtW los am w) ls) = valAt n ls (ptsF los am p) 0 ∧ ∀ w ∈ winsP los am n ls p, 0 < recVal (amtW los am w) ls := fun p => by
    have hc := chkErr_pts h hr (n := n) (by omega) p
    have hS : spansOf (ptsF los am p) n ls = spansF n ls (ptsF los am p) (ptsF los am p).length 0 := by unfold spansOf; rw [if_pos hc]
    have hv := spans_val (L := n) (ls := ls) (ptsF_fine h p).2.1 (ptsF los am p).length 0 (by omega) (by omega)
    rw [← hS] at hv
    unfold winsP
    rw [List.map_map]
    constructor
    · rw [← hv.1]
      congr 1
      refine List.map_congr_left fun s hs => ?_
      exact win_of_span h hs
    · intro w hw
      obtain ⟨s, hs, rfl⟩ := List.mem_map.1 hw
      rw [win_of_span h hs]; exact hv.2 s hs
  constructor
  · unfold collW bestSum
    rw [sum_flat]
    congr 1
    exact List.map_congr_left fun p _ => (hv p).1
  · intro w hw
    obtain ⟨p, _, hwp, _⟩ := coll_mem hw
    exact (hv p).2 w hwp
theorem bestA_ok {los : List Los} {am : List Int} {n : Int} {ls : List P2} (h : chkE los am = 0) (hr : recErr 0 ls = 0) (h1 : 1 ≤ n) (h2 : n ≤ 8784) : bestA los am n ls = 0 := by
  unfold bestA; rw [if_neg (by simp [h]), if_neg (by simp [hr]), if_neg (by omega)]
theorem best_all {los : List Los} {am : List Int} {n : Int} {ls : List P2} (h : chkE los am = 0) (hr : recErr 0 ls = 0) (h1 : 1 ≤ n) (h2 : n ≤ 8784) :
    bestE los am n ls = 0 ∧ bestW los am n ls = bestF los am n ls ∧ bestT los am n ls = (bestF los am n ls).map (amtW los am) ∧ bestR los am n ls = (bestF los am n ls).map (fun w => recVal (amtW los am w) ls) ∧ sumI (bestR los am n ls) = bestSum los am n ls ∧ ∀ r ∈ bestR los am n ls, 0 < r := by
  obtain ⟨e1, e2, e3, e4⟩ := best_ok (bestA_ok h hr h1 h2)
  have hv := best_valid (los := los) (am := am) (ls := ls) h h1 h2
  have hE := ev_parts h hr hv
  obtain ⟨f1, f2, f3⟩ := ev_ok hE
  have hT := totals_valid (los := los) (am := am) hv
  have hR : bestR los am n ls = (bestF los am n ls).map (fun w => recVal (amtW los am w) ls) := by rw [e3, f3, hT]; unfold recsF; rw [List.map_map]; rfl
  obtain ⟨s1, s2⟩ := coll_sum h hr h1 h2
  refine ⟨by rw [e4]; exact hE, by rw [e1, f1], by rw [e2, f2, hT], hR, ?_, fun r hr' => ?_⟩
  · rw [hR, ← s1]; exact sumI_perm ((best_perm los am n ls).map _)
  · rw [hR] at hr'
    obtain ⟨w, hw, rfl⟩ := List.mem_map.1 hr'
    exact s2 w ((best_perm los am n ls).mem_iff.1 hw)
/-- No valid windows recover more, whatever bounds the values of the perils' points. -/
theorem eval_bound {los : List Los} {am : List Int} {n : Int} {ls : List P2} {ws : List Win} (h : chkE los am = 0) (hr : recErr 0 ls = 0) (hw : winsE ws n = 0) {V : Int → Nat → Int} (hV : ∀ p ∈ perilsF los, BndV n ls (ptsF los am p) (V p)) : sumI (evR los am ws n ls) ≤ sumI ((perilsF los).map fun p => V p 0) := by
  have hE := ev_parts h hr hw
  obtain ⟨_, _, f3⟩ := ev_ok hE
  have hR : evR los am ws n ls = ws.map (fun w => recVal (amtW los am w) ls) := by rw [f3, totals_valid hw]; unfold recsF; rw [List.map_map]; rfl
  rw [hR, sum_by (perils_nodup los) (fun w _ hm => ?_)]
  · refine sumI_leF fun p hp => ?_
    obtain ⟨p1, p2⟩ := valid_peril hw p
    have hb := bound_all (hV p hp) (ptsF_fine h p).2.1 _ 0 _ (Nat.le_refl _) (Nat.zero_le _) p1 p2
    rw [List.drop_zero] at hb
    refine Int.le_trans (Int.le_of_eq ?_) hb
    unfold recsR
    congr 1
    refine List.map_congr_left fun w hwm => ?_
    have e : w.peril = p := by simpa using (List.mem_filter.1 hwm).2
    rw [amtW_pts (amounts_nonneg h), e]
  · rw [amtW_far (fun l hl e => hm (perils_mem.2 ⟨l, hl, e⟩)), recVal_zero]
theorem eval_le {los : List Los} {am : List Int} {n : Int} {ls : List P2} {ws : List Win} (h : chkE los am = 0) (hr : recErr 0 ls = 0) (hw : winsE ws n = 0) : sumI (evR los am ws n ls) ≤ bestSum los am n ls :=
  eval_bound h hr hw (V := fun p => valAt n ls (ptsF los am p)) (fun p _ => valAt_bnd (ptsF_fine h p).2.1)
theorem evR_valid {los : List Los} {am : List Int} {n : Int} {ls : List P2} {ws : List Win} (h : chkE los am = 0) (hr : recErr 0 ls = 0) (hw : winsE ws n = 0) : evR los am ws n ls = ws.map (fun w => recVal (amtW los am w) ls) := by
  obtain ⟨_, _, f3⟩ := ev_ok (ev_parts h hr hw)
  rw [f3, totals_valid hw]; unfold recsF; rw [List.map_map]; rfl

end Go.Proofs.YtilkcailpkebdaaGreat

/-
  event.one: its contract.
-/
namespace Go.Proofs.YtilkcailpkebdaaGreat
open Go.RowKit
set_option linter.unusedVariables false

theorem below_alloc1 (w : World) (o : Obj) : Below w.heap.size w (w.alloc o) := (Below.refl _ _).alloc (Nat.le_refl _) _

set_option maxRecDepth 100000 in
set_option maxHeartbeats 2000000 in
theorem one_any (A : Option Addr) (c : Nat) (bs : List Win) (x : Win) (n : Int) (w : World) (hbl : bs.length ≤ 1000) (hB : Wins w 0 A bs) :
    Calls Tryz.prog 70 #[.slice A bs.length c, .agg #[.int .i64 x.peril, .int .i64 x.fr, .int .i64 x.to], .int .i64 n] w fun e w' => e = .returned (.int .i64 (oneE bs x n)) ∧ Below w.heap.size w w' := by
  obtain ⟨m, hm⟩ : ∃ m, m = bs.length := ⟨_, rfl⟩
  rw [← hm] at hbl ⊢
  have HM := Lib.hid hm
  clear hm
  by_cases hr : winRange x = true
  case neg =>
    have HR := Lib.hid (one_range (before := bs) (n := n) (Bool.eq_false_iff.2 hr))
    have hno : ¬ (0 ≤ x.peril ∧ x.peril ≤ 15 ∧ 0 ≤ x.fr ∧ x.fr < x.to ∧ x.to ≤ 876600) := fun h => hr ((winRange_iff x).2 h)
    clear hr
    by_cases h1 : 0 ≤ x.peril ∧ x.peril ≤ 15
    · have v1 := withinB_true h1.1 h1.2
      have hno' : ¬ (0 ≤ x.fr ∧ x.fr < x.to ∧ x.to ≤ 876600) := by omega
      clear hno h1
      go_enter Tryz.func70, Tryz.ntmps70
      go_wp2_with (go_at_call 53; refine (within_any _ _ _ _).mono ?_; rintro e w' ⟨rfl, rfl⟩)
      all_goals first | (exfalso; omega) | (go_ret; exact ⟨ret_int HR.out.symm, (Below.refl _ _).alloc (Nat.le_refl _) _⟩)
    · have v1 := withinB_false h1
      clear hno h1
      go_enter Tryz.func70, Tryz.ntmps70
      go_wp2_with (go_at_call 53; refine (within_any _ _ _ _).mono ?_; rintro e w' ⟨rfl, rfl⟩)
      go_ret
      exact ⟨ret_int HR.out.symm, (Below.refl _ _).alloc (Nat.le_refl _) _⟩
  obtain ⟨g1, g2, g3, g4, g5⟩ := (winRange_iff x).1 hr
  have v1 := withinB_true g1 g2
  by_cases hl : n < x.to - x.fr
  · have HR := Lib.hid (one_limit (before := bs) hr hl)
    clear hr
    go_enter Tryz.func70, Tryz.ntmps70
    go_wp2_with (go_at_call 53; refine (within_any _ _ _ _).mono ?_; rintro e w' ⟨rfl, rfl⟩)
    go_ret
    exact ⟨ret_int HR.out.symm, (Below.refl _ _).alloc (Nat.le_refl _) _⟩
  have HRG := Lib.hid hr
  have HLM := Lib.hid hl
  have hl' : x.to - x.fr ≤ n := by omega
  clear hr hl
  have hb0 := (Below.refl w.heap.size w).alloc (Nat.le_refl _) (.cells #[.int .i64 x.peril, .int .i64 x.fr, .int .i64 x.to] 75)
  have hB0 := hB.below hb0
  have k0 : (w.alloc (.cells #[.int .i64 x.peril, .int .i64 x.fr, .int .i64 x.to] 75)).cell? ⟨w.heap.size, 0, none⟩ = some (.int .i64 x.peril) := by simp
  have k1 : (w.alloc (.cells #[.int .i64 x.peril, .int .i64 x.fr, .int .i64 x.to] 75)).cell? ⟨w.heap.size, 1, none⟩ = some (.int .i64 x.fr) := by simp
  have k2 : (w.alloc (.cells #[.int .i64 x.peril, .int .i64 x.fr, .int .i64 x.to] 75)).cell? ⟨w.heap.size, 2, none⟩ = some (.int .i64 x.to) := by simp
  have kz : w.heap.size < (w.alloc (.cells #[.int .i64 x.peril, .int .i64 x.fr, .int .i64 x.to] 75)).heap.size := by simp
  go_enter Tryz.func70, Tryz.ntmps70
  go_upto_if 42 with (go_at_call 53; refine (within_any _ _ _ _).mono ?_; rintro e w' ⟨rfl, rfl⟩)
  obtain ⟨w1, hw1⟩ : ∃ w1 : World, w1 = w.alloc (.cells #[.int .i64 x.peril, .int .i64 x.fr, .int .i64 x.to] 75) := ⟨_, rfl⟩
  rw [← hw1] at hb0 hB0 k0 k1 k2 kz ⊢
  clear hw1 hB
  go_cut [4, 8] (fun s4 _ wc => s4 = .pointer (some ⟨w.heap.size, 0, none⟩) ∧ Below w1.heap.size w1 wc ∧ ∀ l, bs.getLast? = some l → winOrd l x = false)
  case first =>
    by_cases h0 : 0 < m
    · obtain ⟨l, hl, _⟩ := drop_cons (xs := bs) (i := m - 1) (by rw [← HM.out]; omega)
      have HLL : Hid (bs.getLast? = some l) := by rw [List.getLast?_eq_getElem?, ← HM.out, hl]; rfl
      obtain ⟨b, off, rfl, _, _, c0, c1, c2⟩ := hB0.at_ hl
      have q : decide (0 < m) = true := by simpa using h0
      clear hl
      rcases Int.lt_trichotomy x.fr l.fr with hlt | heq | hgt
      · have HR := Lib.hid (one_order (n := n) HRG.out (by omega) HLL.out ((winOrd_iff l x).2 (.inl hlt)))
        go_wp2_with fail
        go_ret
        exact ⟨ret_int HR.out.symm, hb0.trans ((below_alloc1 w1 _).mono hb0.size)⟩
      · have qe : (x.fr == l.fr) = true := by simpa using heq
        have hnl : ¬ x.fr < l.fr := by omega
        by_cases hp : x.peril ≤ l.peril
        · have HR := Lib.hid (one_order (n := n) HRG.out (by omega) HLL.out ((winOrd_iff l x).2 (.inr ⟨heq, hp⟩)))
          clear heq
          go_wp2_with fail
          go_ret
          exact ⟨ret_int HR.out.symm, hb0.trans ((below_alloc1 w1 _).mono hb0.size)⟩
        · have HO : Hid (winOrd l x = false) := by rw [Bool.eq_false_iff]; intro h; have := (winOrd_iff l x).1 h; omega
          clear heq
          go_wp2_with fail
          go_meet
          exact ⟨rfl, below_alloc1 w1 _, fun l' hl' => by rw [HLL.out] at hl'; injection hl' with hl'; rw [← hl']; exact HO.out⟩
      · have qe : (x.fr == l.fr) = false := by simp; omega
        have hnl : ¬ x.fr < l.fr := by omega
        have HO : Hid (winOrd l x = false) := by rw [Bool.eq_false_iff]; intro h; have := (winOrd_iff l x).1 h; omega
        go_wp2_with fail
        go_meet
        exact ⟨rfl, below_alloc1 w1 _, fun l' hl' => by rw [HLL.out] at hl'; injection hl' with hl'; rw [← hl']; exact HO.out⟩
    · have q : decide (0 < m) = false := by simp; omega
      go_wp2_with fail
      go_meet
      refine ⟨rfl, Below.refl _ _, fun l hl => ?_⟩
      have : bs = [] := List.eq_nil_of_length_eq_zero (by have := HM.out; omega)
      rw [this] at hl; simp at hl
  case rest =>
    obtain ⟨rfl, hbc, hord⟩ := hcut
    have HR := Lib.hid (one_rest (n := n) HRG.out (by omega) hord)
    clear hord
    go_wp2_with fail
    go_loopw [10, 69] (fun _ ii wr => ∃ k : Nat, k ≤ m ∧ ii = .int .i64 k ∧ Below w1.heap.size w1 wr ∧ ((bs.drop k).any fun v => winMeet v x) = (bs.any fun v => winMeet v x)) (fun _ ii _ => m - (intOf ii).toNat)
    case atStart => exact ⟨0, Nat.zero_le _, rfl, hbc, rfl⟩
    case round =>
      obtain ⟨k, hk, rfl, hbr, hany⟩ := hrel
      have HA := Lib.hid hany
      clear hany
      by_cases hlt : k < m
      · obtain ⟨v, hv, hd⟩ := drop_cons (xs := bs) (i := k) (by rw [← HM.out]; exact hlt)
        obtain ⟨b, off, rfl, _, _, c0, c1, c2⟩ := (hB0.below hbr).at_ hv
        have j0 : wr.cell? ⟨w.heap.size, 0, none⟩ = some (.int .i64 x.peril) := (hbr.cell (p := ⟨w.heap.size, 0, none⟩) kz).trans k0
        have j1 : wr.cell? ⟨w.heap.size, 1, none⟩ = some (.int .i64 x.fr) := (hbr.cell (p := ⟨w.heap.size, 1, none⟩) kz).trans k1
        have j2 : wr.cell? ⟨w.heap.size, 2, none⟩ = some (.int .i64 x.to) := (hbr.cell (p := ⟨w.heap.size, 2, none⟩) kz).trans k2
        have jz : w.heap.size < wr.heap.size := Nat.lt_of_lt_of_le kz hbr.size
        have HV := Lib.hid (List.mem_of_getElem? hv)
        have HD := Lib.hid hd
        clear hv hd
        by_cases hmt : winMeet v x = true
        · obtain ⟨e1, e2, e3⟩ := (winMeet_iff v x).1 hmt
          have HX : Hid (oneE bs x n = 8) := by
            rw [HR.out, if_pos (List.any_eq_true.2 ⟨v, HV.out, hmt⟩)]; rfl
          have q1 : (v.peril == x.peril) = true := by simpa using e1
          clear hmt e1
          go_wp2_with fail
          go_ret
          exact ⟨ret_int HX.out.symm, hb0.trans ((hbr.alloc hbr.size _).mono hb0.size)⟩
        · have HX : Hid (((bs.drop (k + 1)).any fun v => winMeet v x) = (bs.any fun v => winMeet v x)) := by
            have := HA.out
            rw [HD.out, List.any_cons, Bool.eq_false_iff.2 hmt, Bool.false_or] at this
            exact this
          have hno : ¬ (v.peril = x.peril ∧ v.fr < x.to ∧ x.fr < v.to) := fun h => hmt ((winMeet_iff v x).2 h)
          clear hmt
          by_cases e1 : v.peril = x.peril
          · have q1 : (v.peril == x.peril) = true := by simpa using e1
            have hno' : ¬ (v.fr < x.to ∧ x.fr < v.to) := fun h => hno ⟨e1, h⟩
            clear hno e1
            by_cases e2 : v.fr < x.to
            · have e3 : ¬ x.fr < v.to := by omega
              go_wp2_with fail
              go_roundw
              case rel => exact ⟨k + 1, by omega, by go_num, hbr.alloc hbr.size _, HX.out⟩
              case measure => simp [intOf]; omega
            · go_wp2_with fail
              go_roundw
              case rel => exact ⟨k + 1, by omega, by go_num, hbr.alloc hbr.size _, HX.out⟩
              case measure => simp [intOf]; omega
          · have q1 : (v.peril == x.peril) = false := by simpa using e1
            clear hno e1
            go_wp2_with fail
            go_roundw
            case rel => exact ⟨k + 1, by omega, by go_num, hbr.alloc hbr.size _, HX.out⟩
            case measure => simp [intOf]; omega
      · obtain rfl : k = m := by omega
        have HX : Hid (oneE bs x n = 0) := by
          have h1 := HA.out
          rw [HM.out, List.drop_length, List.any_nil] at h1
          rw [HR.out, if_neg (by rw [← h1]; simp)]; rfl
        go_wp2_with fail
        go_ret
        exact ⟨ret_int HX.out.symm, hb0.trans (hbr.mono hb0.size)⟩

end Go.Proofs.YtilkcailpkebdaaGreat

/-
  event.Validate: its contract.
-/
namespace Go.Proofs.YtilkcailpkebdaaGreat
open Go.RowKit
set_option linter.unusedVariables false

theorem Wins.take {w : World} {lo : Nat} {A : Option Addr} {xs : List Win} (h : Wins w lo A xs) (k : Nat) : Wins w lo A (xs.take k) := by
  intro hp
  have hp' : 0 < (xs.map Win.cells).length := by simp at hp ⊢; omega
  obtain ⟨b, off, e, h1, h2, hc⟩ := h hp'
  refine ⟨b, off, e, h1, h2, fun i x hx => hc i x ?_⟩
  rw [List.map_take, List.getElem?_take] at hx
  split at hx
  · exact hx
  · cases hx

set_option maxHeartbeats 1000000 in
theorem validate_any (A : Option Addr) (c : Nat) (xs : List Win) (n : Int) (w : World) (hxl : xs.length ≤ 9223372036854775807) (hxc : xs.length ≤ c) (hX : Wins w 0 A xs) :
    Calls Tryz.prog 46 #[.slice A xs.length c, .int .i64 n] w fun e w' => e = .returned (.int .i64 (winsE xs n)) ∧ Below w.heap.size w w' := by
  obtain ⟨m, hm⟩ : ∃ m, m = xs.length := ⟨_, rfl⟩
  rw [← hm] at hxl hxc ⊢
  have HM := Lib.hid hm
  by_cases h64 : 64 < m
  · have HR : Hid (winsE xs n = 4) := by unfold winsE; rw [if_pos (by omega)]; rfl
    clear hm
    go_enter Tryz.func46, Tryz.ntmps46
    go_wp2_with fail
    go_ret
    exact ⟨ret_int HR.out.symm, Below.refl _ _⟩
  have q : decide (64 < (m : Int)) = false := by simp; omega
  by_cases hn : 1 ≤ n ∧ n ≤ 8784
  case neg =>
    have HR : Hid (winsE xs n = 1) := by unfold winsE; rw [if_neg (by omega), if_pos (by omega)]; rfl
    have v1 := withinB_false hn
    clear hm
    go_enter Tryz.func46, Tryz.ntmps46
    go_wp2_with (go_at_call 53; refine (within_any _ _ _ _).mono ?_; rintro e w' ⟨rfl, rfl⟩)
    go_ret
    exact ⟨ret_int HR.out.symm, Below.refl _ _⟩
  have HR : Hid (winsE xs n = winsLoop n [] xs) := by unfold winsE; rw [if_neg (by omega), if_neg (by omega)]; rfl
  have v1 := withinB_true hn.1 hn.2
  have CO : Hid (∀ (k : Nat) (x : Win) (W : World), k ≤ m → Wins W 0 A xs → Calls Tryz.prog 70 #[.slice A k c, .agg #[.int .i64 x.peril, .int .i64 x.fr, .int .i64 x.to], .int .i64 n] W fun e w' => e = .returned (.int .i64 (oneE (xs.take k) x n)) ∧ Below W.heap.size W w') := by
    intro k x W hk h
    have := one_any A c (xs.take k) x n W (by simp; omega) (h.take k)
    rw [List.length_take, Nat.min_eq_left (by omega)] at this
    exact this
  clear hm hn
  go_enter Tryz.func46, Tryz.ntmps46
  go_wp2_with (go_at_call 53; refine (within_any _ _ _ _).mono ?_; rintro e w' ⟨rfl, rfl⟩)
  go_loopw [5, 6, 7, 16] (fun _ _ _ ii wr => ∃ k : Nat, k ≤ m ∧ ii = .int .i64 k ∧ Below w.heap.size w wr ∧ winsLoop n (xs.take k) (xs.drop k) = winsLoop n [] xs) (fun _ _ _ ii _ => m - (intOf ii).toNat)
  case atStart => exact ⟨0, Nat.zero_le _, rfl, Below.refl _ _, rfl⟩
  case round =>
    obtain ⟨k, hk, rfl, hb, hloop⟩ := hrel
    have HL := Lib.hid hloop
    clear hloop
    by_cases hlt : k < m
    · obtain ⟨x, hx, hd⟩ := drop_cons (xs := xs) (i := k) (by rw [← HM.out]; exact hlt)
      obtain ⟨b, off, rfl, _, hbl, c0, c1, c2⟩ := (hX.below hb).at_ hx
      have HD := Lib.hid hd
      have HXK := Lib.hid hx
      clear hx hd
      go_wp2_with fail
      obtain ⟨w1, hw1⟩ : ∃ w1 : World, w1 = wr.alloc (.cells #[.int .i64 x.peril, .int .i64 x.fr, .int .i64 x.to] 75) := ⟨_, rfl⟩
      have d0 : w1.cell? ⟨wr.heap.size, 0, none⟩ = some (.int .i64 x.peril) := by rw [hw1]; simp
      have d1 : w1.cell? ⟨wr.heap.size, 1, none⟩ = some (.int .i64 x.fr) := by rw [hw1]; simp
      have d2 : w1.cell? ⟨wr.heap.size, 2, none⟩ = some (.int .i64 x.to) := by rw [hw1]; simp
      have hb1 : Below w.heap.size w w1 := by rw [hw1]; exact hb.alloc hb.size _
      have hX1 : Wins w1.drew 0 (some ⟨b, off, none⟩) xs := hX.below (w' := w1.drew) hb1.drew
      rw [← hw1]
      clear hw1 c0 c1 c2 hb
      have hk0 : (0 : Int) ≤ (k : Int) := by omega
      have hkc : (k : Int) ≤ (c : Int) := by omega
      have hkm : (k : Int) ≤ (m : Int) := by omega
      have hkc' : k ≤ c := by omega
      go_region_held3 (fun W => W.cell? ⟨wr.heap.size, 0, none⟩ = some (.int .i64 x.peril) ∧ W.cell? ⟨wr.heap.size, 1, none⟩ = some (.int .i64 x.fr) ∧ W.cell? ⟨wr.heap.size, 2, none⟩ = some (.int .i64 x.to))
        (first | go_keep | exact keep2)
        (first | (go_at_call 70; refine (CO.out k x _ hk hX1).mono ?_; rintro e w2 ⟨rfl, hb2⟩; have keep2 : w2.cell? ⟨wr.heap.size, 0, none⟩ = some (.int .i64 x.peril) ∧ w2.cell? ⟨wr.heap.size, 1, none⟩ = some (.int .i64 x.fr) ∧ w2.cell? ⟨wr.heap.size, 2, none⟩ = some (.int .i64 x.to) := ⟨(hb2.cell (p := ⟨wr.heap.size, 0, none⟩) (World.block_lt_of_cell? w1 _ d0)).trans d0, (hb2.cell (p := ⟨wr.heap.size, 1, none⟩) (World.block_lt_of_cell? w1 _ d1)).trans d1, (hb2.cell (p := ⟨wr.heap.size, 2, none⟩) (World.block_lt_of_cell? w1 _ d2)).trans d2⟩))
      have hbw : Below w.heap.size w w2 := hb1.drew.trans (hb2.mono hb1.size)
      by_cases he : oneE (xs.take k) x n = 0
      · have q3 : (oneE (xs.take k) x n != 0) = false := by rw [he]; rfl
        have HX := Lib.hid (wins_next HXK.out HD.out HL.out he)
        clear he
        go_wp2_with fail
        go_roundw
        case rel => exact ⟨k + 1, by omega, by go_num, hbw, HX.out⟩
        case measure => simp [intOf]; omega
      · have q3 : (oneE (xs.take k) x n != 0) = true := by simpa using he
        have HX := Lib.hid (wins_stop HD.out HL.out he)
        clear he
        go_wp2_with fail
        go_ret
        exact ⟨ret_int (HR.out.trans HX.out).symm, hbw⟩
    · obtain rfl : k = m := by omega
      have h1 := HL.out
      rw [HM.out] at h1
      have HX := Lib.hid (wins_end h1)
      clear h1
      go_wp2_with fail
      go_ret
      exact ⟨ret_int (HR.out.trans HX.out).symm, hb⟩

end Go.Proofs.YtilkcailpkebdaaGreat

/-
  event.Assign (with slices.IndexFunc and its closure), treatyref25.Assign: their contracts.
-/
namespace Go.Proofs.YtilkcailpkebdaaGreat
open Go.RowKit
set_option linter.unusedVariables false

set_option maxHeartbeats 1000000 in
theorem closure_any (x : Win) (l : Los) (bx : Nat) (w : World) (d3 : w.cell? ⟨bx, 3, none⟩ = some (.int .i64 l.hour)) (d4 : w.cell? ⟨bx, 4, none⟩ = some (.int .i64 l.peril)) :
    Calls Tryz.prog 91 #[.agg #[.int .i64 x.peril, .int .i64 x.fr, .int .i64 x.to], .pointer (some ⟨bx, 0, none⟩)] w fun e w' => e = .returned (.bool (covers x l)) ∧ Below w.heap.size w w' := by
  have hne : bx < w.heap.size := World.block_lt_of_cell? w _ d3
  by_cases h1 : x.peril = l.peril
  · have q1 : (x.peril == l.peril) = true := by simpa using h1
    by_cases h2 : x.fr ≤ l.hour
    · have q2 : decide (x.fr ≤ l.hour) = true := by simpa using h2
      by_cases h3 : l.hour < x.to
      · have HR := Lib.hid ((covers_iff x l).2 ⟨h1, h2, h3⟩)
        clear h1
        go_enter Tryz.func91, Tryz.ntmps91
        go_wp2_with fail
        go_ret
        exact ⟨ret_bool HR.out.symm, below_alloc1 _ _⟩
      · have HR : Hid (covers x l = false) := by rw [Bool.eq_false_iff]; intro h; have := (covers_iff x l).1 h; omega
        clear h1
        go_enter Tryz.func91, Tryz.ntmps91
        go_wp2_with fail
        go_ret
        exact ⟨ret_bool HR.out.symm, below_alloc1 _ _⟩
    · have HR : Hid (covers x l = false) := by rw [Bool.eq_false_iff]; intro h; have := (covers_iff x l).1 h; omega
      clear h1
      go_enter Tryz.func91, Tryz.ntmps91
      go_wp2_with fail
      go_ret
      exact ⟨ret_bool HR.out.symm, below_alloc1 _ _⟩
  · have q1 : (x.peril == l.peril) = false := by simpa using h1
    have HR : Hid (covers x l = false) := by rw [Bool.eq_false_iff]; intro h; have := (covers_iff x l).1 h; omega
    clear h1
    go_enter Tryz.func91, Tryz.ntmps91
    go_wp2_with fail
    go_ret
    exact ⟨ret_bool HR.out.symm, below_alloc1 _ _⟩

set_option maxHeartbeats 1000000 in
theorem indexFunc_any (A : Option Addr) (c : Nat) (ws : List Win) (l : Los) (bx : Nat) (w : World) (hl : ws.length ≤ 9223372036854775807) (hW : Wins w 0 A ws) (d3 : w.cell? ⟨bx, 3, none⟩ = some (.int .i64 l.hour)) (d4 : w.cell? ⟨bx, 4, none⟩ = some (.int .i64 l.peril)) :
    Calls Tryz.prog 90 #[.slice A ws.length c, .func (.func 91) #[] #[.pointer (some ⟨bx, 0, none⟩)]] w fun e w' => e = .returned (.int .i64 (asgAt ws l)) ∧ Below w.heap.size w w' := by
  obtain ⟨m, hm⟩ : ∃ m, m = ws.length := ⟨_, rfl⟩
  rw [← hm] at hl ⊢
  have HM := Lib.hid hm
  have hne : bx < w.heap.size := World.block_lt_of_cell? w _ d3
  clear hm
  go_enter Tryz.func90, Tryz.ntmps90
  go_wp2_with fail
  go_loopw [5, 8] (fun _ ii wr => ∃ k : Nat, k ≤ m ∧ ii = .int .i64 k ∧ Below w.heap.size w wr ∧ findW l (ws.drop k) k = asgAt ws l) (fun _ ii _ => m - (intOf ii).toNat)
  case atStart => exact ⟨0, Nat.zero_le _, rfl, Below.refl _ _, rfl⟩
  case round =>
    obtain ⟨k, hk, rfl, hb, hf⟩ := hrel
    have HF := Lib.hid hf
    clear hf
    by_cases hlt : k < m
    · obtain ⟨x, hx, hd⟩ := drop_cons (xs := ws) (i := k) (by rw [← HM.out]; exact hlt)
      obtain ⟨b, off, rfl, _, hbl, c0, c1, c2⟩ := (hW.below hb).at_ hx
      have e3 : wr.cell? ⟨bx, 3, none⟩ = some (.int .i64 l.hour) := (hb.cell (p := ⟨bx, 3, none⟩) hne).trans d3
      have e4 : wr.cell? ⟨bx, 4, none⟩ = some (.int .i64 l.peril) := (hb.cell (p := ⟨bx, 4, none⟩) hne).trans d4
      have CC := Lib.hid (closure_any x l bx wr e3 e4)
      have HD := Lib.hid hd
      clear hx hd e3 e4
      go_wp2_with fail
      refine CC.out.mono ?_
      rintro e w2 ⟨rfl, hb2⟩
      have hbw := hb.trans (hb2.mono hb.size)
      by_cases hc : covers x l = true
      · have HX := Lib.hid (findW_hit HD.out HF.out hc)
        go_wp2_with fail
        go_ret
        exact ⟨ret_int HX.out.symm, hbw⟩
      · have HX := Lib.hid (findW_next HD.out HF.out hc)
        have hc' : covers x l = false := Bool.eq_false_iff.2 hc
        clear hc
        go_wp2_with fail
        go_roundw
        case rel => exact ⟨k + 1, by omega, by go_num, hbw, HX.out⟩
        case measure => simp [intOf]; omega
    · obtain rfl : k = m := by omega
      have h1 := HF.out
      rw [HM.out] at h1
      have HX := Lib.hid (findW_end h1)
      clear h1
      go_wp2_with fail
      go_ret
      exact ⟨ret_int HX.out.symm, hb⟩

end Go.Proofs.YtilkcailpkebdaaGreat

/-
  event.Assign, treatyref25.Assign: their contracts.
-/
namespace Go.Proofs.YtilkcailpkebdaaGreat
open Go.RowKit
set_option linter.unusedVariables false

theorem findW_at_hit {l : Los} {ws : List Win} {k : Nat} {x : Win} (hd : ws.drop k = x :: ws.drop (k + 1)) (hc : covers x l = true) : findW l (ws.drop k) k = k := by rw [hd, findW, if_pos hc]
theorem findW_at_no {l : Los} {ws : List Win} {k : Nat} {x : Win} (hd : ws.drop k = x :: ws.drop (k + 1)) (hc : covers x l = false) : findW l (ws.drop k) k = findW l (ws.drop (k + 1)) (k + 1) := by rw [hd, findW, if_neg (by simp [hc])]

set_option maxHeartbeats 1000000 in
theorem assign_any (A : Option Addr) (c : Nat) (los : List Los) (B : Option Addr) (d : Nat) (ws : List Win) (w : World) (hll : los.length ≤ 1000) (hwl : ws.length ≤ 9223372036854775807) (hL : Losses w 0 A los) (hW : Wins w 0 B ws) :
    Calls Tryz.prog 71 #[.slice A los.length c, .slice B ws.length d] w fun e w' => ∃ G g, e = .returned (.slice G (asgF los ws).length g) ∧ Ints w' w.heap.size G (asgF los ws) ∧ Below w.heap.size w w' := by
  have CI : Hid (∀ (l : Los) (bx : Nat) (W : World), Wins W 0 B ws → W.cell? ⟨bx, 3, none⟩ = some (.int .i64 l.hour) → W.cell? ⟨bx, 4, none⟩ = some (.int .i64 l.peril) → _) := fun l bx W h h3 h4 => indexFunc_any B d ws l bx W hwl h h3 h4
  obtain ⟨n, hn⟩ : ∃ n, n = los.length := ⟨_, rfl⟩
  obtain ⟨m, hm⟩ : ∃ m, m = ws.length := ⟨_, rfl⟩
  rw [← hm] at CI
  rw [← hn] at hll
  rw [← hn, ← hm]
  have HN := Lib.hid hn
  clear hn hm hwl
  have hmk := run_make_row' (P := Tryz.prog) 23 3 (.int .i64 0) 8 Tryz.underlying23 Tryz.infoInt rfl .i64 .i64 n (by omega) (by omega)
  go_enter Tryz.func71, Tryz.ntmps71
  go_wp2_with fail
  have hrow0 := World.rowIs_made w (.int .i64 0) n 3
  have hb0 : Below w.heap.size w (w.alloc (.cells (madeCells #[.int .i64 0] n) 3)) := below_alloc1 _ _
  obtain ⟨g, hg⟩ : ∃ g, g = w.heap.size := ⟨_, rfl⟩
  rw [← hg] at hrow0 ⊢
  have hgw : w.heap.size ≤ g := by omega
  clear hg hmk
  go_loopw [6, 7, 13] (fun _ _ ii wr => ∃ (i : Nat) (F : Nat → Int), i ≤ n ∧ ii = .int .i64 i ∧ wr.rowIs g 3 n (fun j => .int .i64 (F j)) ∧ Below w.heap.size w wr ∧ ∀ j l, j < i → los[j]? = some l → F j = asgAt ws l) (fun _ _ ii _ => n - (intOf ii).toNat)
  case atStart => exact ⟨0, fun _ => 0, Nat.zero_le _, rfl, hrow0, hb0, fun j l hj => absurd hj (by omega)⟩
  case round =>
    obtain ⟨i, F, hi, rfl, hrow, hb, hF⟩ := hrel
    have HF := Lib.hid hF
    clear hF hrow0 hb0
    by_cases hin : i < n
    · obtain ⟨l, hl, _⟩ := drop_cons (xs := los) (i := i) (by rw [← HN.out]; exact hin)
      obtain ⟨b, off, rfl, _, _, c0, c1, c2, c3, c4, c5, c6, c7, c8, c9⟩ := (hL.below hb).at_ hl
      have HLI := Lib.hid hl
      clear hl
      have hb1 := hb.alloc hb.size (.cells #[.int .i64 l.id, .int .i64 l.pol, .int .i64 l.risk, .int .i64 l.hour, .int .i64 l.peril, .int .i64 l.area, .int .i64 l.cur, .int .i64 l.sum, .int .i64 l.amt, .int .i64 l.paid] 92)
      have CC := Lib.hid (CI.out l wr.heap.size _ (hW.below hb1) (by simp) (by simp))
      have hrow1 := hrow.alloc (.cells #[.int .i64 l.id, .int .i64 l.pol, .int .i64 l.risk, .int .i64 l.hour, .int .i64 l.peril, .int .i64 l.area, .int .i64 l.cur, .int .i64 l.sum, .int .i64 l.amt, .int .i64 l.paid] 92)
      go_wp2_with fail
      refine CC.out.mono ?_
      rintro e w2 ⟨rfl, hb2⟩
      have hbw := hb1.trans (hb2.mono hb1.size)
      have hrow2 : w2.rowIs g 3 n (fun j => .int .i64 (F j)) := World.rowIs.of_block hrow1 (hb2.block g hrow1.lt)
      have x0 := hrow2.cell hin
      have xf := hrow2.frozen i
      clear hb1 hb2 CC hrow1 hrow c0 c1 c2 c3 c4 c5 c6 c7 c8 c9
      go_wp2_with fail
      go_roundw
      case rel =>
        refine ⟨i + 1, fun k => if k = i then asgAt ws l else F k, by omega, by go_num, ?_, hbw.setCell hgw _, fun j l' hj hl' => ?_⟩
        · refine (hrow2.set i _).congr fun k _ => ?_
          by_cases hk : k = i <;> simp [hk]
        · dsimp only
          by_cases hji : j = i
          · rw [if_pos hji]; rw [hji, HLI.out] at hl'; injection hl' with hl'; rw [hl']
          · rw [if_neg hji]; exact HF.out j l' (by omega) hl'
      case measure => simp [intOf]; omega
    · go_wp2_with fail
      go_ret
      refine ⟨some ⟨g, 0, none⟩, n, by simp [asgF, ← HN.out], ?_, hb⟩
      refine ints_of_row (F := F) (by simpa [asgF, ← HN.out] using hrow) hgw fun j x hx => ?_
      simp only [asgF, List.getElem?_map, Option.map_eq_some_iff] at hx
      obtain ⟨l, hl, rfl⟩ := hx
      have := (List.getElem?_eq_some_iff.1 hl).1
      rw [← HN.out] at this
      exact HF.out j l (by omega) hl

set_option maxHeartbeats 2000000 in
theorem rassign_any (A : Option Addr) (c : Nat) (los : List Los) (B : Option Addr) (d : Nat) (ws : List Win) (w : World) (hll : los.length ≤ 1000) (hwl : ws.length ≤ 1000) (hL : Losses w 0 A los) (hW : Wins w 0 B ws) :
    Calls Tryz.prog 89 #[.slice A los.length c, .slice B ws.length d] w fun e w' => ∃ G g, e = .returned (.slice G (asgF los ws).length g) ∧ Ints w' w.heap.size G (asgF los ws) ∧ Below w.heap.size w w' := by
  obtain ⟨n, hn⟩ : ∃ n, n = los.length := ⟨_, rfl⟩
  obtain ⟨m, hm⟩ : ∃ m, m = ws.length := ⟨_, rfl⟩
  rw [← hn] at hll
  rw [← hm] at hwl
  rw [← hn, ← hm]
  have HN := Lib.hid hn
  have HM := Lib.hid hm
  clear hn hm
  have hmk := run_make_row' (P := Tryz.prog) 23 3 (.int .i64 0) 8 Tryz.underlying23 Tryz.infoInt rfl .i64 .i64 n (by omega) (by omega)
  go_enter Tryz.func89, Tryz.ntmps89
  go_wp2_with fail
  have hrow0 := World.rowIs_made w (.int .i64 0) n 3
  have hb0 : Below w.heap.size w (w.alloc (.cells (madeCells #[.int .i64 0] n) 3)) := below_alloc1 _ _
  obtain ⟨g, hg⟩ : ∃ g, g = w.heap.size := ⟨_, rfl⟩
  rw [← hg] at hrow0 ⊢
  have hgw : w.heap.size ≤ g := by omega
  clear hg hmk
  go_loopg [6, 7, 8, 14] n (fun q _ _ _ ii wr => ∃ (i : Nat) (F : Nat → Int), i ≤ n ∧ q = n - i ∧ ii = .int .i64 i ∧ wr.rowIs g 3 n (fun j => .int .i64 (F j)) ∧ Below w.heap.size w wr ∧ ∀ j l, j < i → los[j]? = some l → F j = asgAt ws l)
  case atStart => exact ⟨0, fun _ => 0, Nat.zero_le _, rfl, rfl, hrow0, hb0, fun j l hj => absurd hj (by omega)⟩
  case round =>
    obtain ⟨i, F, hi, hq, rfl, hrow, hb, hF⟩ := hrel
    have HF := Lib.hid hF
    have HQ := Lib.hid hq
    clear hF hrow0 hb0 hq
    by_cases hin : i < n
    case neg =>
      go_wp2_with fail
      go_ret
      refine ⟨some ⟨g, 0, none⟩, n, by simp [asgF, ← HN.out], ?_, hb⟩
      refine ints_of_row (F := F) (by simpa [asgF, ← HN.out] using hrow) hgw fun j x hx => ?_
      simp only [asgF, List.getElem?_map, Option.map_eq_some_iff] at hx
      obtain ⟨l, hl, rfl⟩ := hx
      have := (List.getElem?_eq_some_iff.1 hl).1
      rw [← HN.out] at this
      exact HF.out j l (by omega) hl
    obtain ⟨l, hl, _⟩ := drop_cons (xs := los) (i := i) (by rw [← HN.out]; exact hin)
    obtain ⟨b, off, rfl, _, _, c0, c1, c2, c3, c4, c5, c6, c7, c8, c9⟩ := (hL.below hb).at_ hl
    have HLI := Lib.hid hl
    clear hl
    have hrow1 := hrow.alloc (.cells #[.int .i64 l.id, .int .i64 l.pol, .int .i64 l.risk, .int .i64 l.hour, .int .i64 l.peril, .int .i64 l.area, .int .i64 l.cur, .int .i64 l.sum, .int .i64 l.amt, .int .i64 l.paid] 92)
    have hb1 := hb.alloc hb.size (.cells #[.int .i64 l.id, .int .i64 l.pol, .int .i64 l.risk, .int .i64 l.hour, .int .i64 l.peril, .int .i64 l.area, .int .i64 l.cur, .int .i64 l.sum, .int .i64 l.amt, .int .i64 l.paid] 92)
    have x0 := hrow1.cell hin
    have xf := hrow1.frozen i
    have hgl := hrow.lt
    have e3 : (wr.alloc (.cells #[.int .i64 l.id, .int .i64 l.pol, .int .i64 l.risk, .int .i64 l.hour, .int .i64 l.peril, .int .i64 l.area, .int .i64 l.cur, .int .i64 l.sum, .int .i64 l.amt, .int .i64 l.paid] 92)).cell? ⟨wr.heap.size, 3, none⟩ = some (.int .i64 l.hour) := by simp
    have e4 : (wr.alloc (.cells #[.int .i64 l.id, .int .i64 l.pol, .int .i64 l.risk, .int .i64 l.hour, .int .i64 l.peril, .int .i64 l.area, .int .i64 l.cur, .int .i64 l.sum, .int .i64 l.amt, .int .i64 l.paid] 92)).cell? ⟨wr.heap.size, 4, none⟩ = some (.int .i64 l.peril) := by simp
    go_upto_region 5 with fail
    obtain ⟨w1, hw1⟩ : ∃ w1 : World, w1 = wr.alloc (.cells #[.int .i64 l.id, .int .i64 l.pol, .int .i64 l.risk, .int .i64 l.hour, .int .i64 l.peril, .int .i64 l.area, .int .i64 l.cur, .int .i64 l.sum, .int .i64 l.amt, .int .i64 l.paid] 92) := ⟨_, rfl⟩
    obtain ⟨bx, hbx⟩ : ∃ bx, bx = wr.heap.size := ⟨_, rfl⟩
    rw [← hw1] at hrow1 hb1 e3 e4 x0 xf
    rw [← hbx] at e3 e4
    have hgx : g ≠ bx := by omega
    rw [← hw1, ← hbx]
    clear hw1 hbx hrow hb c0 c1 c2 c3 c4 c5 c6 c7 c8 c9
    go_wp2_with fail
    obtain ⟨w2, hw2⟩ : ∃ w2 : World, w2 = w1.setCell ⟨g, i, none⟩ (.int .i64 (-1)) := ⟨_, rfl⟩
    have f3 : w2.cell? ⟨bx, 3, none⟩ = some (.int .i64 l.hour) := by rw [hw2, World.cell?_setCell_other _ _ _ _ (fun e => by injection e with e; omega)]; exact e3
    have f4 : w2.cell? ⟨bx, 4, none⟩ = some (.int .i64 l.peril) := by rw [hw2, World.cell?_setCell_other _ _ _ _ (fun e => by injection e with e; omega)]; exact e4
    have hb2 : Below w.heap.size w w2 := by rw [hw2]; exact hb1.setCell hgw _
    have hrow2 : w2.rowIs g 3 n (fun j => .int .i64 (if j = i then -1 else F j)) := by
      rw [hw2]
      refine (hrow1.set i _).congr fun k _ => ?_
      by_cases hk : k = i <;> simp [hk]
    rw [← hw2]
    clear hw2 e3 e4 x0 xf hrow1 hb1
    go_loopg [8] m (fun q kk wq => ∃ (k : Nat) (E : Nat → Int), k ≤ m ∧ q = k ∧ kk = .int .i64 ((k : Int) - 1) ∧ Below w.heap.size w wq ∧ wq.rowIs g 3 n (fun j => .int .i64 (E j)) ∧ wq.cell? ⟨bx, 3, none⟩ = some (.int .i64 l.hour) ∧ wq.cell? ⟨bx, 4, none⟩ = some (.int .i64 l.peril) ∧ E i = findW l (ws.drop k) k ∧ ∀ j, j ≠ i → E j = F j)
    case atStart =>
      refine ⟨m, _, Nat.le_refl _, rfl, rfl, hb2, hrow2, f3, f4, ?_, fun j hj => by rw [if_neg hj]⟩
      rw [if_pos rfl, HM.out, List.drop_length]; rfl
    case round =>
      obtain ⟨k, E, hk, hq, rfl, hbq, hrq, y3, y4, hEi, hEj⟩ := hrel
      have HQ2 := Lib.hid hq
      have HEI := Lib.hid hEi
      have HEJ := Lib.hid hEj
      clear hq hEi hEj hb2 hrow2 f3 f4
      by_cases hk1 : 1 ≤ k
      case neg =>
        go_wp2_with fail
        go_roundg (n - (i + 1))
        case measure => rw [HQ.out]; omega
        case rel =>
          refine ⟨i + 1, E, by omega, rfl, by go_num, hrq, hbq, fun j l' hj hl' => ?_⟩
          by_cases hji : j = i
          · rw [hji, HLI.out] at hl'; injection hl' with hl'
            rw [hji, HEI.out, ← hl']
            obtain rfl : k = 0 := by omega
            rfl
          · rw [HEJ.out j hji]; exact HF.out j l' (by omega) hl'
      obtain ⟨k1, rfl⟩ : ∃ k1, k = k1 + 1 := ⟨k - 1, by omega⟩
      have ei : ((k1 + 1 : Nat) : Int) - 1 = (k1 : Int) := by omega
      rw [ei]
      clear ei
      have hk1m : k1 < m := by omega
      obtain ⟨x, hx, hd⟩ := drop_cons (xs := ws) (i := k1) (by rw [← HM.out]; exact hk1m)
      obtain ⟨b2, off2, rfl, _, _, z0, z1, z2⟩ := (hW.below hbq).at_ hx
      have HD := Lib.hid hd
      clear hx hd
      have u0 := hrq.cell hin
      have uf := hrq.frozen i
      by_cases hc : covers x l = true
      · obtain ⟨h1, h2, h3⟩ := (covers_iff x l).1 hc
        have q1 : (x.peril == l.peril) = true := by simpa using h1
        have q2 : decide (x.fr ≤ l.hour) = true := by simpa using h2
        have q3 : decide (l.hour < x.to) = true := by simpa using h3
        have HX := Lib.hid (findW_at_hit HD.out hc)
        clear hc h1
        go_wp2_with fail
        go_quiet (fail)
        go_wp2_with fail
        go_roundg k1
        case measure => have := HQ2.out; omega
        case rel =>
          refine ⟨k1, fun j => if j = i then (k1 : Int) else E j, by omega, rfl, rfl, (below_drewN hbq _).setCell hgw _, ?_, ?_, ?_, by dsimp only; rw [if_pos rfl, HX.out], fun j hj => by dsimp only; rw [if_neg hj]; exact HEJ.out j hj⟩
          · refine (World.rowIs.set (w := wr.drewN nq) hrq i _).congr fun j _ => ?_
            by_cases hj : j = i <;> simp [hj]
          · rw [World.cell?_setCell_other _ _ _ _ (fun e => by injection e with e; omega)]; exact y3
          · rw [World.cell?_setCell_other _ _ _ _ (fun e => by injection e with e; omega)]; exact y4
      · have hc' : covers x l = false := Bool.eq_false_iff.2 hc
        have HX := Lib.hid (findW_at_no HD.out hc')
        have hno : ¬ (x.peril = l.peril ∧ x.fr ≤ l.hour ∧ l.hour < x.to) := fun h => hc ((covers_iff x l).2 h)
        clear hc hc'
        by_cases h1 : x.peril = l.peril
        · have q1 : (x.peril == l.peril) = true := by simpa using h1
          have hno' : ¬ (x.fr ≤ l.hour ∧ l.hour < x.to) := fun h => hno ⟨h1, h⟩
          clear hno h1
          by_cases h2 : x.fr ≤ l.hour
          · have q2 : decide (x.fr ≤ l.hour) = true := by simpa using h2
            have q3 : decide (l.hour < x.to) = false := by simp; omega
            go_wp2_with fail
            go_quiet (fail)
            go_wp2_with fail
            go_roundg k1
            case measure => have := HQ2.out; omega
            case rel => exact ⟨k1, E, by omega, rfl, rfl, below_drewN hbq _, hrq, y3, y4, by rw [HX.out]; exact HEI.out, HEJ.out⟩
          · have q2 : decide (x.fr ≤ l.hour) = false := by simpa using h2
            go_wp2_with fail
            go_quiet (fail)
            go_wp2_with fail
            go_roundg k1
            case measure => have := HQ2.out; omega
            case rel => exact ⟨k1, E, by omega, rfl, rfl, below_drewN hbq _, hrq, y3, y4, by rw [HX.out]; exact HEI.out, HEJ.out⟩
        · have q1 : (x.peril == l.peril) = false := by simpa using h1
          clear hno h1
          go_wp2_with fail
          go_quiet (fail)
          go_wp2_with fail
          go_roundg k1
          case measure => have := HQ2.out; omega
          case rel => exact ⟨k1, E, by omega, rfl, rfl, below_drewN hbq _, hrq, y3, y4, by rw [HX.out]; exact HEI.out, HEJ.out⟩

end Go.Proofs.YtilkcailpkebdaaGreat
