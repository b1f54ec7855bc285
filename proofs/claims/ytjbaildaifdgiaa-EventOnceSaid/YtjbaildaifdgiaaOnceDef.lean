/-
  Valid windows have each loss at most once; the totals add up, in whatever order the losses stand: plain Lean.
-/
import Derived.Test.YtjbaildaifdgiaaAsgDef
namespace Go.Proofs.Ytjbaildaifdgiaa
open Go.RowKit
set_option linter.unusedVariables false

def cntW : List Win → Los → Int
  | [], _ => 0
  | x :: xs, l => (if covers x l = true then 1 else 0) + cntW xs l
theorem cntW_nonneg (ws : List Win) (l : Los) : 0 ≤ cntW ws l ∧ cntW ws l ≤ ws.length := by
  induction ws with
  | nil => simp [cntW]
  | cons x xs ih => simp only [cntW, List.length_cons]; split <;> omega
theorem cntW_next {ws : List Win} {l : Los} {k : Nat} {x : Win} {s r : Int} (hd : ws.drop k = x :: ws.drop (k + 1)) (h : s + cntW (ws.drop k) l = r) : (s + if covers x l = true then 1 else 0) + cntW (ws.drop (k + 1)) l = r := by
  rw [hd, cntW] at h; omega
theorem findW_cnt (l : Los) : ∀ (ws : List Win) (k : Nat), 0 ≤ findW l ws k ↔ 0 < cntW ws l := by
  intro ws
  induction ws with
  | nil => intro k; simp [findW, cntW]
  | cons x xs ih =>
    intro k
    have := cntW_nonneg xs l
    simp only [findW, cntW]
    split
    · constructor <;> intro _ <;> omega
    · rw [ih]; omega
theorem wins_meet (n : Int) : ∀ (xs before : List Win), winsLoop n before xs = 0 → xs.Pairwise (fun v x => winMeet v x = false) ∧ ∀ v ∈ before, ∀ x ∈ xs, winMeet v x = false := by
  intro xs
  induction xs with
  | nil => intro before _; exact ⟨List.Pairwise.nil, fun _ _ _ h => by simp at h⟩
  | cons x xs ih =>
    intro before h
    unfold winsLoop at h
    split at h
    · rename_i h1; exact absurd h h1
    · rename_i h1
      have h0 : oneE before x n = 0 := by omega
      obtain ⟨p1, p2⟩ := ih _ h
      have hm : ∀ v ∈ before, winMeet v x = false := by
        intro v hv
        unfold oneE at h0
        split at h0
        · omega
        · split at h0
          · omega
          · split at h0
            · omega
            · split at h0
              · omega
              · rename_i h4
                rw [List.any_eq_true] at h4
                cases hq : winMeet v x with
                | false => rfl
                | true => exact absurd ⟨v, hv, hq⟩ h4
      refine ⟨List.pairwise_cons.2 ⟨fun y hy => p2 x (by simp) y hy, p1⟩, fun v hv y hy => ?_⟩
      rcases List.mem_cons.1 hy with rfl | hy
      · exact hm v hv
      · exact p2 v (by simp [hv]) y hy
theorem cnt_once {ws : List Win} (h : ws.Pairwise (fun v x => winMeet v x = false)) (l : Los) : cntW ws l ≤ 1 := by
  induction ws with
  | nil => simp [cntW]
  | cons x xs ih =>
    rw [List.pairwise_cons] at h
    have h2 := ih h.2
    simp only [cntW]
    split
    · rename_i hc
      have : cntW xs l = 0 := by
        have h1 := h.1
        clear h ih h2
        induction xs with
        | nil => rfl
        | cons y ys ih2 =>
          have hy := h1 y (by simp)
          have := ih2 (fun z hz => h1 z (by simp [hz]))
          simp only [cntW]
          rw [if_neg, this]
          · rfl
          · intro hcy
            have a1 := (covers_iff _ _).1 hc
            have a2 := (covers_iff _ _).1 hcy
            have : winMeet x y = true := (winMeet_iff _ _).2 ⟨by omega, by omega, by omega⟩
            rw [hy] at this; cases this
      omega
    · omega
theorem valid_once {ws : List Win} {n : Int} (h : winsE ws n = 0) (l : Los) : cntW ws l ≤ 1 := by
  unfold winsE at h
  split at h
  · omega
  · split at h
    · omega
    · exact cnt_once (wins_meet n ws [] h).1 l
theorem valid_asg {ws : List Win} {n : Int} (h : winsE ws n = 0) (l : Los) : (cntW ws l = 1 ∧ 0 ≤ asgAt ws l) ∨ (cntW ws l = 0 ∧ ¬ 0 ≤ asgAt ws l) := by
  have h1 := valid_once h l
  have h2 := findW_cnt l ws 0
  have h3 := cntW_nonneg ws l
  unfold asgAt
  rw [h2]
  omega

/-- What is lost in windows. -/
def sumIn : List Int → List Int → Int
  | i :: is, a :: ams => (if 0 ≤ i then a else 0) + sumIn is ams
  | _, _ => 0
theorem sumI_append (l l' : List Int) : sumI (l ++ l') = sumI l + sumI l' := by
  induction l with
  | nil => simp [sumI]
  | cons a l ih => simp only [List.cons_append, sumI, ih]; omega
theorem sum_range_add (f : Nat → Int) (i a : Int) : ∀ n : Nat, sumI ((List.range n).map (addTo f i a)) = sumI ((List.range n).map f) + if 0 ≤ i ∧ i < n then a else 0 := by
  intro n
  induction n with
  | zero => rw [if_neg (by omega)]; simp [sumI]
  | succ n ih =>
    rw [List.range_succ, List.map_append, List.map_append, sumI_append, sumI_append, ih]
    simp only [List.map_cons, List.map_nil, sumI, addTo]
    by_cases h : (n : Int) = i
    · rw [if_pos h, if_neg (by omega), if_pos (by omega)]; omega
    · rw [if_neg h]
      by_cases h2 : 0 ≤ i ∧ i < n
      · rw [if_pos h2, if_pos (by omega)]; omega
      · rw [if_neg h2, if_neg (by omega)]; omega
theorem sum_totLoop (n : Nat) : ∀ (is am : List Int) (f : Nat → Int), (∀ i ∈ is, i < n) → sumI ((List.range n).map (totLoop is am f)) = sumI ((List.range n).map f) + sumIn is am := by
  intro is
  induction is with
  | nil => intro am f _; simp [totLoop, sumIn]
  | cons i is ih =>
    intro am f h
    cases am with
    | nil => simp [totLoop, sumIn]
    | cons a am =>
      simp only [totLoop, sumIn]
      rw [ih am _ (fun x hx => h x (by simp [hx]))]
      have hi := h i (by simp)
      by_cases h0 : 0 ≤ i
      · rw [if_pos h0, if_pos h0, sum_range_add, if_pos ⟨h0, hi⟩]; omega
      · rw [if_neg h0, if_neg h0]; omega
theorem sum_totF (los : List Los) (am : List Int) (ws : List Win) : sumI (totF los am ws) = sumIn (asgF los ws) am := by
  unfold totF
  rw [sum_totLoop]
  · have : ∀ n : Nat, sumI ((List.range n).map fun _ => (0 : Int)) = 0 := by
      intro n
      induction n with
      | zero => rfl
      | succ n ih => rw [List.range_succ, List.map_append, sumI_append, ih]; rfl
    rw [this]; omega
  · intro i hi
    unfold asgF at hi
    obtain ⟨l, _, rfl⟩ := List.mem_map.1 hi
    have := asgAt_bd ws l
    omega
def at1 (j : Nat) (z : Int × Int) : Int := if (j : Int) = z.1 then z.2 else 0
theorem totLoop_at (j : Nat) : ∀ (is am : List Int) (f : Nat → Int), totLoop is am f j = f j + sumI ((is.zip am).map (at1 j)) := by
  intro is
  induction is with
  | nil => intro am f; simp [totLoop, sumI]
  | cons i is ih =>
    intro am f
    cases am with
    | nil => simp [totLoop, sumI]
    | cons a am =>
      simp only [totLoop, List.zip_cons_cons, List.map_cons, sumI, at1]
      rw [ih]
      by_cases h0 : 0 ≤ i
      · rw [if_pos h0]
        unfold addTo
        by_cases hj : (j : Int) = i
        · rw [if_pos hj, if_pos hj]; omega
        · rw [if_neg hj, if_neg hj]; omega
      · rw [if_neg h0, if_neg (by omega)]; omega
theorem sumI_perm {l l' : List Int} (h : l.Perm l') : sumI l = sumI l' := by
  induction h with
  | nil => rfl
  | cons x _ ih => simp only [sumI, ih]
  | swap x y l => simp only [sumI]; omega
  | trans _ _ h1 h2 => rw [h1, h2]
theorem zip_rev {α β : Type} {l : List α} {l' : List β} (h : l.length = l'.length) : (l.reverse.zip l'.reverse).Perm (l.zip l') := by
  have e : l.reverse.zip l'.reverse = (l.zip l').reverse := by
    show List.zipWith Prod.mk l.reverse l'.reverse = (List.zipWith Prod.mk l l').reverse
    rw [List.reverse_zipWith h]
  rw [e]
  exact List.reverse_perm _
theorem totF_rev {los : List Los} {am : List Int} (ws : List Win) (h : am.length = los.length) : totF los.reverse am.reverse ws = totF los am ws := by
  unfold totF
  refine List.map_congr_left fun j _ => ?_
  rw [totLoop_at, totLoop_at]
  have : asgF los.reverse ws = (asgF los ws).reverse := by unfold asgF; rw [List.map_reverse]
  rw [this, sumI_perm ((zip_rev (l := asgF los ws) (l' := am) (by unfold asgF; rw [List.length_map]; omega)).map (at1 j))]
theorem chkE_rev {los : List Los} {am : List Int} (h : chkE los am = 0) : chkE los.reverse am.reverse = 0 := by
  obtain ⟨h1, h2, h3, h4⟩ := goodE_of h
  rw [chkE_sum (by rw [List.length_reverse, List.length_reverse]; omega), if_neg]
  · rw [sumI_perm (List.reverse_perm am)]; omega
  · rw [List.all_eq_true] at h3 ⊢
    intro z hz
    exact h3 z ((zip_rev h2.symm).mem_iff.1 hz)
theorem sumIn_next {is am : List Int} {k : Nat} {i a s r : Int} (hi : is.drop k = i :: is.drop (k + 1)) (ha : am.drop k = a :: am.drop (k + 1)) (h : s + sumIn (is.drop k) (am.drop k) = r) : (s + if 0 ≤ i then a else 0) + sumIn (is.drop (k + 1)) (am.drop (k + 1)) = r := by
  rw [hi, ha, sumIn] at h; omega

end Go.Proofs.Ytjbaildaifdgiaa
