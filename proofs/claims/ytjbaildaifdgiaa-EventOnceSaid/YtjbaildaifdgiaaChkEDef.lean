/-
  Which losses and amounts are accepted, in plain Lean.
-/
import Derived.Test.YtjbaildaifdgiaaLosDef
namespace Go.Proofs.Ytjbaildaifdgiaa
open Go.RowKit
set_option linter.unusedVariables false

def pairOk (x : Los × Int) : Bool := decide (0 ≤ x.1.hour) && decide (x.1.hour ≤ 876599) && decide (0 ≤ x.1.peril) && decide (x.1.peril ≤ 15) && decide (0 ≤ x.2) && decide (x.2 ≤ 17592186044416)
theorem pairOk_iff (l : Los) (a : Int) : pairOk (l, a) = true ↔ 0 ≤ l.hour ∧ l.hour ≤ 876599 ∧ 0 ≤ l.peril ∧ l.peril ≤ 15 ∧ 0 ≤ a ∧ a ≤ 17592186044416 := by
  simp [pairOk]; omega
def sumI : List Int → Int
  | [] => 0
  | a :: l => a + sumI l
def chkE (los : List Los) (am : List Int) : Int :=
  if 64 < los.length ∨ am.length ≠ los.length then 4 else if (los.zip am).all pairOk = false then 1 else if 17592186044416 < sumI am then 3 else 0

theorem sumI_bd {am : List Int} (h : ∀ x ∈ am, 0 ≤ x ∧ x ≤ 17592186044416) : 0 ≤ sumI am ∧ sumI am ≤ 17592186044416 * am.length := by
  induction am with
  | nil => simp [sumI]
  | cons a l ih =>
    have h1 := h a (by simp)
    have h2 := ih (fun x hx => h x (by simp [hx]))
    simp only [sumI, List.length_cons]; omega
theorem zip_get {los : List Los} {am : List Int} {k : Nat} {l : Los} {a : Int} (hl : los[k]? = some l) (ha : am[k]? = some a) : (los.zip am)[k]? = some (l, a) := by
  rw [List.getElem?_zip_eq_some]; exact ⟨hl, ha⟩
theorem zip_amounts {los : List Los} {am : List Int} (hlen : am.length = los.length) (h : (los.zip am).all pairOk = true) : ∀ x ∈ am, 0 ≤ x ∧ x ≤ 17592186044416 := by
  intro x hx
  obtain ⟨k, hk, hkx⟩ := List.getElem_of_mem hx
  have hz := zip_get (los := los) (am := am) (k := k) (List.getElem?_eq_getElem (by omega)) (List.getElem?_eq_getElem hk)
  have := List.all_eq_true.1 h _ (List.mem_of_getElem? hz)
  rw [hkx] at this
  have := (pairOk_iff _ _).1 this
  omega
theorem zall_next {zs : List (Los × Int)} {k : Nat} {z : Los × Int} {b : Bool} (hz : zs[k]? = some z) (h : (zs.drop k).all pairOk = b) (hl : pairOk z = true) : (zs.drop (k + 1)).all pairOk = b := by
  have hlt := (List.getElem?_eq_some_iff.1 hz).1
  have he := (List.getElem?_eq_some_iff.1 hz).2
  rw [List.drop_eq_getElem_cons hlt, he] at h; simpa [hl] using h
theorem zall_bad {zs : List (Los × Int)} {k : Nat} {z : Los × Int} (hz : zs[k]? = some z) (hl : pairOk z = false) : zs.all pairOk = false := by
  rw [List.all_eq_false]; exact ⟨z, List.mem_of_getElem? hz, by simp [hl]⟩
theorem sumI_next {am : List Int} {k : Nat} {a s r : Int} (hd : am.drop k = a :: am.drop (k + 1)) (h : s + sumI (am.drop k) = r) : (s + a) + sumI (am.drop (k + 1)) = r := by
  rw [hd, sumI] at h; omega
theorem chkE_lim {los : List Los} {am : List Int} (h : 64 < los.length ∨ am.length ≠ los.length) : chkE los am = 4 := by unfold chkE; rw [if_pos h]
theorem chkE_bad {los : List Los} {am : List Int} (h : ¬ (64 < los.length ∨ am.length ≠ los.length)) (h2 : (los.zip am).all pairOk = false) : chkE los am = 1 := by unfold chkE; rw [if_neg h, if_pos h2]
theorem chkE_sum {los : List Los} {am : List Int} (h : ¬ (64 < los.length ∨ am.length ≠ los.length)) (h2 : (los.zip am).all pairOk = true) : chkE los am = if 17592186044416 < sumI am then 3 else 0 := by unfold chkE; rw [if_neg h, if_neg (by simp [h2])]
structure GoodE (los : List Los) (am : List Int) : Prop where
  len : los.length ≤ 64
  same : am.length = los.length
  all : (los.zip am).all pairOk = true
  sum : sumI am ≤ 17592186044416
theorem goodE_of {los : List Los} {am : List Int} (h : chkE los am = 0) : GoodE los am := by
  unfold chkE at h
  split at h
  · omega
  · rename_i h1
    split at h
    · omega
    · rename_i h2
      split at h
      · omega
      · rename_i h3
        exact ⟨by omega, by omega, by simpa using h2, by omega⟩

end Go.Proofs.Ytjbaildaifdgiaa
