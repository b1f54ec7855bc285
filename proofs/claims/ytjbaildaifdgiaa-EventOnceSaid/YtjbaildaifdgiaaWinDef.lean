/-
  Which windows are valid, in plain Lean.
-/
import Derived.Test.YtjbaildaifdgiaaChkEDef
namespace Go.Proofs.Ytjbaildaifdgiaa
open Go.RowKit
set_option linter.unusedVariables false

def winRange (x : Win) : Bool := decide (0 ≤ x.peril) && decide (x.peril ≤ 15) && decide (0 ≤ x.fr) && decide (x.fr < x.to) && decide (x.to ≤ 876600)
theorem winRange_iff (x : Win) : winRange x = true ↔ 0 ≤ x.peril ∧ x.peril ≤ 15 ∧ 0 ≤ x.fr ∧ x.fr < x.to ∧ x.to ≤ 876600 := by simp [winRange]; omega
/-- w does not come behind l in the order. -/
def winOrd (l x : Win) : Bool := decide (x.fr < l.fr) || (decide (x.fr = l.fr) && decide (x.peril ≤ l.peril))
theorem winOrd_iff (l x : Win) : winOrd l x = true ↔ x.fr < l.fr ∨ (x.fr = l.fr ∧ x.peril ≤ l.peril) := by simp [winOrd]
def winMeet (v x : Win) : Bool := decide (v.peril = x.peril) && decide (v.fr < x.to) && decide (x.fr < v.to)
theorem winMeet_iff (v x : Win) : winMeet v x = true ↔ v.peril = x.peril ∧ v.fr < x.to ∧ x.fr < v.to := by simp [winMeet]; omega
/-- The error of a window behind others. -/
def oneE (before : List Win) (x : Win) (n : Int) : Int :=
  if winRange x = false then 1 else if n < x.to - x.fr then 4 else if (before.getLast?.any fun l => winOrd l x) = true then 13 else if (before.any fun v => winMeet v x) = true then 8 else 0
def winsLoop (n : Int) : List Win → List Win → Int
  | _, [] => 0
  | before, x :: xs => if oneE before x n ≠ 0 then oneE before x n else winsLoop n (before ++ [x]) xs
def winsE (xs : List Win) (n : Int) : Int := if 64 < xs.length then 4 else if n < 1 ∨ 8784 < n then 1 else winsLoop n [] xs

theorem wins_next {xs : List Win} {k : Nat} {x : Win} {n r : Int} (hx : xs[k]? = some x) (hd : xs.drop k = x :: xs.drop (k + 1)) (h : winsLoop n (xs.take k) (xs.drop k) = r) (h0 : oneE (xs.take k) x n = 0) : winsLoop n (xs.take (k + 1)) (xs.drop (k + 1)) = r := by
  have hl := (List.getElem?_eq_some_iff.1 hx).1
  have he := (List.getElem?_eq_some_iff.1 hx).2
  rw [hd, winsLoop, if_neg (by simp [h0])] at h
  rw [List.take_succ_eq_append_getElem hl, he]; exact h
theorem wins_stop {xs : List Win} {k : Nat} {x : Win} {n r : Int} (hd : xs.drop k = x :: xs.drop (k + 1)) (h : winsLoop n (xs.take k) (xs.drop k) = r) (h0 : oneE (xs.take k) x n ≠ 0) : r = oneE (xs.take k) x n := by
  rw [hd, winsLoop, if_pos h0] at h; exact h.symm
theorem wins_end {xs : List Win} {n r : Int} (h : winsLoop n (xs.take xs.length) (xs.drop xs.length) = r) : r = 0 := by
  rw [List.drop_length, winsLoop] at h; exact h.symm
theorem one_range {before : List Win} {x : Win} {n : Int} (h : winRange x = false) : oneE before x n = 1 := by unfold oneE; rw [if_pos h]
theorem one_limit {before : List Win} {x : Win} {n : Int} (h : winRange x = true) (h2 : n < x.to - x.fr) : oneE before x n = 4 := by unfold oneE; rw [if_neg (by simp [h]), if_pos h2]
theorem one_order {before : List Win} {x l : Win} {n : Int} (h : winRange x = true) (h2 : ¬ n < x.to - x.fr) (hl : before.getLast? = some l) (h3 : winOrd l x = true) : oneE before x n = 13 := by
  unfold oneE; rw [if_neg (by simp [h]), if_neg h2, if_pos (by rw [hl]; simpa using h3)]
theorem one_rest {before : List Win} {x : Win} {n : Int} (h : winRange x = true) (h2 : ¬ n < x.to - x.fr) (hl : ∀ l, before.getLast? = some l → winOrd l x = false) : oneE before x n = if (before.any fun v => winMeet v x) = true then 8 else 0 := by
  unfold oneE; rw [if_neg (by simp [h]), if_neg h2, if_neg]
  cases hb : before.getLast? with
  | none => simp
  | some l => simp [hl l hb]
theorem last_take {xs : List Win} {k : Nat} (hk : k ≤ xs.length) (h0 : 0 < k) : (xs.take k).getLast? = xs[k - 1]? := by
  rw [List.getLast?_eq_getElem?, List.length_take, Nat.min_eq_left hk, List.getElem?_take_of_lt (by omega)]

end Go.Proofs.Ytjbaildaifdgiaa
