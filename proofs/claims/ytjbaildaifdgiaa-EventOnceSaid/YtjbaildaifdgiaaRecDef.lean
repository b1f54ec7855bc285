/-
  What layers recover of a total, in plain Lean.
-/
import Derived.Test.YtjbaildaifdgiaaLeaf
namespace Go.Proofs.Ytjbaildaifdgiaa
open Go.RowKit

def okLay (l : P2) : Bool := decide (0 ≤ l.a) && decide (l.a ≤ 1073741824) && decide (1 ≤ l.b) && decide (l.b ≤ 1073741824)
theorem okLay_iff (l : P2) : okLay l = true ↔ 0 ≤ l.a ∧ l.a ≤ 1073741824 ∧ 1 ≤ l.b ∧ l.b ≤ 1073741824 := by
  simp [okLay]; omega
def sumL (t : Int) : List P2 → Int
  | [] => 0
  | l :: ls => layerF t l.a l.b + sumL t ls
theorem sumL_bd (t : Int) (ls : List P2) : 0 ≤ sumL t ls ∧ sumL t ls ≤ 17592186044416 * ls.length := by
  induction ls with
  | nil => simp [sumL]
  | cons l ls ih => have := layerF_bd t l.a l.b; simp only [sumL, List.length_cons]; omega
def recErr (t : Int) (ls : List P2) : Int :=
  if ls.length = 0 ∨ 12 < ls.length then 4 else if ls.all okLay = false then 1 else if t < 0 ∨ 17592186044416 < t then 1 else 0
def recVal (t : Int) (ls : List P2) : Int := if recErr t ls = 0 then sumL t ls else 0

theorem rec_len {t : Int} {ls : List P2} (h : ls.length = 0 ∨ 12 < ls.length) : recErr t ls = 4 ∧ recVal t ls = 0 := by
  have : recErr t ls = 4 := by unfold recErr; rw [if_pos h]
  exact ⟨this, by unfold recVal; rw [this]; rfl⟩
theorem rec_bad {t : Int} {ls : List P2} (h : ¬ (ls.length = 0 ∨ 12 < ls.length)) (h2 : ls.all okLay = false) : recErr t ls = 1 ∧ recVal t ls = 0 := by
  have : recErr t ls = 1 := by unfold recErr; rw [if_neg h, if_pos h2]
  exact ⟨this, by unfold recVal; rw [this]; rfl⟩
theorem rec_range {t : Int} {ls : List P2} (h : ¬ (ls.length = 0 ∨ 12 < ls.length)) (h2 : ls.all okLay = true) (h3 : t < 0 ∨ 17592186044416 < t) : recErr t ls = 1 ∧ recVal t ls = 0 := by
  have : recErr t ls = 1 := by unfold recErr; rw [if_neg h, if_neg (by simp [h2]), if_pos h3]
  exact ⟨this, by unfold recVal; rw [this]; rfl⟩
theorem rec_ok {t : Int} {ls : List P2} (h : ¬ (ls.length = 0 ∨ 12 < ls.length)) (h2 : ls.all okLay = true) (h3 : ¬ (t < 0 ∨ 17592186044416 < t)) : recErr t ls = 0 ∧ recVal t ls = sumL t ls := by
  have : recErr t ls = 0 := by unfold recErr; rw [if_neg h, if_neg (by simp [h2]), if_neg h3]
  exact ⟨this, by unfold recVal; rw [if_pos this]⟩
theorem all_of_drop {ls : List P2} {k : Nat} {l : P2} {b : Bool} (hd : ls.drop k = l :: ls.drop (k + 1)) (h : (ls.drop k).all okLay = b) (hl : okLay l = true) : (ls.drop (k + 1)).all okLay = b := by
  rw [hd] at h; simpa [hl] using h
theorem bad_of_drop {ls : List P2} {k : Nat} {l : P2} (hd : ls.drop k = l :: ls.drop (k + 1)) (h : (ls.drop k).all okLay = ls.all okLay) (hl : okLay l = false) : ls.all okLay = false := by
  rw [hd] at h; rw [← h]; simp [hl]
theorem sum_of_drop {t : Int} {ls : List P2} {k : Nat} {l : P2} {s r : Int} (hd : ls.drop k = l :: ls.drop (k + 1)) (h : s + sumL t (ls.drop k) = r) : (s + layerF t l.a l.b) + sumL t (ls.drop (k + 1)) = r := by
  rw [hd, sumL] at h; omega

end Go.Proofs.Ytjbaildaifdgiaa
