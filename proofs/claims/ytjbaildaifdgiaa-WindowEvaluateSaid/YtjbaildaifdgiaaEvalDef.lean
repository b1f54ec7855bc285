/-
  The choice with given windows, in plain Lean.
-/
import Derived.Test.YtjbaildaifdgiaaAsgDef
import Derived.Test.YtjbaildaifdgiaaRecDef
import Derived.Test.YtjbaildaifdgiaaValDef
namespace Go.Proofs.Ytjbaildaifdgiaa
open Go.RowKit
set_option linter.unusedVariables false

theorem totLoop_bd : ∀ (is l : List Int) (f : Nat → Int) (j : Nat), (∀ a ∈ l, 0 ≤ a) → f j ≤ totLoop is l f j ∧ totLoop is l f j ≤ f j + sumI l := by
  intro is
  induction is with
  | nil =>
    intro l f j h
    have : 0 ≤ sumI l := by
      induction l with
      | nil => simp [sumI]
      | cons a l ih => have h1 := h a (by simp); have h2 := ih (fun x hx => h x (by simp [hx])); simp only [sumI]; omega
    simp only [totLoop]; omega
  | cons i is ih =>
    intro l f j h
    cases l with
    | nil => simp [totLoop, sumI]
    | cons a l =>
      have ha := h a (by simp)
      simp only [totLoop, sumI]
      have h1 := ih l (if 0 ≤ i then addTo f i a else f) j (fun x hx => h x (by simp [hx]))
      have h2 : f j ≤ (if 0 ≤ i then addTo f i a else f) j ∧ (if 0 ≤ i then addTo f i a else f) j ≤ f j + a := by
        split
        · unfold addTo; split <;> omega
        · omega
      omega
theorem totF_bd {los : List Los} {am : List Int} {ws : List Win} (h : ∀ a ∈ am, 0 ≤ a) : ∀ t ∈ totF los am ws, 0 ≤ t ∧ t ≤ sumI am := by
  intro t ht
  unfold totF at ht
  obtain ⟨j, _, rfl⟩ := List.mem_map.1 ht
  have := totLoop_bd (asgF los ws) am (fun _ => 0) j h
  omega

def evalErr (los : List Los) (am : List Int) (ws : List Win) (n : Int) (ls : List P2) : Int :=
  if chkE los am ≠ 0 then chkE los am else if recErr 0 ls ≠ 0 then recErr 0 ls else winsE ws n
def recsF (ts : List Int) (ls : List P2) : List Int := ts.map fun t => recVal t ls
def evW (los : List Los) (am : List Int) (ws : List Win) (n : Int) (ls : List P2) : List Win := if evalErr los am ws n ls = 0 then ws else []
def evT (los : List Los) (am : List Int) (ws : List Win) (n : Int) (ls : List P2) : List Int := if evalErr los am ws n ls = 0 then totF los am ws else []
def evR (los : List Los) (am : List Int) (ws : List Win) (n : Int) (ls : List P2) : List Int := recsF (evT los am ws n ls) ls
theorem ev_bad {los : List Los} {am : List Int} {ws : List Win} {n : Int} {ls : List P2} (h : evalErr los am ws n ls ≠ 0) : evW los am ws n ls = [] ∧ evT los am ws n ls = [] ∧ evR los am ws n ls = [] := by
  unfold evR evW evT; rw [if_neg h, if_neg h]; exact ⟨rfl, rfl, rfl⟩
theorem ev_ok {los : List Los} {am : List Int} {ws : List Win} {n : Int} {ls : List P2} (h : evalErr los am ws n ls = 0) : evW los am ws n ls = ws ∧ evT los am ws n ls = totF los am ws ∧ evR los am ws n ls = recsF (totF los am ws) ls := by
  unfold evR evW evT; rw [if_pos h, if_pos h]; exact ⟨rfl, rfl, rfl⟩
theorem ev_parts {los : List Los} {am : List Int} {ws : List Win} {n : Int} {ls : List P2} (h1 : chkE los am = 0) (h2 : recErr 0 ls = 0) (h3 : winsE ws n = 0) : evalErr los am ws n ls = 0 := by
  unfold evalErr; rw [if_neg (by simp [h1]), if_neg (by simp [h2])]; exact h3
theorem sumR_next {ts : List Int} {ls : List P2} {k : Nat} {t s r : Int} (hd : ts.drop k = t :: ts.drop (k + 1)) (h : s + sumI (recsF (ts.drop k) ls) = r) : (s + recVal t ls) + sumI (recsF (ts.drop (k + 1)) ls) = r := by
  rw [hd] at h; unfold recsF at h ⊢; rw [List.map_cons, sumI] at h; omega
theorem winsE_len {ws : List Win} {n : Int} (h : winsE ws n = 0) : ws.length ≤ 64 := by
  unfold winsE at h; split at h <;> omega

end Go.Proofs.Ytjbaildaifdgiaa
