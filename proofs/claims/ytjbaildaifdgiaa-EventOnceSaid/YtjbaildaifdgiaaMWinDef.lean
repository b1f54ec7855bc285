/-
  What treatymade2.Windows keeps true, in plain Lean: the windows so far are valid.
-/
import Derived.Test.YtjbaildaifdgiaaWinDef
namespace Go.Proofs.Ytjbaildaifdgiaa
open Go.RowKit
set_option linter.unusedVariables false

theorem winsLoop_snoc (n : Int) : ∀ (xs before : List Win) (x : Win), winsLoop n before xs = 0 → oneE (before ++ xs) x n = 0 → winsLoop n before (xs ++ [x]) = 0 := by
  intro xs
  induction xs with
  | nil => intro before x _ h; simp only [List.nil_append, winsLoop]; rw [if_neg]; simpa using h
  | cons y ys ih =>
    intro before x h h1
    simp only [List.cons_append, winsLoop] at h ⊢
    split at h
    · rename_i hne; exact absurd h hne
    · rename_i hne
      rw [if_neg hne]
      exact ih _ x h (by simpa using h1)
/-- free: before which hour no window of a peril begins any more. -/
structure MadeW (n : Int) (xs : List Win) (fr peril : Int) (free : Int → Int) : Prop where
  ok : winsLoop n [] xs = 0
  to : ∀ v ∈ xs, v.to ≤ free v.peril
  last : ∀ l, xs.getLast? = some l → l.fr ≤ fr ∧ (l.fr = fr → peril = l.peril)
theorem MadeW.nil (n : Int) (free : Int → Int) : MadeW n [] 0 (-1) free := ⟨rfl, by simp, by simp⟩
theorem MadeW.step {n : Int} {xs : List Win} {fr peril : Int} {free : Int → Int} (h : MadeW n xs fr peril free) {s : Int} (hs : 0 < s) : MadeW n xs (fr + s) (-1) free :=
  ⟨h.ok, h.to, fun l hl => by have := h.last l hl; exact ⟨by omega, fun e => by omega⟩⟩
theorem MadeW.snoc {n : Int} {xs : List Win} {fr peril : Int} {free free' : Int → Int} (h : MadeW n xs fr peril free) {p r : Int} (hp0 : 0 ≤ p) (hp2 : p ≤ 2) (hpp : peril < p) (hfr : 0 ≤ fr) (hfr2 : fr ≤ 1000) (hr0 : 0 ≤ r) (hr : r < n) (hn : n ≤ 1000) (hfree : free p ≤ fr)
    (hf1 : free' p = fr + 1 + r) (hf2 : ∀ q, q ≠ p → free' q = free q) : MadeW n (xs ++ [⟨p, fr, fr + 1 + r⟩]) fr p free' := by
  have hone : oneE xs ⟨p, fr, fr + 1 + r⟩ n = 0 := by
    rw [one_rest ((winRange_iff _).2 ⟨hp0, by dsimp only; omega, hfr, by dsimp only; omega, by dsimp only; omega⟩) (by dsimp only; omega)]
    · rw [if_neg]
      rw [Bool.not_eq_true, List.any_eq_false]
      intro v hv
      have hv2 := h.to v hv
      intro hm
      obtain ⟨e1, e2, e3⟩ := (winMeet_iff _ _).1 hm
      dsimp only at e1 e2 e3
      rw [e1] at hv2
      omega
    · intro l hl
      have := h.last l hl
      rw [Bool.eq_false_iff]
      intro ho
      have ho' := (winOrd_iff _ _).1 ho
      dsimp only at ho'
      rcases ho' with h1 | ⟨h1, h2⟩
      · omega
      · have := this.2 h1.symm; omega
  refine ⟨winsLoop_snoc n xs [] _ h.ok (by simpa using hone), fun v hv => ?_, fun l hl => ?_⟩
  · rcases List.mem_append.1 hv with hv | hv
    · have := h.to v hv
      by_cases e : v.peril = p
      · rw [e, hf1]; rw [e] at this; omega
      · rw [hf2 _ e]; exact this
    · obtain rfl : v = _ := by simpa using hv
      dsimp only; rw [hf1]; omega
  · rw [List.getLast?_append] at hl
    simp at hl
    subst hl
    exact ⟨Int.le_refl _, fun _ => rfl⟩
theorem MadeW.winsE {n : Int} {xs : List Win} {fr peril : Int} {free : Int → Int} (h : MadeW n xs fr peril free) (hl : xs.length ≤ 64) (h1 : 1 ≤ n) (h2 : n ≤ 8784) : winsE xs n = 0 := by
  unfold Go.Proofs.Ytjbaildaifdgiaa.winsE; rw [if_neg (by omega), if_neg (by omega)]; exact h.ok

def free3 (a b c : Int) (q : Int) : Int := if q = 0 then a else if q = 1 then b else if q = 2 then c else 0

end Go.Proofs.Ytjbaildaifdgiaa
