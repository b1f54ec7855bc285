/-
  When the sums of shares are too great: by headings. Plain Lean.
-/
import Derived.Test.YtpmiafnccjejnaaCollH
namespace Go.Proofs.Ytpmiafnccjejnaa
open Go.RowKit Go.Maps
set_option linter.unusedVariables false

theorem sum_sameH {s y : Sh} (h : sameH s y) (l : List Sh) : amtH l s = amtH l y ∧ paidH l s = paidH l y := by
  induction l with
  | nil => exact ⟨rfl, rfl⟩
  | cons z l ih =>
    have e : sameH z s ↔ sameH z y := ⟨fun h2 => sameH_trans h2 h, fun h2 => sameH_trans h2 (sameH_symm h)⟩
    simp only [amtH, paidH, ih.1, ih.2]
    by_cases hc : sameH z y
    · rw [if_pos hc, if_pos (e.2 hc), if_pos hc, if_pos (e.2 hc)]; exact ⟨rfl, rfl⟩
    · rw [if_neg hc, if_neg (fun h2 => hc (e.1 h2)), if_neg hc, if_neg (fun h2 => hc (e.1 h2))]; exact ⟨rfl, rfl⟩
theorem valid_sums {l : List Sh} {s : Sh} (h : s ∈ sumsS l) : s.amt = amtH l s ∧ s.paid = paidH l s := by
  obtain ⟨a, b⟩ := sum_mem (sumsS_asc l) h
  obtain ⟨c, d⟩ := sumsS_sum l s
  omega
theorem colErr_over {l : List Sh} {h : H3} (h1 : l.length ≤ 65536) (h2 : ∀ s ∈ l, validS s = true) (hv : validS (shAt l h) = false) : colErr l = 3 := by
  unfold colErr
  rw [if_neg (by omega), if_neg (by rw [Bool.not_eq_false, List.all_eq_true]; exact h2), if_pos]
  rw [List.all_eq_false]
  rcases Classical.em (∃ s ∈ sumsS l, sameH s (sOf h)) with ⟨s, hs, hsame⟩ | hno
  · refine ⟨s, hs, ?_⟩
    obtain ⟨a, b⟩ := valid_sums hs
    obtain ⟨c, d⟩ := sum_sameH hsame l
    intro hvs
    have hvi := (validS_iff s).1 hvs
    rw [a, b, c, d] at hvi
    have : validS (shAt l h) = true := (validS_iff _).2 hvi
    rw [hv] at this; cases this
  · exfalso
    obtain ⟨a, b⟩ := sum_none (l := sumsS l) (h := sOf h) (fun x hx hs => hno ⟨x, hx, hs⟩)
    obtain ⟨c, d⟩ := sumsS_sum l (sOf h)
    have : validS (shAt l h) = true := (validS_iff _).2 (by
      unfold shAt
      dsimp only
      omega)
    rw [hv] at this; cases this
theorem colErr_none {l : List Sh} (h1 : l.length ≤ 65536) (h2 : ∀ s ∈ l, validS s = true) (hok : ∀ s ∈ l, s.ok) (hv : ∀ h : H3, h.ok → someH l h → validS (shAt l h) = true) : colErr l = 0 := by
  unfold colErr
  rw [if_neg (by omega), if_neg (by rw [Bool.not_eq_false, List.all_eq_true]; exact h2), if_neg]
  rw [Bool.not_eq_false, List.all_eq_true]
  intro s hs
  obtain ⟨a, b⟩ := valid_sums hs
  obtain ⟨c, d⟩ := amtH_hOf l s
  obtain ⟨y, hy, hsame⟩ := sums_head l s hs
  have ho : (hOf s).ok := by
    have := hok y hy
    unfold Sh.ok at this
    obtain ⟨s1, s2, s3⟩ := hsame
    unfold H3.ok hOf
    dsimp only
    rw [← s1, ← s2, ← s3]; exact this
  rcases Classical.em (someH l (hOf s)) with h3 | h3
  · have := (validS_iff _).1 (hv (hOf s) ho h3)
    unfold shAt at this
    dsimp only at this
    exact (validS_iff s).2 (by omega)
  · unfold someH at h3
    exact (validS_iff s).2 (by omega)

end Go.Proofs.Ytpmiafnccjejnaa
