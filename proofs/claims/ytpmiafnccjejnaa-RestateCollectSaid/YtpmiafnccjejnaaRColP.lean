/-
  Where a share goes into a list in order: the place that a search by halves finds. Plain Lean.
-/
import Derived.Test.YtpmiafnccjejnaaColErr
namespace Go.Proofs.Ytpmiafnccjejnaa
open Go.RowKit
set_option linter.unusedVariables false

theorem insS_new : ∀ {S : List Sh} {x : Sh} {lo : Nat}, lo ≤ S.length → (∀ i y, i < lo → S[i]? = some y → hLt y x) → (∀ y, S[lo]? = some y → hLt x y) → insS S x = S.take lo ++ x :: S.drop lo := by
  intro S
  induction S with
  | nil => intro x lo h _ _; have : lo = 0 := by simpa using h
           subst this; rfl
  | cons z S ih =>
    intro x lo h h1 h2
    cases lo with
    | zero =>
      have := h2 z rfl
      unfold insS
      rw [if_neg (fun h3 => hLt_not (hLt_trans this h3) ⟨rfl, rfl, rfl⟩), if_neg (fun h3 => hLt_not this (sameH_symm h3))]
      rfl
    | succ lo =>
      unfold insS
      rw [if_pos (h1 0 z (by omega) rfl), ih (lo := lo) (by simpa using h) (fun i y hi hy => h1 (i + 1) y (by omega) (by simpa using hy)) (fun y hy => h2 y (by simpa using hy))]
      rfl
def addS (y x : Sh) : Sh := ⟨y.loss, y.treaty, y.party, y.amt + x.amt, y.paid + x.paid⟩
theorem insS_old : ∀ {S : List Sh} {x : Sh} {lo : Nat} {y : Sh}, S[lo]? = some y → (∀ i y, i < lo → S[i]? = some y → hLt y x) → sameH y x → insS S x = S.set lo (addS y x) := by
  intro S
  induction S with
  | nil => intro x lo y h; simp at h
  | cons z S ih =>
    intro x lo y h h1 h2
    cases lo with
    | zero =>
      obtain rfl : z = y := by simpa using h
      unfold insS
      rw [if_neg (fun h3 => hLt_not h3 h2), if_pos h2]
      rfl
    | succ lo =>
      unfold insS
      rw [if_pos (h1 0 z (by omega) rfl), ih (lo := lo) (y := y) (by simpa using h) (fun i y hi hy => h1 (i + 1) y (by omega) (by simpa using hy)) h2]
      rfl
/-- What a search by halves knows. -/
def Half (S : List Sh) (x : Sh) (lo hi : Nat) : Prop := lo ≤ hi ∧ hi ≤ S.length ∧ (∀ i y, i < lo → S[i]? = some y → hLt y x) ∧ (∀ i y, hi ≤ i → S[i]? = some y → ¬ hLt y x)
theorem Half.start (S : List Sh) (x : Sh) : Half S x 0 S.length := ⟨Nat.zero_le _, Nat.le_refl _, fun i y h => absurd h (by omega), fun i y h hy => by rw [List.getElem?_eq_none h] at hy; cases hy⟩
theorem asc_get {S : List Sh} (ha : AscS S) {i j : Nat} {y z : Sh} (hij : i < j) (hy : S[i]? = some y) (hz : S[j]? = some z) : hLt y z := by
  obtain ⟨h1, e1⟩ := List.getElem?_eq_some_iff.1 hy
  obtain ⟨h2, e2⟩ := List.getElem?_eq_some_iff.1 hz
  rw [← e1, ← e2]
  exact List.pairwise_iff_getElem.1 ha i j h1 h2 hij
theorem Half.up {S : List Sh} {x : Sh} {lo hi mid : Nat} {y : Sh} (h : Half S x lo hi) (ha : AscS S) (hm : mid < hi) (hy : S[mid]? = some y) (hl : hLt y x) : Half S x (mid + 1) hi := by
  obtain ⟨h1, h2, h3, h4⟩ := h
  refine ⟨by omega, h2, fun i z hi hz => ?_, h4⟩
  rcases Nat.lt_or_ge i mid with hlt | hge
  · exact hLt_trans (asc_get ha hlt hz hy) hl
  · obtain rfl : i = mid := by omega
    rw [hy] at hz; injection hz with hz; rw [← hz]; exact hl
theorem Half.down {S : List Sh} {x : Sh} {lo hi mid : Nat} {y : Sh} (h : Half S x lo hi) (ha : AscS S) (hm : mid < hi) (hlm : lo ≤ mid) (hy : S[mid]? = some y) (hl : ¬ hLt y x) : Half S x lo mid := by
  obtain ⟨h1, h2, h3, h4⟩ := h
  refine ⟨hlm, by omega, h3, fun i z hi hz h5 => ?_⟩
  rcases Nat.lt_or_ge mid i with hlt | hge
  · exact hl (hLt_trans (asc_get ha hlt hy hz) h5)
  · obtain rfl : i = mid := by omega
    rw [hy] at hz; injection hz with hz; rw [← hz] at h5; exact hl h5
theorem Half.same {S : List Sh} {x : Sh} {lo : Nat} (h : Half S x lo lo) {y : Sh} (hy : S[lo]? = some y) (hn : ¬ hLt x y) : insS S x = S.set lo (addS y x) := by
  obtain ⟨_, _, h3, h4⟩ := h
  refine insS_old hy h3 ?_
  rcases hLt_tri y x with h5 | h5 | h5
  · exact absurd h5 (h4 lo y (Nat.le_refl _) hy)
  · exact h5
  · exact absurd h5 hn
theorem Half.fresh {S : List Sh} {x : Sh} {lo : Nat} (h : Half S x lo lo) (hn : ∀ y, S[lo]? = some y → hLt x y) : insS S x = S.take lo ++ x :: S.drop lo := insS_new h.2.1 h.2.2.1 hn
theorem flat_drop {α : Type} {enc : α → List Value} {k : Nat} (hk : ∀ x, (enc x).length = k) : ∀ (xs : List α) (i : Nat), (xs.flatMap enc).drop (i * k) = (xs.drop i).flatMap enc := by
  intro xs
  induction xs with
  | nil => intro i; simp
  | cons x xs ih =>
    intro i
    cases i with
    | zero => simp
    | succ i => rw [List.flatMap_cons, Nat.succ_mul, Nat.add_comm, ← hk x, List.drop_append, hk x]; simp [ih, hk]
theorem flat_take {α : Type} {enc : α → List Value} {k : Nat} (hk : ∀ x, (enc x).length = k) : ∀ (xs : List α) (i : Nat), (xs.flatMap enc).take (i * k) = (xs.take i).flatMap enc := by
  intro xs
  induction xs with
  | nil => intro i; simp
  | cons x xs ih =>
    intro i
    cases i with
    | zero => simp
    | succ i => rw [List.flatMap_cons, Nat.succ_mul, Nat.add_comm, ← hk x, List.take_append, hk x]; simp [ih]; exact List.take_of_length_le (by rw [hk]; omega)
theorem put_new {S : List Sh} {s z : Sh} {lo : Nat} (h : lo ≤ S.length) : ((S ++ [z]).take (lo + 1) ++ S.drop lo).set lo s = S.take lo ++ s :: S.drop lo := by
  have hl : ((S ++ [z]).take (lo + 1)).length = lo + 1 := by simp; omega
  rw [List.set_append_left _ _ (by omega)]
  have e : (S ++ [z]).take (lo + 1) = S.take lo ++ [(S ++ [z])[lo]'(by simp; omega)] := by
    rw [List.take_succ_eq_append_getElem (by simp; omega), List.take_append_of_le_length h]
  rw [e, List.set_append_right _ _ (by simp; omega)]
  have : lo - (S.take lo).length = 0 := by simp; omega
  rw [this]
  simp
theorem sumsS_next {l : List Sh} {k : Nat} {x : Sh} (h : l[k]? = some x) : sumsS (l.take (k + 1)) = insS (sumsS (l.take k)) x := by
  have : l.take (k + 1) = l.take k ++ [x] := by rw [List.take_add_one, h]; rfl
  unfold sumsS
  rw [this, List.foldl_append]; rfl

end Go.Proofs.Ytpmiafnccjejnaa
