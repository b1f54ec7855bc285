/-
  The spans that are chosen, in plain Lean.
-/
import Derived.Test.YtjbaildaifdgiaaSpanDef
namespace Go.Proofs.Ytjbaildaifdgiaa
open Go.RowKit

/-- The first index from j on at which the span that begins at the hour h0 attains the value r. -/
def findJ (L : Int) (ls : List P2) (h0 r : Int) : List P2 → List Int → Int → Nat → Option Nat
  | q :: qs, v :: vs, tot, j => if L ≤ q.a - h0 then none else if recVal (tot + q.b) ls + v = r then some j else findJ L ls h0 r qs vs (tot + q.b) (j + 1)
  | _, _, _, _ => none
def findAt (L : Int) (ls ps : List P2) (i : Nat) (h0 : Int) : Option Nat := findJ L ls h0 (valAt L ls ps i) (ps.drop i) (valsF L ls (ps.drop (i + 1))) 0 i
def spansF (L : Int) (ls ps : List P2) : Nat → Nat → List P2
  | 0, _ => []
  | f + 1, i => match ps[i]? with
    | none => []
    | some p => if valAt L ls ps i = valAt L ls ps (i + 1) then spansF L ls ps f (i + 1) else
      match findAt L ls ps i p.a with
      | none => spansF L ls ps f (i + 1)
      | some j => ⟨i, j⟩ :: spansF L ls ps f (j + 1)
def spansOf (ps : List P2) (L : Int) (ls : List P2) : List P2 := if chkErr ps L ls = 0 then spansF L ls ps ps.length 0 else []

section
variable {L : Int} {ls ps : List P2} {h0 r : Int}
theorem findJ_nil (vs : List Int) (t : Int) (j : Nat) : findJ L ls h0 r [] vs t j = none := by simp [findJ]
theorem findJ_found : ∀ (qs : List P2) (vs : List Int) (t b : Int) (j : Nat), scan L ls h0 qs vs t b = r → r ≠ b → ∃ k, findJ L ls h0 r qs vs t j = some k := by
  intro qs
  induction qs with
  | nil => intro vs t b j h hne; rw [scan_nil] at h; exact absurd h.symm hne
  | cons q qs ih =>
    intro vs t b j h hne
    cases vs with
    | nil => simp only [scan] at h; exact absurd h.symm hne
    | cons v vs =>
      simp only [scan] at h
      simp only [findJ]
      split at h
      · exact absurd h.symm hne
      · rename_i hL
        rw [if_neg hL]
        split
        · exact ⟨j, rfl⟩
        · rename_i hr
          refine ih vs _ _ (j + 1) h fun he => ?_
          rw [he] at hne hr
          unfold imax at hne hr
          split at hne
          · rename_i hlt; rw [if_pos hlt] at hr; exact hr rfl
          · exact hne rfl
theorem findJ_step {j j0 : Nat} {q : P2} {t : Int} {o : Option Nat} (hd : ps.drop j = q :: ps.drop (j + 1)) (h : findJ L ls h0 r (ps.drop j) (valsF L ls (ps.drop (j + 1))) t j0 = o) (hlt : q.a - h0 < L) (hne : recVal (t + q.b) ls + valAt L ls ps (j + 1) ≠ r) :
    findJ L ls h0 r (ps.drop (j + 1)) (valsF L ls (ps.drop (j + 2))) (t + q.b) (j0 + 1) = o := by
  rw [hd, valsF_split, findJ, if_neg (by omega), if_neg (by simpa [valAt] using hne)] at h
  rw [← h]
  rcases hc : ps.drop (j + 1) with _ | ⟨q', qs⟩
  · rw [findJ_nil, findJ_nil]
  · have : ps.drop (j + 2) = qs := by
      have h2 := congrArg List.tail hc
      simpa [List.tail_drop] using h2
    rw [this]
    simp [valsF]
theorem findJ_hit {j j0 : Nat} {q : P2} {t : Int} {o : Option Nat} (hd : ps.drop j = q :: ps.drop (j + 1)) (h : findJ L ls h0 r (ps.drop j) (valsF L ls (ps.drop (j + 1))) t j0 = o) (hlt : q.a - h0 < L) (he : recVal (t + q.b) ls + valAt L ls ps (j + 1) = r) : o = some j0 := by
  rw [hd, valsF_split, findJ, if_neg (by omega), if_pos (by simpa [valAt] using he)] at h
  exact h.symm
theorem findJ_far {j j0 : Nat} {q : P2} {t : Int} {o : Option Nat} (hd : ps.drop j = q :: ps.drop (j + 1)) (h : findJ L ls h0 r (ps.drop j) (valsF L ls (ps.drop (j + 1))) t j0 = o) (hle : L ≤ q.a - h0) : o = none := by
  rw [hd, valsF_split, findJ, if_pos hle] at h
  exact h.symm
theorem findJ_end {j0 : Nat} {t : Int} {vs : List Int} {o : Option Nat} (h : findJ L ls h0 r (ps.drop ps.length) vs t j0 = o) : o = none := by
  rw [List.drop_length, findJ_nil] at h; exact h.symm
end

section
variable {L : Int} {ls ps : List P2}
theorem findAt_some {i : Nat} {p : P2} (hd : ps.drop i = p :: ps.drop (i + 1)) (hne : valAt L ls ps i ≠ valAt L ls ps (i + 1)) : ∃ j, findAt L ls ps i p.a = some j :=
  findJ_found _ _ _ _ _ (scan_start hd) hne
theorem spans_eq {i f : Nat} {p : P2} (hp : ps[i]? = some p) (he : valAt L ls ps i = valAt L ls ps (i + 1)) : spansF L ls ps (f + 1) i = spansF L ls ps f (i + 1) := by
  simp [spansF, hp, he]
theorem spans_hit {i f j : Nat} {p : P2} (hp : ps[i]? = some p) (hne : valAt L ls ps i ≠ valAt L ls ps (i + 1)) (hf : findAt L ls ps i p.a = some j) : spansF L ls ps (f + 1) i = ⟨i, j⟩ :: spansF L ls ps f (j + 1) := by
  simp [spansF, hp, hne, hf]
theorem spans_end {i f : Nat} (hi : ps.length ≤ i) : spansF L ls ps f i = [] := by
  cases f with
  | zero => rfl
  | succ f => simp [spansF, List.getElem?_eq_none hi]
theorem findJ_ge {h0 r : Int} : ∀ (qs : List P2) (vs : List Int) (t : Int) (j k : Nat), findJ L ls h0 r qs vs t j = some k → j ≤ k ∧ k < j + qs.length := by
  intro qs
  induction qs with
  | nil => intro vs t j k h; rw [findJ_nil] at h; cases h
  | cons q qs ih =>
    intro vs t j k h
    cases vs with
    | nil => simp [findJ] at h
    | cons v vs =>
      simp only [findJ] at h
      split at h
      · cases h
      · split at h
        · injection h with h; simp only [List.length_cons]; omega
        · have := ih _ _ _ _ h; simp only [List.length_cons]; omega
theorem findAt_bd {i j : Nat} {h0 : Int} (h : findAt L ls ps i h0 = some j) : i ≤ j ∧ j < ps.length := by
  have := findJ_ge _ _ _ _ _ h
  rw [List.length_drop] at this; omega
end

theorem spansF_len (L : Int) (ls ps : List P2) : ∀ f i, (spansF L ls ps f i).length ≤ f := by
  intro f
  induction f with
  | zero => intro i; simp [spansF]
  | succ f ih =>
    intro i
    simp only [spansF]
    split
    · simp
    · split
      · have := ih (i + 1); omega
      · split
        · have := ih (i + 1); omega
        · rename_i j _; have := ih (j + 1); simp only [List.length_cons]; omega
theorem spansOf_len (ps : List P2) (L : Int) (ls : List P2) : (spansOf ps L ls).length ≤ ps.length := by
  unfold spansOf; split
  · exact spansF_len ..
  · simp

end Go.Proofs.Ytjbaildaifdgiaa
