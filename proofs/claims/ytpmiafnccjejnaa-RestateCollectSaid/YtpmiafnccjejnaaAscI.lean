/-
  Ascending lists of ints, in plain Lean: they are told by their members.
-/
import Derived.Test.YtpmiafnccjejnaaWords
import Derived.Lib.SlicesCompact
namespace Go.Proofs.Ytpmiafnccjejnaa
open Go.RowKit
set_option linter.unusedVariables false

/-- Two ascending lists with the same members are one. -/
theorem asc_ext {l l' : List Int} (h : l.Pairwise (· < ·)) (h' : l'.Pairwise (· < ·)) (hm : ∀ x, x ∈ l ↔ x ∈ l') : l = l' := by
  have n : l.Nodup := h.imp (fun hab => by omega)
  have n' : l'.Nodup := h'.imp (fun hab => by omega)
  exact List.Perm.eq_of_pairwise (le := fun a b : Int => a < b) (fun a b _ _ h1 h2 => by omega) h h' ((List.perm_ext_iff_of_nodup n n').2 hm)

/-- Into an ascending list, once. -/
def insI : List Int → Int → List Int
  | [], n => [n]
  | x :: xs, n => if x < n then x :: insI xs n else if x = n then x :: xs else n :: x :: xs
theorem mem_insI (l : List Int) (n x : Int) : x ∈ insI l n ↔ x = n ∨ x ∈ l := by
  induction l with
  | nil => simp [insI]
  | cons y ys ih =>
    unfold insI
    split
    · simp only [List.mem_cons, ih]
      constructor
      · rintro (h | h | h) <;> simp [h]
      · rintro (h | h | h) <;> simp [h]
    · split
      · rename_i _ h; subst h; simp
      · simp
theorem asc_insI {l : List Int} (n : Int) (h : l.Pairwise (· < ·)) : (insI l n).Pairwise (· < ·) := by
  induction l with
  | nil => simp [insI]
  | cons y ys ih =>
    rw [List.pairwise_cons] at h
    unfold insI
    split
    · rename_i hlt
      rw [List.pairwise_cons]
      refine ⟨fun x hx => ?_, ih h.2⟩
      rcases (mem_insI ys n x).1 hx with rfl | hx
      · exact hlt
      · exact h.1 x hx
    · split
      · rw [List.pairwise_cons]; exact h
      · rename_i h1 h2
        rw [List.pairwise_cons]
        refine ⟨fun x hx => ?_, by rw [List.pairwise_cons]; exact h⟩
        rcases List.mem_cons.1 hx with rfl | hx
        · omega
        · have := h.1 x hx; omega
def insAll (xs : List Int) : List Int := xs.foldl insI []
theorem insAll_from (xs : List Int) : ∀ l : List Int, l.Pairwise (· < ·) → (xs.foldl insI l).Pairwise (· < ·) ∧ ∀ x, x ∈ xs.foldl insI l ↔ x ∈ l ∨ x ∈ xs := by
  induction xs with
  | nil => intro l h; exact ⟨h, fun x => by simp⟩
  | cons y ys ih =>
    intro l h
    obtain ⟨h1, h2⟩ := ih (insI l y) (asc_insI y h)
    refine ⟨h1, fun x => ?_⟩
    rw [List.foldl_cons, h2, mem_insI, List.mem_cons]
    constructor
    · rintro ((h | h) | h) <;> simp [h]
    · rintro (h | h | h) <;> simp [h]
theorem asc_insAll (xs : List Int) : (insAll xs).Pairwise (· < ·) := (insAll_from xs [] List.Pairwise.nil).1
theorem mem_insAll (xs : List Int) (x : Int) : x ∈ insAll xs ↔ x ∈ xs := by
  have := (insAll_from xs [] List.Pairwise.nil).2 x
  unfold insAll
  simpa using this
theorem insI_len (l : List Int) (n : Int) : (insI l n).length ≤ l.length + 1 := by
  induction l with
  | nil => simp [insI]
  | cons y ys ih =>
    unfold insI
    split
    · simp only [List.length_cons]; omega
    · split <;> simp
theorem insAll_len_from (xs : List Int) : ∀ l : List Int, (xs.foldl insI l).length ≤ l.length + xs.length := by
  induction xs with
  | nil => intro l; simp
  | cons y ys ih =>
    intro l
    have h1 := ih (insI l y)
    have h2 := insI_len l y
    simp only [List.foldl_cons, List.length_cons]; omega
theorem insAll_len (xs : List Int) : (insAll xs).length ≤ xs.length := by
  have := insAll_len_from xs []
  unfold insAll
  simpa using this

/-- A sorted list without its repetitions. -/
theorem compact_upto {d : Array Int} (hs : ∀ i j, i ≤ j → j < d.size → d[i]! ≤ d[j]!) : ∀ m, m ≤ d.size → (Lib.compactUpTo d m).Pairwise (· < ·) ∧ (∀ x, x ∈ Lib.compactUpTo d m ↔ ∃ j, j < m ∧ d[j]! = x) := by
  intro m
  induction m with
  | zero => intro _; exact ⟨by simp [Lib.compactUpTo], fun x => by simp [Lib.compactUpTo]⟩
  | succ m ih =>
    intro hm
    obtain ⟨h1, h2⟩ := ih (by omega)
    rw [Lib.compactUpTo_succ]
    by_cases hk : Lib.keeps d m = true
    · rw [if_pos hk]
      refine ⟨List.pairwise_append.2 ⟨h1, by simp, fun a ha b hb => ?_⟩, fun x => ?_⟩
      · obtain ⟨j, hj, rfl⟩ := (h2 a).1 ha
        obtain rfl : b = d[m]! := by simpa using hb
        have ha1 := hs j (m - 1) (by omega) (by omega)
        have ha2 := hs (m - 1) m (by omega) (by omega)
        unfold Lib.keeps at hk
        rcases of_decide_eq_true hk with hk | hk
        · omega
        · omega
      · rw [List.mem_append, h2]
        constructor
        · rintro (⟨j, hj, e⟩ | h)
          · exact ⟨j, by omega, e⟩
          · exact ⟨m, by omega, (List.mem_singleton.1 h).symm⟩
        · rintro ⟨j, hj, e⟩
          by_cases hjm : j = m
          · subst hjm; right; simp [e]
          · left; exact ⟨j, by omega, e⟩
    · rw [if_neg hk, List.append_nil]
      refine ⟨h1, fun x => ?_⟩
      rw [h2]
      constructor
      · rintro ⟨j, hj, e⟩; exact ⟨j, by omega, e⟩
      · rintro ⟨j, hj, e⟩
        by_cases hjm : j = m
        · subst hjm
          have hkf : Lib.keeps d j = false := by simpa using hk
          unfold Lib.keeps at hkf
          have := of_decide_eq_false hkf
          have h0 : j ≠ 0 := fun h => this (.inl h)
          have h3 : d[j]! = d[j - 1]! := by
            rcases Classical.em (d[j]! = d[j - 1]!) with h | h
            · exact h
            · exact absurd (.inr h) this
          exact ⟨j - 1, by omega, by rw [← h3]; exact e⟩
        · exact ⟨j, by omega, e⟩
theorem compact_sorted (zs : List Int) : Lib.compact (zs.mergeSort fun x y => decide (x ≤ y)) = insAll zs := by
  have tr : ∀ a b c : Int, (fun x y => decide (x ≤ y)) a b = true → (fun x y => decide (x ≤ y)) b c = true → (fun x y => decide (x ≤ y)) a c = true := fun a b c h1 h2 => by simp only [decide_eq_true_eq] at *; omega
  have to : ∀ a b : Int, ((fun x y => decide (x ≤ y)) a b || (fun x y => decide (x ≤ y)) b a) = true := fun a b => by simp only [Bool.or_eq_true, decide_eq_true_eq]; omega
  have hp := List.pairwise_mergeSort tr to zs
  obtain ⟨ys, hys⟩ : ∃ ys, ys = zs.mergeSort fun x y => decide (x ≤ y) := ⟨_, rfl⟩
  rw [← hys] at hp ⊢
  have hmem : ∀ x, x ∈ ys ↔ x ∈ zs := fun x => by rw [hys]; exact (List.mergeSort_perm zs _).mem_iff
  have hs : ∀ i j, i ≤ j → j < ys.toArray.size → ys.toArray[i]! ≤ ys.toArray[j]! := by
    intro i j hij hj
    have hj' : j < ys.length := by simpa using hj
    rcases Nat.lt_or_ge i j with h | h
    · have := (List.pairwise_iff_getElem.1 hp) i j (by omega) hj' h
      have h1 : i < ys.length := by omega
      simp [getElem!_pos, h1, hj'] at this ⊢
      exact this
    · obtain rfl : i = j := by omega
      exact Int.le_refl _
  have hc := compact_upto hs ys.length (by simp)
  unfold Lib.compact
  refine asc_ext hc.1 (asc_insAll zs) fun x => ?_
  rw [hc.2, mem_insAll, ← hmem]
  constructor
  · rintro ⟨j, hj, rfl⟩
    simp only [List.getElem!_toArray]
    rw [getElem!_pos ys j hj]
    exact List.getElem_mem hj
  · intro hx
    obtain ⟨j, hj, rfl⟩ := List.mem_iff_getElem.1 hx
    exact ⟨j, hj, by simp [getElem!_pos, hj]⟩

end Go.Proofs.Ytpmiafnccjejnaa
