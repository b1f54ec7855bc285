/-
  The error of a list of shares; small lists have none. Plain Lean.
-/
import Derived.Test.YtpmiafnccjejnaaColDef
namespace Go.Proofs.Ytpmiafnccjejnaa
open Go.RowKit
set_option linter.unusedVariables false

def validS (s : Sh) : Bool := decide (-17592186044416 ≤ s.amt) && decide (s.amt ≤ 17592186044416) && decide (-17592186044416 ≤ s.paid) && decide (s.paid ≤ 17592186044416)
theorem validS_iff (s : Sh) : validS s = true ↔ -17592186044416 ≤ s.amt ∧ s.amt ≤ 17592186044416 ∧ -17592186044416 ≤ s.paid ∧ s.paid ≤ 17592186044416 := by simp [validS]; omega
def colErr (l : List Sh) : Int := if 65536 < l.length then 4 else if l.all validS = false then 1 else if (sumsS l).all validS = false then 3 else 0
def colR (l : List Sh) : List Sh := if colErr l = 0 then colF l else []
def BdS (M : Int) (s : Sh) : Prop := -M ≤ s.amt ∧ s.amt ≤ M ∧ -M ≤ s.paid ∧ s.paid ≤ M
theorem sum_bd {M : Int} (hM : 0 ≤ M) {l : List Sh} (h : ∀ x ∈ l, BdS M x) (y : Sh) : -(M * l.length) ≤ amtH l y ∧ amtH l y ≤ M * l.length ∧ -(M * l.length) ≤ paidH l y ∧ paidH l y ≤ M * l.length := by
  induction l with
  | nil => simp [amtH, paidH]
  | cons x l ih =>
    have h1 := h x (by simp)
    have h2 := ih (fun z hz => h z (by simp [hz]))
    unfold BdS at h1
    have e : M * ((x :: l).length : Int) = M * l.length + M := by rw [List.length_cons, Int.natCast_add, Int.mul_add]; omega
    rw [e]
    simp only [amtH, paidH]
    split <;> omega
theorem sums_bd {M : Int} (hM : 0 ≤ M) {l : List Sh} (h : ∀ x ∈ l, BdS M x) : ∀ x ∈ sumsS l, BdS (M * l.length) x := fun x hx => by
  obtain ⟨a, b⟩ := sum_mem (sumsS_asc l) hx
  obtain ⟨c, d⟩ := sumsS_sum l x
  have e := sum_bd hM h x
  unfold BdS
  omega
theorem col_bd {M : Int} (hM : 0 ≤ M) {l : List Sh} (h : ∀ x ∈ l, BdS M x) : ∀ x ∈ colF l, BdS (M * l.length) x := fun x hx => sums_bd hM h x (List.mem_filter.1 hx).1
theorem colErr_small {M : Int} (hM : 0 ≤ M) {l : List Sh} (h : ∀ x ∈ l, BdS M x) (hl : l.length ≤ 1000) (hs : M * l.length ≤ 17592186044416) (hm : M ≤ 17592186044416) : colErr l = 0 := by
  unfold colErr
  rw [if_neg (by omega), if_neg, if_neg]
  · rw [Bool.not_eq_false, List.all_eq_true]
    intro x hx
    have := sums_bd hM h x hx
    unfold BdS at this
    exact (validS_iff x).2 ⟨by omega, by omega, by omega, by omega⟩
  · rw [Bool.not_eq_false, List.all_eq_true]
    intro x hx
    have := h x hx
    unfold BdS at this
    exact (validS_iff x).2 ⟨by omega, by omega, by omega, by omega⟩
theorem insS_len (l : List Sh) (s : Sh) : (insS l s).length ≤ l.length + 1 := by
  induction l with
  | nil => simp [insS]
  | cons x l ih =>
    unfold insS
    split
    · simp only [List.length_cons]; omega
    · split <;> simp
theorem sumsS_len (l : List Sh) : (sumsS l).length ≤ l.length := by
  have : ∀ (ws l : List Sh), (ws.foldl insS l).length ≤ l.length + ws.length := by
    intro ws
    induction ws with
    | nil => intro l; simp
    | cons w ws ih =>
      intro l
      have h1 := ih (insS l w)
      have h2 := insS_len l w
      simp only [List.foldl_cons, List.length_cons]; omega
  have h := this l []
  unfold sumsS
  simpa using h
theorem colF_len (l : List Sh) : (colF l).length ≤ l.length := Nat.le_trans (List.length_filter_le _ _) (sumsS_len l)
/-- The headings of what is collected are headings of the list. -/
theorem sums_head (l : List Sh) : ∀ x ∈ sumsS l, ∃ y ∈ l, sameH y x := by
  have : ∀ (ws l : List Sh), ∀ x ∈ ws.foldl insS l, (∃ y ∈ ws, sameH y x) ∨ ∃ y ∈ l, sameH y x := by
    intro ws
    induction ws with
    | nil => intro l x hx; exact .inr ⟨x, hx, rfl, rfl, rfl⟩
    | cons w ws ih =>
      intro l x hx
      rcases ih (insS l w) x hx with ⟨y, hy, hs⟩ | ⟨y, hy, hs⟩
      · exact .inl ⟨y, by simp [hy], hs⟩
      · have hin : ∀ (l : List Sh), y ∈ insS l w → sameH w y ∨ ∃ z ∈ l, sameH z y := by
          intro l
          induction l with
          | nil => intro h; obtain rfl : y = w := by simpa [insS] using h
                   exact .inl ⟨rfl, rfl, rfl⟩
          | cons z l ih2 =>
            intro h
            unfold insS at h
            split at h
            · rcases List.mem_cons.1 h with rfl | h
              · exact .inr ⟨y, by simp, rfl, rfl, rfl⟩
              · rcases ih2 h with h | ⟨z', hz', h⟩
                · exact .inl h
                · exact .inr ⟨z', by simp [hz'], h⟩
            · split at h
              · rcases List.mem_cons.1 h with rfl | h
                · exact .inr ⟨z, by simp, rfl, rfl, rfl⟩
                · exact .inr ⟨y, by simp [h], rfl, rfl, rfl⟩
              · rcases List.mem_cons.1 h with rfl | h
                · exact .inl ⟨rfl, rfl, rfl⟩
                · exact .inr ⟨y, h, rfl, rfl, rfl⟩
        rcases hin l hy with h | ⟨z, hz, h⟩
        · exact .inl ⟨w, by simp, sameH_trans h hs⟩
        · exact .inr ⟨z, hz, sameH_trans h hs⟩
  intro x hx
  rcases this l [] x hx with h | ⟨y, hy, _⟩
  · exact h
  · simp at hy
theorem colF_head (l : List Sh) : ∀ x ∈ colF l, ∃ y ∈ l, sameH y x := fun x hx => sums_head l x (List.mem_filter.1 hx).1

end Go.Proofs.Ytpmiafnccjejnaa
