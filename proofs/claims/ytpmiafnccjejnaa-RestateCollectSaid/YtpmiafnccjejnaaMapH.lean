/-
  Maps keyed by headings ([3]int) with two numbers as elements, as restate.Collect has them.
-/
import Derived.Test.YtpmiafnccjejnaaCmp3
import Derived.Maps.OwnOps
import Derived.Maps.OwnSet
import Derived.Maps.RangeWalk
import Derived.DeepKeys4
namespace Go.Proofs.Ytpmiafnccjejnaa
open Go.RowKit Go.Maps
set_option linter.unusedVariables false

theorem laidC : laidOutB Try.prog = true := by kernel_rfl
theorem rowH : (50 : TypeId) < Try.prog.types.size := of_decide_eq_true (by kernel_rfl)
theorem wideH : (match Try.prog.underlying 50 with | some (.array _ _) | some (.struct _) => true | _ => false) = true := by rw [Try.underlying50]
theorem lawH : Keyed Try.prog 50 := Keyed.of_law (deep_law_laid laidC (m := 2) (by omega) rowH (by kernel_rfl) wideH)
theorem cellsH : Try.prog.cellsOf 50 = 3 := by kernel_rfl
def I64 (x : Int) : Prop := -9223372036854775808 ≤ x ∧ x ≤ 9223372036854775807
theorem wf_i64 {x : Int} (h : I64 x) : (Lit.int .i64 x).wf = true := by
  have e1 : IntKind.i64.min = -9223372036854775808 := by decide
  have e2 : IntKind.i64.max = 9223372036854775807 := by decide
  unfold I64 at h
  simp [Lit.wf, e1, e2]; omega
def H3.ok (x : H3) : Prop := I64 x.a ∧ I64 x.b ∧ I64 x.c
theorem cells1 : Try.prog.cellsOf 3 = 1 := by kernel_rfl
theorem ktypeH : Try.prog.keyType 50 = true := by kernel_rfl
theorem litsH {a b c : Int} (h1 : (Lit.int .i64 a).wf = true) (h2 : (Lit.int .i64 b).wf = true) (h3 : (Lit.int .i64 c).wf = true) : Try.prog.keyLits (Try.prog.types.size + 1) 50 [.int .i64 a, .int .i64 b, .int .i64 c] = some [.int .i64 a, .int .i64 b, .int .i64 c] := by
  obtain ⟨d, hd⟩ := Nat.exists_eq_succ_of_ne_zero (Nat.ne_of_gt (Nat.lt_of_le_of_lt (Nat.zero_le _) rowH))
  rw [hd]
  simp [Program.keyLits, Try.underlying50, Try.underlying3, cellsH, cells1, show List.range 3 = [0, 1, 2] from rfl, h1, h2, h3]
theorem formedH (a b c : Int) : (Value.agg #[.int .i64 a, .int .i64 b, .int .i64 c]).formed Try.prog 50 = true := by simp [Value.formed, Try.underlying50, cellsH]
/-- What a heading reads as. -/
def kL (x : H3) : Lit := .string (keyBytes [.int .i64 x.a, .int .i64 x.b, .int .i64 x.c])
theorem keyH (x : H3) (h : x.ok) : keyOf Try.prog 50 (.agg #[.int .i64 x.a, .int .i64 x.b, .int .i64 x.c]) = some (kL x) := by
  have hl := litsH (wf_i64 h.1) (wf_i64 h.2.1) (wf_i64 h.2.2)
  unfold keyOf kL
  rw [Try.underlying50]
  show (if (Try.prog.keyType 50 && (Value.agg #[.int .i64 x.a, .int .i64 x.b, .int .i64 x.c]).formed Try.prog 50) = true then _ else none) = _
  rw [if_pos (by rw [ktypeH, formedH]; rfl), show (Value.agg #[.int .i64 x.a, .int .i64 x.b, .int .i64 x.c]).cells.toList = [.int .i64 x.a, .int .i64 x.b, .int .i64 x.c] from rfl, hl]
  rfl
theorem kL_inj {x y : H3} (hx : x.ok) (hy : y.ok) (h : kL x = kL y) : x = y := by
  have h1 := keyH x hx
  have h2 := keyH y hy
  rw [← h] at h2
  have := lawH.inj h1 h2
  injection this with this
  obtain ⟨a, b, c⟩ := x
  obtain ⟨d, e, f⟩ := y
  simp at this
  simp [this]
/-- How an element reads: two numbers. -/
def R2l : List Value → Option (DataW Unit × List MemPlace)
  | [.int .i64 a, .int .i64 p] => some (.agg [.lit (.int .i64 a), .lit (.int .i64 p)], [])
  | _ => none
def R2 (v : Value) : Option (DataW Unit × List MemPlace) := match v with
  | .agg cs => R2l cs.toList
  | _ => none
theorem R2_mk (a p : Int) : R2 (.agg #[.int .i64 a, .int .i64 p]) = some (.agg [.lit (.int .i64 a), .lit (.int .i64 p)], []) := rfl
theorem R2_inv {v : Value} {z : DataW Unit × List MemPlace} (h : R2 v = some z) : ∃ a p, v = .agg #[.int .i64 a, .int .i64 p] ∧ z = (.agg [.lit (.int .i64 a), .lit (.int .i64 p)], []) := by
  unfold R2 at h
  split at h
  · rename_i cs
    unfold R2l at h
    split at h
    · rename_i a p e
      injection h with h
      refine ⟨a, p, ?_, h.symm⟩
      congr 1
      rw [← Array.toArray_toList (xs := cs), e]
    · cases h
  · cases h

end Go.Proofs.Ytpmiafnccjejnaa
