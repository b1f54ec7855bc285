/-
  What a value is that reads as a heading.
-/
import Derived.Test.YtpmiafnccjejnaaMapH
namespace Go.Proofs.Ytpmiafnccjejnaa
open Go.RowKit Go.Maps
set_option linter.unusedVariables false

def mkH (x : H3) : Value := .agg #[.int .i64 x.a, .int .i64 x.b, .int .i64 x.c]
theorem lit_inv {d : Nat} {v : Value} {ls : List Lit} (h : Try.prog.keyLits (d + 1) 3 [v] = some ls) : ∃ a : Int, v = .int .i64 a ∧ (Lit.int .i64 a).wf = true := by
  unfold Program.keyLits at h
  rw [Try.underlying3] at h
  cases v <;> simp at h
  rename_i q n
  obtain ⟨⟨h1, h2⟩, _⟩ := h
  subst h1
  exact ⟨n, rfl, h2⟩
theorem wf_of {x : Int} (h : (Lit.int .i64 x).wf = true) : I64 x := by
  have e1 : IntKind.i64.min = -9223372036854775808 := by decide
  have e2 : IntKind.i64.max = 9223372036854775807 := by decide
  unfold I64
  simp [Lit.wf, e1, e2] at h; omega
theorem invH {key : Value} {kl : Lit} (h : keyOf Try.prog 50 key = some kl) : ∃ x : H3, key = mkH x ∧ x.ok := by
  unfold keyOf at h
  rw [Try.underlying50] at h
  simp only at h
  split at h
  · rename_i hf
    rw [Bool.and_eq_true] at hf
    have hfm := hf.2
    cases key <;> simp [Value.formed, Try.underlying50, cellsH] at hfm
    rename_i cs
    obtain ⟨d, hd⟩ := Nat.exists_eq_succ_of_ne_zero (Nat.ne_of_gt (Nat.lt_of_le_of_lt (Nat.zero_le _) rowH))
    rw [Option.map_eq_some_iff] at h
    obtain ⟨ls, h, _⟩ := h
    rw [hd] at h
    obtain ⟨cl⟩ := cs
    have hc : (Value.agg ⟨cl⟩).cells.toList = cl := rfl
    rw [hc] at h
    unfold Program.keyLits at h
    rw [Try.underlying50] at h
    simp only [cellsH, cells1, show List.range 3 = [0, 1, 2] from rfl] at h
    split at h
    · rename_i hl3
      match cl, hl3 with
      | [x, y, z], _ =>
        simp [List.mapM_cons] at h
        cases e1 : Try.prog.keyLits (d + 1) 3 [x] with
        | none => rw [e1] at h; cases h
        | some l1 =>
        cases e2 : Try.prog.keyLits (d + 1) 3 [y] with
        | none => rw [e1, e2] at h; cases h
        | some l2 =>
        cases e3 : Try.prog.keyLits (d + 1) 3 [z] with
        | none => rw [e1, e2, e3] at h; cases h
        | some l3 =>
        obtain ⟨a, rfl, ha⟩ := lit_inv e1
        obtain ⟨b, rfl, hb⟩ := lit_inv e2
        obtain ⟨c, rfl, hc3⟩ := lit_inv e3
        exact ⟨⟨a, b, c⟩, rfl, wf_of ha, wf_of hb, wf_of hc3⟩
    · cases h
  · cases h

end Go.Proofs.Ytpmiafnccjejnaa
