/-
  '==' and '!=' on [2]int.
-/
import Derived.Test.YtjbaildaifdgiaaOwn
import Derived.ChangeKeysEq
import Derived.Laws.StructEq
namespace Go.Proofs.Ytjbaildaifdgiaa
open Go.RowKit
set_option linter.unusedVariables false

theorem Try.cellsInt : Try.prog.cellsOf 3 = 1 := by kernel_rfl
theorem part_int (xs : Array Value) (k : Nat) (n : Int) (hx : xs[k]? = some (.int .i64 n)) (w : World) : (part 3 xs k).run Try.prog w = .ok (.int .i64 n) w := by
  simp [part, hx]
theorem eq2_run (a b c d : Int) (w : World) : (Op.equalIn 10000 52 (.agg #[.int .i64 a, .int .i64 b]) (.agg #[.int .i64 c, .int .i64 d])).run Try.prog w = .ok (a == c && b == d) w := by
  obtain ⟨i, hi, _, h2, _⟩ := info_parts (show (Try.prog.info? 3).map (fun i => (i.zero, i.size, i.bytes)) = some (some (.int .i64 0), 1, 8) by kernel_rfl)
  rw [show (10000 : Nat) = 9999 + 1 from rfl, run_equalIn_array w 9999 _ _ Try.underlying52 hi]
  rw [Try.cellsInt, show List.range 2 = [0, 1] from rfl]
  simp only [Op.eqItems, Sem.run_bind]
  rw [part_int _ _ a rfl, Result.andThen_ok, part_int _ _ c rfl, Result.andThen_ok]
  rw [show (9999 : Nat) = 9998 + 1 from rfl, run_equalIn_int w 9998 _ _ _ a c Try.underlying3, Result.andThen_ok]
  by_cases h : a = c
  · have h1 : (a == c) = true := by simpa using h
    rw [h1]
    simp only [Bool.not_true, Bool.false_eq_true, if_false, Sem.run_bind, Bool.true_and]
    rw [part_int _ _ b rfl, Result.andThen_ok, part_int _ _ d rfl, Result.andThen_ok, run_equalIn_int w 9998 _ _ _ b d Try.underlying3, Result.andThen_ok]
    cases (b == d) <;> simp
  · have h1 : (a == c) = false := by simpa using h
    rw [h1]
    simp
theorem eql2 (a b c d : Int) (w : World) : (binOp .eql 52 (.agg #[.int .i64 a, .int .i64 b]) (.agg #[.int .i64 c, .int .i64 d])).run Try.prog w = .ok (.bool (a == c && b == d)) w := by
  rw [run_eql_struct, eq2_run, Result.andThen_ok]
theorem neq2 (a b c d : Int) (w : World) : (binOp .neq 52 (.agg #[.int .i64 a, .int .i64 b]) (.agg #[.int .i64 c, .int .i64 d])).run Try.prog w = .ok (.bool (!(a == c && b == d))) w := by
  rw [run_neq_struct, eq2_run, Result.andThen_ok]

end Go.Proofs.Ytjbaildaifdgiaa
