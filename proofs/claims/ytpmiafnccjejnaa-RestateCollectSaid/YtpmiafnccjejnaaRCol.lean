/-
  treatyref30.Before, treatyref01.Valid, treatyref30.Collect: their contracts.
-/
import Derived.Test.YtpmiafnccjejnaaCollect
import Derived.Test.YtpmiafnccjejnaaRColP
import Derived.Test.YtpmiafnccjejnaaCopyK
import Derived.Test.YtpmiafnccjejnaaRDiff
import Derived.Deep.Cut
import Derived.StillTailTactics
namespace Go.Proofs.Ytpmiafnccjejnaa
open Go.RowKit
set_option linter.unusedVariables false

set_option maxHeartbeats 400000 in
theorem validR_any (a : Int) (w : World) :
    Calls Try.prog 31 #[.int .i64 a] w fun e w' => e = .returned (.bool (valB a)) ∧ w = w' := by
  unfold valB
  go_enter Try.func31, Try.ntmps31
  go_wp2
  all_goals go_ret
  all_goals refine ⟨ret_bool ?_, rfl⟩
  all_goals simp [*]
  all_goals omega

def hLtB (a b : Sh) : Bool := decide (hLt a b)
set_option maxRecDepth 100000 in
set_option maxHeartbeats 1000000 in
theorem before_any (a b : Sh) (w : World) :
    Calls Try.prog 32 #[.agg #[.int .i64 a.loss, .int .i64 a.treaty, .int .i64 a.party, .int .i64 a.amt, .int .i64 a.paid], .agg #[.int .i64 b.loss, .int .i64 b.treaty, .int .i64 b.party, .int .i64 b.amt, .int .i64 b.paid]] w fun e w' => e = .returned (.bool (hLtB a b)) ∧ Below w.heap.size w w' := by
  have hfr : ∀ (o o' : Obj), Below w.heap.size w ((w.alloc o).alloc o') := fun o o' => ((Below.refl _ _).alloc (Nat.le_refl _) _).alloc (by simp) _
  by_cases h1 : a.loss = b.loss
  · have q1 : (a.loss != b.loss) = false := by simpa using h1
    by_cases h2 : a.treaty = b.treaty
    · have q2 : (a.treaty != b.treaty) = false := by simpa using h2
      have H : Hid (hLtB a b = decide (a.party < b.party)) := by
        show _ = _
        unfold hLtB
        rw [decide_eq_decide]; unfold hLt; omega
      clear h1 h2
      go_enter Try.func32, Try.ntmps32
      go_wp2_with fail
      all_goals go_ret
      all_goals exact ⟨ret_bool H.out.symm, hfr _ _⟩
    · have q2 : (a.treaty != b.treaty) = true := by simpa using h2
      have H : Hid (hLtB a b = decide (a.treaty < b.treaty)) := by
        show _ = _
        unfold hLtB
        rw [decide_eq_decide]; unfold hLt; omega
      clear h1 h2
      go_enter Try.func32, Try.ntmps32
      go_wp2_with fail
      all_goals go_ret
      all_goals exact ⟨ret_bool H.out.symm, hfr _ _⟩
  · have q1 : (a.loss != b.loss) = true := by simpa using h1
    have H : Hid (hLtB a b = decide (a.loss < b.loss)) := by
      show _ = _
      unfold hLtB
      rw [decide_eq_decide]; unfold hLt; omega
    clear h1
    go_enter Try.func32, Try.ntmps32
    go_wp2_with fail
    all_goals go_ret
    all_goals exact ⟨ret_bool H.out.symm, hfr _ _⟩

end Go.Proofs.Ytpmiafnccjejnaa
