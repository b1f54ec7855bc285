/-
  treatylaw25.same on two lists of the same points.
-/
import Derived.Test.YtilkcailpkebdaaEq2
import Derived.Test.YtilkcailpkebdaaPts
namespace Go.Proofs.Ytilkcailpkebdaa
open Go.RowKit
set_option linter.unusedVariables false

set_option maxHeartbeats 1000000 in
theorem psame_self (A B : Option Addr) (c d : Nat) (ps : List P2) (w : World) (hl : ps.length ≤ 9223372036854775807) (hA : Pairs w 0 A ps) (hB : Pairs w 0 B ps) :
    Calls Try.prog 16 #[.slice A ps.length c, .slice B ps.length d] w fun e w' => e = .returned (.bool true) ∧ Below w.heap.size w w' := by
  obtain ⟨n, hn⟩ : ∃ n, n = ps.length := ⟨_, rfl⟩
  rw [← hn] at hl ⊢
  have HN := Lib.hid hn
  clear hn
  go_enter Try.func16, Try.ntmps16
  go_wp2_with fail
  go_loopw [5, 13] (fun _ ii wr => ∃ i : Nat, ii = .int .i64 i ∧ i ≤ n ∧ Below w.heap.size w wr) (fun _ ii _ => n - (intOf ii).toNat)
  case atStart => exact ⟨0, rfl, Nat.zero_le _, Below.refl _ _⟩
  case round =>
    obtain ⟨i, rfl, hi, hb⟩ := hrel
    by_cases hin : i < n
    · obtain ⟨x, hx, _⟩ := drop_cons (xs := ps) (i := i) (by rw [← HN.out]; exact hin)
      obtain ⟨b1, o1, rfl, _, _, c0, c1⟩ := (hA.below hb).at_ hx
      obtain ⟨b2, o2, rfl, _, _, e0, e1⟩ := (hB.below hb).at_ hx
      clear hx
      go_wp2_with fail
      go_quiet (fail)
      go_wp2_with fail
      go_roundw
      case rel => exact ⟨i + 1, by go_num, by omega, below_drewN hb _⟩
      case measure => simp [intOf]; omega
    · go_wp2_with fail
      go_ret
      exact ⟨rfl, hb⟩

end Go.Proofs.Ytilkcailpkebdaa
