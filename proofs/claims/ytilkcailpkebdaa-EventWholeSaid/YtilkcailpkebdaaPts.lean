/-
  treatymade2.Points: points in ascending order; treatymade2.Layers: layers that are accepted.
-/
import Derived.Test.YtilkcailpkebdaaOwn
import Derived.Test.YtilkcailpkebdaaValDef
namespace Go.Proofs.Ytilkcailpkebdaa
open Go.RowKit
set_option linter.unusedVariables false

theorem Try.infoPoint : (Try.prog.info? 36).map (fun i => (i.zero, i.size, i.bytes)) = some (some (.agg #[.int .i64 0, .int .i64 0]), 2, 16) := by kernel_rfl

/-- Points that the deck makes: ascending hours from 1 on, at most the last one's; small amounts. -/
structure MadePts (xs : List P2) (last : Int) : Prop where
  each : ∀ p ∈ xs, 1 ≤ p.a ∧ p.a ≤ last ∧ 0 ≤ p.b ∧ p.b < 268435456
  asc : xs.Pairwise (fun p q => p.a < q.a)
theorem MadePts.nil : MadePts [] 0 := ⟨by simp, List.Pairwise.nil⟩
theorem MadePts.snoc {xs : List P2} {last : Int} (h : MadePts xs last) (h0 : 0 ≤ last) {r s : Int} (hr : 0 ≤ r) (hs0 : 0 ≤ s) (hs1 : s < 268435456) : MadePts (xs ++ [⟨last + (1 + r), s⟩]) (last + (1 + r)) := by
  refine ⟨fun p hp => ?_, ?_⟩
  · rcases List.mem_append.1 hp with hp | hp
    · have := h.each p hp; omega
    · obtain rfl : p = _ := by simpa using hp
      dsimp only; omega
  · rw [List.pairwise_append]
    refine ⟨h.asc, by simp, fun a ha b hb => ?_⟩
    obtain rfl : b = _ := by simpa using hb
    have := h.each a ha
    dsimp only; omega


end Go.Proofs.Ytilkcailpkebdaa
