/-
  No cell of these rows narrows 'for every input' (looked for: loops, veiled, ifaces, maps, wideKeys, modest, calm, conditions, laid).
  DERIVED. THE GIVEN ROWS OF THIS SEAT. 5 by the template 'for every input the law returns true; each argument reads behind the call as it read before'; 0 by the template 'total and deterministic' (their statements: YtpmiafnccjejnaaTotals.lean).
  GIVEN WITH THE SEED: the statements are not yours to turn. If you find one false, say at which input.
  Laid BY PROGRAM, IN A SANDBOX (cutbox-rows.mjs): the forced cells as the released guide's own fill.sh prints them over the translation b5bbf1eb898c2c18… (all of the seat's roots in one cut). By AI agents, Wed Nov 11 2026. No macro, syntax, notation, axiom, sorry.
-/
import Derived.Test.YtpmiafnccjejnaaChecked
import GoSem.Claim
import GoSem.ClaimJoined
import GoSem.ClaimMapViews
import Derived.JoinedTies
import Derived.KernelRfl
namespace Go.Proofs.Ytpmiafnccjejnaa
/- THE CELL 'sum', in the pinned program and in every row, IS THE sha256 OF THE DUMP (.gsa) THAT YtpmiafnccjejnaaProg.lean LOADS. Nothing in Lean hashes anything: it is a label: what it is worth is what the hold of that sum in a sandbox is worth. -/
noncomputable def Try.pinned : Pinned := { name := "ytpmiafnccjejnaa", sum := "b5bbf1eb898c2c18c536c83f875e013dc8f0a3b7930c8a4a13514e7b3b8b581e", checked := Try.checked }
namespace Rows
def none {H : Type} : Left H := { results := [], args := [] }

/-- 'treatylaw32.RestateDiff': WHATEVER THE INPUT: true; the input reads as it did. -/
def restateDiffSpec : ChangeSpec := { name := "restateDiff", fn := fun _ => fun
  | [d1, d2, d3, d4] => { results := [.lit (.bool true)], args := [d1, d2, d3, d4] }
  | _ => none }
def restateDiffRow : OpenClaim := { program := "ytpmiafnccjejnaa", sum := "b5bbf1eb898c2c18c536c83f875e013dc8f0a3b7930c8a4a13514e7b3b8b581e", func := "treaty/treatylaw32.RestateDiff", spec := "restateDiff", unfollowed := true, recurses := true, plainKeys := false, apart := false }
def RestateDiffSaid : Prop := restateDiffRow.holds Try.pinned (OpenSpec.ofChange restateDiffSpec)

/-- ITS FALSE NEIGHBOUR: 'it returns false'. Refute it at one input. -/
def restateDiffWrong : ChangeSpec := { name := "restateDiff", fn := fun _ => fun
  | [d1, d2, d3, d4] => { results := [.lit (.bool false)], args := [d1, d2, d3, d4] }
  | _ => none }
def RestateDiffWrongFalsely : Prop := restateDiffRow.holds Try.pinned (OpenSpec.ofChange restateDiffWrong)

/-- 'treatylaw32.RestateBack': WHATEVER THE INPUT: true; the input reads as it did. -/
def restateBackSpec : ChangeSpec := { name := "restateBack", fn := fun _ => fun
  | [d1, d2] => { results := [.lit (.bool true)], args := [d1, d2] }
  | _ => none }
def restateBackRow : OpenClaim := { program := "ytpmiafnccjejnaa", sum := "b5bbf1eb898c2c18c536c83f875e013dc8f0a3b7930c8a4a13514e7b3b8b581e", func := "treaty/treatylaw32.RestateBack", spec := "restateBack", unfollowed := true, recurses := true, plainKeys := false, apart := false }
def RestateBackSaid : Prop := restateBackRow.holds Try.pinned (OpenSpec.ofChange restateBackSpec)

/-- ITS FALSE NEIGHBOUR: 'it returns false'. Refute it at one input. -/
def restateBackWrong : ChangeSpec := { name := "restateBack", fn := fun _ => fun
  | [d1, d2] => { results := [.lit (.bool false)], args := [d1, d2] }
  | _ => none }
def RestateBackWrongFalsely : Prop := restateBackRow.holds Try.pinned (OpenSpec.ofChange restateBackWrong)

/-- 'treatylaw32.RestateChain': WHATEVER THE INPUT: true; the input reads as it did. -/
def restateChainSpec : ChangeSpec := { name := "restateChain", fn := fun _ => fun
  | [d1, d2, d3] => { results := [.lit (.bool true)], args := [d1, d2, d3] }
  | _ => none }
def restateChainRow : OpenClaim := { program := "ytpmiafnccjejnaa", sum := "b5bbf1eb898c2c18c536c83f875e013dc8f0a3b7930c8a4a13514e7b3b8b581e", func := "treaty/treatylaw32.RestateChain", spec := "restateChain", unfollowed := true, recurses := true, plainKeys := false, apart := false }
def RestateChainSaid : Prop := restateChainRow.holds Try.pinned (OpenSpec.ofChange restateChainSpec)

/-- ITS FALSE NEIGHBOUR: 'it returns false'. Refute it at one input. -/
def restateChainWrong : ChangeSpec := { name := "restateChain", fn := fun _ => fun
  | [d1, d2, d3] => { results := [.lit (.bool false)], args := [d1, d2, d3] }
  | _ => none }
def RestateChainWrongFalsely : Prop := restateChainRow.holds Try.pinned (OpenSpec.ofChange restateChainWrong)

/-- 'treatylaw32.RestateCollect': WHATEVER THE INPUT: true; the input reads as it did. -/
def restateCollectSpec : ChangeSpec := { name := "restateCollect", fn := fun _ => fun
  | [d1, d2] => { results := [.lit (.bool true)], args := [d1, d2] }
  | _ => none }
def restateCollectRow : OpenClaim := { program := "ytpmiafnccjejnaa", sum := "b5bbf1eb898c2c18c536c83f875e013dc8f0a3b7930c8a4a13514e7b3b8b581e", func := "treaty/treatylaw32.RestateCollect", spec := "restateCollect", unfollowed := true, recurses := true, plainKeys := false, apart := false }
def RestateCollectSaid : Prop := restateCollectRow.holds Try.pinned (OpenSpec.ofChange restateCollectSpec)

/-- ITS FALSE NEIGHBOUR: 'it returns false'. Refute it at one input. -/
def restateCollectWrong : ChangeSpec := { name := "restateCollect", fn := fun _ => fun
  | [d1, d2] => { results := [.lit (.bool false)], args := [d1, d2] }
  | _ => none }
def RestateCollectWrongFalsely : Prop := restateCollectRow.holds Try.pinned (OpenSpec.ofChange restateCollectWrong)

/-- 'treatylaw32.RestateNothing': WHATEVER THE INPUT: true; the input reads as it did. -/
def restateNothingSpec : ChangeSpec := { name := "restateNothing", fn := fun _ => fun
  | [d] => { results := [.lit (.bool true)], args := [d] }
  | _ => none }
def restateNothingRow : OpenClaim := { program := "ytpmiafnccjejnaa", sum := "b5bbf1eb898c2c18c536c83f875e013dc8f0a3b7930c8a4a13514e7b3b8b581e", func := "treaty/treatylaw32.RestateNothing", spec := "restateNothing", unfollowed := true, recurses := true, plainKeys := false, apart := false }
def RestateNothingSaid : Prop := restateNothingRow.holds Try.pinned (OpenSpec.ofChange restateNothingSpec)

/-- ITS FALSE NEIGHBOUR: 'it returns false'. Refute it at one input. -/
def restateNothingWrong : ChangeSpec := { name := "restateNothing", fn := fun _ => fun
  | [d] => { results := [.lit (.bool false)], args := [d] }
  | _ => none }
def RestateNothingWrongFalsely : Prop := restateNothingRow.holds Try.pinned (OpenSpec.ofChange restateNothingWrong)

/- THE SECOND FORM. 'bulk': how many values and letters a reading holds, each counted each time it is reached (what is shared counts as often as it is met; a slice's spare places count too). A statement '..UptoSaid' is the law's where the arguments, and the package variables that the reading takes, are together of bulk at most 1048576: NARROWER than '..Said'. Prove '..Said' where nothing that the law and all that it calls make is longer than what came in: it says more and counts as full. Else prove '..UptoSaid'. A law counts once. -/
mutual
def uptoBulk {H : Type} : DataW H → Nat
  | .lit (.string bytes) => bytes.length + 1
  | .lit _ => 1
  | .nil => 1
  | .ptr d => uptoBulk d + 1
  | .slice elems spare => uptoBulkAll elems + uptoBulkAll spare + 1
  | .agg parts => uptoBulkAll parts + 1
  | .iface _ d => uptoBulk d + 1
  | .map entries => uptoBulkEntries entries + 1
  | .held _ => 1
def uptoBulkAll {H : Type} : List (DataW H) → Nat
  | [] => 0
  | d :: r => uptoBulk d + uptoBulkAll r
def uptoBulkEntries {H : Type} : List (Lit × DataW H) → Nat
  | [] => 0
  | x :: r => uptoBulkEntry x + uptoBulkEntries r
def uptoBulkEntry {H : Type} : Lit × DataW H → Nat
  | (.string bytes, d) => bytes.length + uptoBulk d + 1
  | (_, d) => uptoBulk d + 1
 end
def uptoSmall : (H : Type) → List (DataW H) → Bool := fun _ ds => decide (uptoBulkAll ds ≤ 1048576)
def OpenSpec.upto (s : _root_.Go.ChangeSpec) : _root_.Go.OpenSpec := { _root_.Go.OpenSpec.ofChange s with cond := some uptoSmall }

/-- 'treatylaw32.RestateDiff', WHERE WHAT IT READS IS OF BULK AT MOST 1048576: true; the input reads as it did. -/
def restateDiffUptoRow : OpenClaim := { program := "ytpmiafnccjejnaa", sum := "b5bbf1eb898c2c18c536c83f875e013dc8f0a3b7930c8a4a13514e7b3b8b581e", func := "treaty/treatylaw32.RestateDiff", spec := "restateDiff", unfollowed := true, recurses := true, plainKeys := false, apart := false, narrowed := true }
def RestateDiffUptoSaid : Prop := restateDiffUptoRow.holds Try.pinned (OpenSpec.upto restateDiffSpec)

/-- 'treatylaw32.RestateBack', WHERE WHAT IT READS IS OF BULK AT MOST 1048576: true; the input reads as it did. -/
def restateBackUptoRow : OpenClaim := { program := "ytpmiafnccjejnaa", sum := "b5bbf1eb898c2c18c536c83f875e013dc8f0a3b7930c8a4a13514e7b3b8b581e", func := "treaty/treatylaw32.RestateBack", spec := "restateBack", unfollowed := true, recurses := true, plainKeys := false, apart := false, narrowed := true }
def RestateBackUptoSaid : Prop := restateBackUptoRow.holds Try.pinned (OpenSpec.upto restateBackSpec)

/-- 'treatylaw32.RestateChain', WHERE WHAT IT READS IS OF BULK AT MOST 1048576: true; the input reads as it did. -/
def restateChainUptoRow : OpenClaim := { program := "ytpmiafnccjejnaa", sum := "b5bbf1eb898c2c18c536c83f875e013dc8f0a3b7930c8a4a13514e7b3b8b581e", func := "treaty/treatylaw32.RestateChain", spec := "restateChain", unfollowed := true, recurses := true, plainKeys := false, apart := false, narrowed := true }
def RestateChainUptoSaid : Prop := restateChainUptoRow.holds Try.pinned (OpenSpec.upto restateChainSpec)

/-- 'treatylaw32.RestateCollect', WHERE WHAT IT READS IS OF BULK AT MOST 1048576: true; the input reads as it did. -/
def restateCollectUptoRow : OpenClaim := { program := "ytpmiafnccjejnaa", sum := "b5bbf1eb898c2c18c536c83f875e013dc8f0a3b7930c8a4a13514e7b3b8b581e", func := "treaty/treatylaw32.RestateCollect", spec := "restateCollect", unfollowed := true, recurses := true, plainKeys := false, apart := false, narrowed := true }
def RestateCollectUptoSaid : Prop := restateCollectUptoRow.holds Try.pinned (OpenSpec.upto restateCollectSpec)

/-- 'treatylaw32.RestateNothing', WHERE WHAT IT READS IS OF BULK AT MOST 1048576: true; the input reads as it did. -/
def restateNothingUptoRow : OpenClaim := { program := "ytpmiafnccjejnaa", sum := "b5bbf1eb898c2c18c536c83f875e013dc8f0a3b7930c8a4a13514e7b3b8b581e", func := "treaty/treatylaw32.RestateNothing", spec := "restateNothing", unfollowed := true, recurses := true, plainKeys := false, apart := false, narrowed := true }
def RestateNothingUptoSaid : Prop := restateNothingUptoRow.holds Try.pinned (OpenSpec.upto restateNothingSpec)

end Rows
end Go.Proofs.Ytpmiafnccjejnaa
