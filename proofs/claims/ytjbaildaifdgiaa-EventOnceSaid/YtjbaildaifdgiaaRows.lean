/-
  No cell of these rows narrows 'for every input' (looked for: loops, veiled, ifaces, maps, wideKeys, modest, calm, conditions, laid).
  DERIVED. THE GIVEN ROWS OF THIS SEAT. 8 by the template 'for every input the law returns true; each argument reads behind the call as it read before'; 0 by the template 'total and deterministic' (their statements: YtjbaildaifdgiaaTotals.lean).
  GIVEN WITH THE SEED: the statements are not yours to turn. If you find one false, say at which input.
  Laid BY PROGRAM, IN A SANDBOX (cutbox-rows.mjs): the forced cells as the released guide's own fill.sh prints them over the translation ab7fef202987fb04… (all of the seat's roots in one cut). By AI agents, Wed Nov 11 2026. No macro, syntax, notation, axiom, sorry.
-/
import Derived.Test.YtjbaildaifdgiaaChecked
import GoSem.Claim
import GoSem.ClaimJoined
import GoSem.ClaimMapViews
import Derived.JoinedTies
import Derived.KernelRfl
namespace Go.Proofs.Ytjbaildaifdgiaa
/- THE CELL 'sum', in the pinned program and in every row, IS THE sha256 OF THE DUMP (.gsa) THAT YtjbaildaifdgiaaProg.lean LOADS. Nothing in Lean hashes anything: it is a label: what it is worth is what the hold of that sum in a sandbox is worth. -/
noncomputable def Try.pinned : Pinned := { name := "ytjbaildaifdgiaa", sum := "ab7fef202987fb04b7475fe02213366d195dbac137d32dd2dff90b1ec4e7a8c9", checked := Try.checked }
namespace Rows
def none {H : Type} : Left H := { results := [], args := [] }

/-- 'treatylaw27.CertificateBound': WHATEVER THE INPUT: true; the input reads as it did. -/
def certificateBoundSpec : ChangeSpec := { name := "certificateBound", fn := fun _ => fun
  | [d1, d2, d3, d4, d5, d6, d7, d8] => { results := [.lit (.bool true)], args := [d1, d2, d3, d4, d5, d6, d7, d8] }
  | _ => none }
def certificateBoundRow : OpenClaim := { program := "ytjbaildaifdgiaa", sum := "ab7fef202987fb04b7475fe02213366d195dbac137d32dd2dff90b1ec4e7a8c9", func := "treaty/treatylaw27.CertificateBound", spec := "certificateBound", apart := false }
def CertificateBoundSaid : Prop := certificateBoundRow.holds Try.pinned (OpenSpec.ofChange certificateBoundSpec)

/-- ITS FALSE NEIGHBOUR: 'it returns false'. Refute it at one input. -/
def certificateBoundWrong : ChangeSpec := { name := "certificateBound", fn := fun _ => fun
  | [d1, d2, d3, d4, d5, d6, d7, d8] => { results := [.lit (.bool false)], args := [d1, d2, d3, d4, d5, d6, d7, d8] }
  | _ => none }
def CertificateBoundWrongFalsely : Prop := certificateBoundRow.holds Try.pinned (OpenSpec.ofChange certificateBoundWrong)

/-- 'treatylaw26.WindowRecovery': WHATEVER THE INPUT: true; the input reads as it did. -/
def windowRecoverySpec : ChangeSpec := { name := "windowRecovery", fn := fun _ => fun
  | [d1, d2, d3] => { results := [.lit (.bool true)], args := [d1, d2, d3] }
  | _ => none }
def windowRecoveryRow : OpenClaim := { program := "ytjbaildaifdgiaa", sum := "ab7fef202987fb04b7475fe02213366d195dbac137d32dd2dff90b1ec4e7a8c9", func := "treaty/treatylaw26.WindowRecovery", spec := "windowRecovery", apart := false }
def WindowRecoverySaid : Prop := windowRecoveryRow.holds Try.pinned (OpenSpec.ofChange windowRecoverySpec)

/-- ITS FALSE NEIGHBOUR: 'it returns false'. Refute it at one input. -/
def windowRecoveryWrong : ChangeSpec := { name := "windowRecovery", fn := fun _ => fun
  | [d1, d2, d3] => { results := [.lit (.bool false)], args := [d1, d2, d3] }
  | _ => none }
def WindowRecoveryWrongFalsely : Prop := windowRecoveryRow.holds Try.pinned (OpenSpec.ofChange windowRecoveryWrong)

/-- 'treatylaw26.WindowValues': WHATEVER THE INPUT: true; the input reads as it did. -/
def windowValuesSpec : ChangeSpec := { name := "windowValues", fn := fun _ => fun
  | [d1, d2, d3, d4, d5] => { results := [.lit (.bool true)], args := [d1, d2, d3, d4, d5] }
  | _ => none }
def windowValuesRow : OpenClaim := { program := "ytjbaildaifdgiaa", sum := "ab7fef202987fb04b7475fe02213366d195dbac137d32dd2dff90b1ec4e7a8c9", func := "treaty/treatylaw26.WindowValues", spec := "windowValues", apart := false }
def WindowValuesSaid : Prop := windowValuesRow.holds Try.pinned (OpenSpec.ofChange windowValuesSpec)

/-- ITS FALSE NEIGHBOUR: 'it returns false'. Refute it at one input. -/
def windowValuesWrong : ChangeSpec := { name := "windowValues", fn := fun _ => fun
  | [d1, d2, d3, d4, d5] => { results := [.lit (.bool false)], args := [d1, d2, d3, d4, d5] }
  | _ => none }
def WindowValuesWrongFalsely : Prop := windowValuesRow.holds Try.pinned (OpenSpec.ofChange windowValuesWrong)

/-- 'treatylaw26.WindowSpans': WHATEVER THE INPUT: true; the input reads as it did. -/
def windowSpansSpec : ChangeSpec := { name := "windowSpans", fn := fun _ => fun
  | [d1, d2, d3, d4, d5] => { results := [.lit (.bool true)], args := [d1, d2, d3, d4, d5] }
  | _ => none }
def windowSpansRow : OpenClaim := { program := "ytjbaildaifdgiaa", sum := "ab7fef202987fb04b7475fe02213366d195dbac137d32dd2dff90b1ec4e7a8c9", func := "treaty/treatylaw26.WindowSpans", spec := "windowSpans", apart := false }
def WindowSpansSaid : Prop := windowSpansRow.holds Try.pinned (OpenSpec.ofChange windowSpansSpec)

/-- ITS FALSE NEIGHBOUR: 'it returns false'. Refute it at one input. -/
def windowSpansWrong : ChangeSpec := { name := "windowSpans", fn := fun _ => fun
  | [d1, d2, d3, d4, d5] => { results := [.lit (.bool false)], args := [d1, d2, d3, d4, d5] }
  | _ => none }
def WindowSpansWrongFalsely : Prop := windowSpansRow.holds Try.pinned (OpenSpec.ofChange windowSpansWrong)

/-- 'treatylaw26.WindowEvaluate': WHATEVER THE INPUT: true; the input reads as it did. -/
def windowEvaluateSpec : ChangeSpec := { name := "windowEvaluate", fn := fun _ => fun
  | [d1, d2, d3, d4, d5] => { results := [.lit (.bool true)], args := [d1, d2, d3, d4, d5] }
  | _ => none }
def windowEvaluateRow : OpenClaim := { program := "ytjbaildaifdgiaa", sum := "ab7fef202987fb04b7475fe02213366d195dbac137d32dd2dff90b1ec4e7a8c9", func := "treaty/treatylaw26.WindowEvaluate", spec := "windowEvaluate", unfollowed := true, recurses := true, apart := false }
def WindowEvaluateSaid : Prop := windowEvaluateRow.holds Try.pinned (OpenSpec.ofChange windowEvaluateSpec)

/-- ITS FALSE NEIGHBOUR: 'it returns false'. Refute it at one input. -/
def windowEvaluateWrong : ChangeSpec := { name := "windowEvaluate", fn := fun _ => fun
  | [d1, d2, d3, d4, d5] => { results := [.lit (.bool false)], args := [d1, d2, d3, d4, d5] }
  | _ => none }
def WindowEvaluateWrongFalsely : Prop := windowEvaluateRow.holds Try.pinned (OpenSpec.ofChange windowEvaluateWrong)

/-- 'treatylaw25.EventCheck': WHATEVER THE INPUT: true; the input reads as it did. -/
def eventCheckSpec : ChangeSpec := { name := "eventCheck", fn := fun _ => fun
  | [d1, d2, d3, d4, d5] => { results := [.lit (.bool true)], args := [d1, d2, d3, d4, d5] }
  | _ => none }
def eventCheckRow : OpenClaim := { program := "ytjbaildaifdgiaa", sum := "ab7fef202987fb04b7475fe02213366d195dbac137d32dd2dff90b1ec4e7a8c9", func := "treaty/treatylaw25.EventCheck", spec := "eventCheck", unfollowed := true, recurses := true, apart := false }
def EventCheckSaid : Prop := eventCheckRow.holds Try.pinned (OpenSpec.ofChange eventCheckSpec)

/-- ITS FALSE NEIGHBOUR: 'it returns false'. Refute it at one input. -/
def eventCheckWrong : ChangeSpec := { name := "eventCheck", fn := fun _ => fun
  | [d1, d2, d3, d4, d5] => { results := [.lit (.bool false)], args := [d1, d2, d3, d4, d5] }
  | _ => none }
def EventCheckWrongFalsely : Prop := eventCheckRow.holds Try.pinned (OpenSpec.ofChange eventCheckWrong)

/-- 'treatylaw25.EventWindows': WHATEVER THE INPUT: true; the input reads as it did. -/
def eventWindowsSpec : ChangeSpec := { name := "eventWindows", fn := fun _ => fun
  | [d1, d2, d3, d4, d5] => { results := [.lit (.bool true)], args := [d1, d2, d3, d4, d5] }
  | _ => none }
def eventWindowsRow : OpenClaim := { program := "ytjbaildaifdgiaa", sum := "ab7fef202987fb04b7475fe02213366d195dbac137d32dd2dff90b1ec4e7a8c9", func := "treaty/treatylaw25.EventWindows", spec := "eventWindows", unfollowed := true, recurses := true, apart := false }
def EventWindowsSaid : Prop := eventWindowsRow.holds Try.pinned (OpenSpec.ofChange eventWindowsSpec)

/-- ITS FALSE NEIGHBOUR: 'it returns false'. Refute it at one input. -/
def eventWindowsWrong : ChangeSpec := { name := "eventWindows", fn := fun _ => fun
  | [d1, d2, d3, d4, d5] => { results := [.lit (.bool false)], args := [d1, d2, d3, d4, d5] }
  | _ => none }
def EventWindowsWrongFalsely : Prop := eventWindowsRow.holds Try.pinned (OpenSpec.ofChange eventWindowsWrong)

/-- 'treatylaw25.EventOnce': WHATEVER THE INPUT: true; the input reads as it did. -/
def eventOnceSpec : ChangeSpec := { name := "eventOnce", fn := fun _ => fun
  | [d1, d2] => { results := [.lit (.bool true)], args := [d1, d2] }
  | _ => none }
def eventOnceRow : OpenClaim := { program := "ytjbaildaifdgiaa", sum := "ab7fef202987fb04b7475fe02213366d195dbac137d32dd2dff90b1ec4e7a8c9", func := "treaty/treatylaw25.EventOnce", spec := "eventOnce", unfollowed := true, recurses := true, apart := false }
def EventOnceSaid : Prop := eventOnceRow.holds Try.pinned (OpenSpec.ofChange eventOnceSpec)

/-- ITS FALSE NEIGHBOUR: 'it returns false'. Refute it at one input. -/
def eventOnceWrong : ChangeSpec := { name := "eventOnce", fn := fun _ => fun
  | [d1, d2] => { results := [.lit (.bool false)], args := [d1, d2] }
  | _ => none }
def EventOnceWrongFalsely : Prop := eventOnceRow.holds Try.pinned (OpenSpec.ofChange eventOnceWrong)

/- THE SECOND FORM. 'bulk': how many values and letters a reading holds, each counted each time it is reached (what is shared counts as often as it is met; a slice's spare places count too). A statement '..UptoSaid' is the law's where the arguments, and the package variables that the reading takes, are together of bulk at most 1048576: NARROWER than '..Said'. Prove '..Said' where nothing that the law and all that it calls make is longer than what came in: it says more and counts as full. Else prove '..UptoSaid'. A law counts once. -/
mutual
def uptoBulk {H : Type} : DataW H → Nat
  | .lit (.string bytes) => bytes.length + 1
  | .lit _ => 1
  | .nil => 1
  | .ptr d => uptoBulk d + 1
  | .slice elems spare => uptoBulkAll elems + uptoBulkAll spare + 1
  | .agg parts => uptoBulkAll parts + 1
  | .iface _ d => uptoBulk d + 1
  | .map entries => uptoBulkEntries entries + 1
  | .held _ => 1
def uptoBulkAll {H : Type} : List (DataW H) → Nat
  | [] => 0
  | d :: r => uptoBulk d + uptoBulkAll r
def uptoBulkEntries {H : Type} : List (Lit × DataW H) → Nat
  | [] => 0
  | x :: r => uptoBulkEntry x + uptoBulkEntries r
def uptoBulkEntry {H : Type} : Lit × DataW H → Nat
  | (.string bytes, d) => bytes.length + uptoBulk d + 1
  | (_, d) => uptoBulk d + 1
 end
def uptoSmall : (H : Type) → List (DataW H) → Bool := fun _ ds => decide (uptoBulkAll ds ≤ 1048576)
def OpenSpec.upto (s : _root_.Go.ChangeSpec) : _root_.Go.OpenSpec := { _root_.Go.OpenSpec.ofChange s with cond := some uptoSmall }

/-- 'treatylaw27.CertificateBound', WHERE WHAT IT READS IS OF BULK AT MOST 1048576: true; the input reads as it did. -/
def certificateBoundUptoRow : OpenClaim := { program := "ytjbaildaifdgiaa", sum := "ab7fef202987fb04b7475fe02213366d195dbac137d32dd2dff90b1ec4e7a8c9", func := "treaty/treatylaw27.CertificateBound", spec := "certificateBound", apart := false, narrowed := true }
def CertificateBoundUptoSaid : Prop := certificateBoundUptoRow.holds Try.pinned (OpenSpec.upto certificateBoundSpec)

/-- 'treatylaw26.WindowRecovery', WHERE WHAT IT READS IS OF BULK AT MOST 1048576: true; the input reads as it did. -/
def windowRecoveryUptoRow : OpenClaim := { program := "ytjbaildaifdgiaa", sum := "ab7fef202987fb04b7475fe02213366d195dbac137d32dd2dff90b1ec4e7a8c9", func := "treaty/treatylaw26.WindowRecovery", spec := "windowRecovery", apart := false, narrowed := true }
def WindowRecoveryUptoSaid : Prop := windowRecoveryUptoRow.holds Try.pinned (OpenSpec.upto windowRecoverySpec)

/-- 'treatylaw26.WindowValues', WHERE WHAT IT READS IS OF BULK AT MOST 1048576: true; the input reads as it did. -/
def windowValuesUptoRow : OpenClaim := { program := "ytjbaildaifdgiaa", sum := "ab7fef202987fb04b7475fe02213366d195dbac137d32dd2dff90b1ec4e7a8c9", func := "treaty/treatylaw26.WindowValues", spec := "windowValues", apart := false, narrowed := true }
def WindowValuesUptoSaid : Prop := windowValuesUptoRow.holds Try.pinned (OpenSpec.upto windowValuesSpec)

/-- 'treatylaw26.WindowSpans', WHERE WHAT IT READS IS OF BULK AT MOST 1048576: true; the input reads as it did. -/
def windowSpansUptoRow : OpenClaim := { program := "ytjbaildaifdgiaa", sum := "ab7fef202987fb04b7475fe02213366d195dbac137d32dd2dff90b1ec4e7a8c9", func := "treaty/treatylaw26.WindowSpans", spec := "windowSpans", apart := false, narrowed := true }
def WindowSpansUptoSaid : Prop := windowSpansUptoRow.holds Try.pinned (OpenSpec.upto windowSpansSpec)

/-- 'treatylaw26.WindowEvaluate', WHERE WHAT IT READS IS OF BULK AT MOST 1048576: true; the input reads as it did. -/
def windowEvaluateUptoRow : OpenClaim := { program := "ytjbaildaifdgiaa", sum := "ab7fef202987fb04b7475fe02213366d195dbac137d32dd2dff90b1ec4e7a8c9", func := "treaty/treatylaw26.WindowEvaluate", spec := "windowEvaluate", unfollowed := true, recurses := true, apart := false, narrowed := true }
def WindowEvaluateUptoSaid : Prop := windowEvaluateUptoRow.holds Try.pinned (OpenSpec.upto windowEvaluateSpec)

/-- 'treatylaw25.EventCheck', WHERE WHAT IT READS IS OF BULK AT MOST 1048576: true; the input reads as it did. -/
def eventCheckUptoRow : OpenClaim := { program := "ytjbaildaifdgiaa", sum := "ab7fef202987fb04b7475fe02213366d195dbac137d32dd2dff90b1ec4e7a8c9", func := "treaty/treatylaw25.EventCheck", spec := "eventCheck", unfollowed := true, recurses := true, apart := false, narrowed := true }
def EventCheckUptoSaid : Prop := eventCheckUptoRow.holds Try.pinned (OpenSpec.upto eventCheckSpec)

/-- 'treatylaw25.EventWindows', WHERE WHAT IT READS IS OF BULK AT MOST 1048576: true; the input reads as it did. -/
def eventWindowsUptoRow : OpenClaim := { program := "ytjbaildaifdgiaa", sum := "ab7fef202987fb04b7475fe02213366d195dbac137d32dd2dff90b1ec4e7a8c9", func := "treaty/treatylaw25.EventWindows", spec := "eventWindows", unfollowed := true, recurses := true, apart := false, narrowed := true }
def EventWindowsUptoSaid : Prop := eventWindowsUptoRow.holds Try.pinned (OpenSpec.upto eventWindowsSpec)

/-- 'treatylaw25.EventOnce', WHERE WHAT IT READS IS OF BULK AT MOST 1048576: true; the input reads as it did. -/
def eventOnceUptoRow : OpenClaim := { program := "ytjbaildaifdgiaa", sum := "ab7fef202987fb04b7475fe02213366d195dbac137d32dd2dff90b1ec4e7a8c9", func := "treaty/treatylaw25.EventOnce", spec := "eventOnce", unfollowed := true, recurses := true, apart := false, narrowed := true }
def EventOnceUptoSaid : Prop := eventOnceUptoRow.holds Try.pinned (OpenSpec.upto eventOnceSpec)

end Rows
end Go.Proofs.Ytjbaildaifdgiaa
