/-
  No cell of these rows narrows 'for every input' (looked for: loops, veiled, ifaces, maps, wideKeys, modest, calm, conditions, laid).
  DERIVED. THE GIVEN ROWS OF THIS SEAT. 9 by the template 'for every input the law returns true; each argument reads behind the call as it read before'; 0 by the template 'total and deterministic' (their statements: YtilkcailpkebdaaTotals.lean).
  GIVEN WITH THE SEED: the statements are not yours to turn. If you find one false, say at which input.
  Laid BY PROGRAM, IN A SANDBOX (cutbox-rows.mjs): the forced cells as the released guide's own fill.sh prints them over the translation 7dc5e58b3efe278b… (all of the seat's roots in one cut). By AI agents, Wed Nov 11 2026. No macro, syntax, notation, axiom, sorry.
-/
import Derived.Test.YtilkcailpkebdaaChecked
import GoSem.Claim
import GoSem.ClaimJoined
import GoSem.ClaimMapViews
import Derived.JoinedTies
import Derived.KernelRfl
namespace Go.Proofs.Ytilkcailpkebdaa
/- THE CELL 'sum', in the pinned program and in every row, IS THE sha256 OF THE DUMP (.gsa) THAT YtilkcailpkebdaaProg.lean LOADS. Nothing in Lean hashes anything: it is a label: what it is worth is what the hold of that sum in a sandbox is worth. -/
noncomputable def Try.pinned : Pinned := { name := "ytilkcailpkebdaa", sum := "7dc5e58b3efe278b4f5626bd4b07719bd8dc41c4631f04dbd19e3a816ce01bf1", checked := Try.checked }
namespace Rows
def none {H : Type} : Left H := { results := [], args := [] }

/-- 'treatylaw25.EventPoints': WHATEVER THE INPUT: true; the input reads as it did. -/
def eventPointsSpec : ChangeSpec := { name := "eventPoints", fn := fun _ => fun
  | [d1, d2, d3, d4] => { results := [.lit (.bool true)], args := [d1, d2, d3, d4] }
  | _ => none }
def eventPointsRow : OpenClaim := { program := "ytilkcailpkebdaa", sum := "7dc5e58b3efe278b4f5626bd4b07719bd8dc41c4631f04dbd19e3a816ce01bf1", func := "treaty/treatylaw25.EventPoints", spec := "eventPoints", unfollowed := true, recurses := true, apart := false }
def EventPointsSaid : Prop := eventPointsRow.holds Try.pinned (OpenSpec.ofChange eventPointsSpec)

/-- ITS FALSE NEIGHBOUR: 'it returns false'. Refute it at one input. -/
def eventPointsWrong : ChangeSpec := { name := "eventPoints", fn := fun _ => fun
  | [d1, d2, d3, d4] => { results := [.lit (.bool false)], args := [d1, d2, d3, d4] }
  | _ => none }
def EventPointsWrongFalsely : Prop := eventPointsRow.holds Try.pinned (OpenSpec.ofChange eventPointsWrong)

/-- 'treatylaw25.EventWhole': WHATEVER THE INPUT: true; the input reads as it did. -/
def eventWholeSpec : ChangeSpec := { name := "eventWhole", fn := fun _ => fun
  | [d] => { results := [.lit (.bool true)], args := [d] }
  | _ => none }
def eventWholeRow : OpenClaim := { program := "ytilkcailpkebdaa", sum := "7dc5e58b3efe278b4f5626bd4b07719bd8dc41c4631f04dbd19e3a816ce01bf1", func := "treaty/treatylaw25.EventWhole", spec := "eventWhole", unfollowed := true, recurses := true, apart := false }
def EventWholeSaid : Prop := eventWholeRow.holds Try.pinned (OpenSpec.ofChange eventWholeSpec)

/-- ITS FALSE NEIGHBOUR: 'it returns false'. Refute it at one input. -/
def eventWholeWrong : ChangeSpec := { name := "eventWhole", fn := fun _ => fun
  | [d] => { results := [.lit (.bool false)], args := [d] }
  | _ => none }
def EventWholeWrongFalsely : Prop := eventWholeRow.holds Try.pinned (OpenSpec.ofChange eventWholeWrong)

/-- 'treatylaw26.WindowOptimal': WHATEVER THE INPUT: true; the input reads as it did. -/
def windowOptimalSpec : ChangeSpec := { name := "windowOptimal", fn := fun _ => fun
  | [d1, d2, d3] => { results := [.lit (.bool true)], args := [d1, d2, d3] }
  | _ => none }
def windowOptimalRow : OpenClaim := { program := "ytilkcailpkebdaa", sum := "7dc5e58b3efe278b4f5626bd4b07719bd8dc41c4631f04dbd19e3a816ce01bf1", func := "treaty/treatylaw26.WindowOptimal", spec := "windowOptimal", unfollowed := true, recurses := true, apart := false }
def WindowOptimalSaid : Prop := windowOptimalRow.holds Try.pinned (OpenSpec.ofChange windowOptimalSpec)

/-- ITS FALSE NEIGHBOUR: 'it returns false'. Refute it at one input. -/
def windowOptimalWrong : ChangeSpec := { name := "windowOptimal", fn := fun _ => fun
  | [d1, d2, d3] => { results := [.lit (.bool false)], args := [d1, d2, d3] }
  | _ => none }
def WindowOptimalWrongFalsely : Prop := windowOptimalRow.holds Try.pinned (OpenSpec.ofChange windowOptimalWrong)

/-- 'treatylaw26.WindowUseful': WHATEVER THE INPUT: true; the input reads as it did. -/
def windowUsefulSpec : ChangeSpec := { name := "windowUseful", fn := fun _ => fun
  | [d1, d2] => { results := [.lit (.bool true)], args := [d1, d2] }
  | _ => none }
def windowUsefulRow : OpenClaim := { program := "ytilkcailpkebdaa", sum := "7dc5e58b3efe278b4f5626bd4b07719bd8dc41c4631f04dbd19e3a816ce01bf1", func := "treaty/treatylaw26.WindowUseful", spec := "windowUseful", unfollowed := true, recurses := true, apart := false }
def WindowUsefulSaid : Prop := windowUsefulRow.holds Try.pinned (OpenSpec.ofChange windowUsefulSpec)

/-- ITS FALSE NEIGHBOUR: 'it returns false'. Refute it at one input. -/
def windowUsefulWrong : ChangeSpec := { name := "windowUseful", fn := fun _ => fun
  | [d1, d2] => { results := [.lit (.bool false)], args := [d1, d2] }
  | _ => none }
def WindowUsefulWrongFalsely : Prop := windowUsefulRow.holds Try.pinned (OpenSpec.ofChange windowUsefulWrong)

/-- 'treatylaw26.WindowMore': WHATEVER THE INPUT: true; the input reads as it did. -/
def windowMoreSpec : ChangeSpec := { name := "windowMore", fn := fun _ => fun
  | [d1, d2, d3, d4, d5] => { results := [.lit (.bool true)], args := [d1, d2, d3, d4, d5] }
  | _ => none }
def windowMoreRow : OpenClaim := { program := "ytilkcailpkebdaa", sum := "7dc5e58b3efe278b4f5626bd4b07719bd8dc41c4631f04dbd19e3a816ce01bf1", func := "treaty/treatylaw26.WindowMore", spec := "windowMore", unfollowed := true, recurses := true, apart := false }
def WindowMoreSaid : Prop := windowMoreRow.holds Try.pinned (OpenSpec.ofChange windowMoreSpec)

/-- ITS FALSE NEIGHBOUR: 'it returns false'. Refute it at one input. -/
def windowMoreWrong : ChangeSpec := { name := "windowMore", fn := fun _ => fun
  | [d1, d2, d3, d4, d5] => { results := [.lit (.bool false)], args := [d1, d2, d3, d4, d5] }
  | _ => none }
def WindowMoreWrongFalsely : Prop := windowMoreRow.holds Try.pinned (OpenSpec.ofChange windowMoreWrong)

/-- 'treatylaw26.WindowShift': WHATEVER THE INPUT: true; the input reads as it did. -/
def windowShiftSpec : ChangeSpec := { name := "windowShift", fn := fun _ => fun
  | [d1, d2, d3] => { results := [.lit (.bool true)], args := [d1, d2, d3] }
  | _ => none }
def windowShiftRow : OpenClaim := { program := "ytilkcailpkebdaa", sum := "7dc5e58b3efe278b4f5626bd4b07719bd8dc41c4631f04dbd19e3a816ce01bf1", func := "treaty/treatylaw26.WindowShift", spec := "windowShift", unfollowed := true, recurses := true, apart := false }
def WindowShiftSaid : Prop := windowShiftRow.holds Try.pinned (OpenSpec.ofChange windowShiftSpec)

/-- ITS FALSE NEIGHBOUR: 'it returns false'. Refute it at one input. -/
def windowShiftWrong : ChangeSpec := { name := "windowShift", fn := fun _ => fun
  | [d1, d2, d3] => { results := [.lit (.bool false)], args := [d1, d2, d3] }
  | _ => none }
def WindowShiftWrongFalsely : Prop := windowShiftRow.holds Try.pinned (OpenSpec.ofChange windowShiftWrong)

/-- 'treatylaw26.WindowCapped': WHATEVER THE INPUT: true; the input reads as it did. -/
def windowCappedSpec : ChangeSpec := { name := "windowCapped", fn := fun _ => fun
  | [d1, d2, d3, d4, d5] => { results := [.lit (.bool true)], args := [d1, d2, d3, d4, d5] }
  | _ => none }
def windowCappedRow : OpenClaim := { program := "ytilkcailpkebdaa", sum := "7dc5e58b3efe278b4f5626bd4b07719bd8dc41c4631f04dbd19e3a816ce01bf1", func := "treaty/treatylaw26.WindowCapped", spec := "windowCapped", unfollowed := true, recurses := true, apart := false }
def WindowCappedSaid : Prop := windowCappedRow.holds Try.pinned (OpenSpec.ofChange windowCappedSpec)

/-- ITS FALSE NEIGHBOUR: 'it returns false'. Refute it at one input. -/
def windowCappedWrong : ChangeSpec := { name := "windowCapped", fn := fun _ => fun
  | [d1, d2, d3, d4, d5] => { results := [.lit (.bool false)], args := [d1, d2, d3, d4, d5] }
  | _ => none }
def WindowCappedWrongFalsely : Prop := windowCappedRow.holds Try.pinned (OpenSpec.ofChange windowCappedWrong)

/-- 'treatylaw27.CertificateAccepts': WHATEVER THE INPUT: true; the input reads as it did. -/
def certificateAcceptsSpec : ChangeSpec := { name := "certificateAccepts", fn := fun _ => fun
  | [d1, d2] => { results := [.lit (.bool true)], args := [d1, d2] }
  | _ => none }
def certificateAcceptsRow : OpenClaim := { program := "ytilkcailpkebdaa", sum := "7dc5e58b3efe278b4f5626bd4b07719bd8dc41c4631f04dbd19e3a816ce01bf1", func := "treaty/treatylaw27.CertificateAccepts", spec := "certificateAccepts", unfollowed := true, recurses := true, apart := false }
def CertificateAcceptsSaid : Prop := certificateAcceptsRow.holds Try.pinned (OpenSpec.ofChange certificateAcceptsSpec)

/-- ITS FALSE NEIGHBOUR: 'it returns false'. Refute it at one input. -/
def certificateAcceptsWrong : ChangeSpec := { name := "certificateAccepts", fn := fun _ => fun
  | [d1, d2] => { results := [.lit (.bool false)], args := [d1, d2] }
  | _ => none }
def CertificateAcceptsWrongFalsely : Prop := certificateAcceptsRow.holds Try.pinned (OpenSpec.ofChange certificateAcceptsWrong)

/-- 'treatylaw27.CertificateTies': WHATEVER THE INPUT: true; the input reads as it did. -/
def certificateTiesSpec : ChangeSpec := { name := "certificateTies", fn := fun _ => fun
  | [d1, d2, d3] => { results := [.lit (.bool true)], args := [d1, d2, d3] }
  | _ => none }
def certificateTiesRow : OpenClaim := { program := "ytilkcailpkebdaa", sum := "7dc5e58b3efe278b4f5626bd4b07719bd8dc41c4631f04dbd19e3a816ce01bf1", func := "treaty/treatylaw27.CertificateTies", spec := "certificateTies", unfollowed := true, recurses := true, apart := false }
def CertificateTiesSaid : Prop := certificateTiesRow.holds Try.pinned (OpenSpec.ofChange certificateTiesSpec)

/-- ITS FALSE NEIGHBOUR: 'it returns false'. Refute it at one input. -/
def certificateTiesWrong : ChangeSpec := { name := "certificateTies", fn := fun _ => fun
  | [d1, d2, d3] => { results := [.lit (.bool false)], args := [d1, d2, d3] }
  | _ => none }
def CertificateTiesWrongFalsely : Prop := certificateTiesRow.holds Try.pinned (OpenSpec.ofChange certificateTiesWrong)

/- THE SECOND FORM. 'bulk': how many values and letters a reading holds, each counted each time it is reached (what is shared counts as often as it is met; a slice's spare places count too). A statement '..UptoSaid' is the law's where the arguments, and the package variables that the reading takes, are together of bulk at most 1048576: NARROWER than '..Said'. Prove '..Said' where nothing that the law and all that it calls make is longer than what came in: it says more and counts as full. Else prove '..UptoSaid'. A law counts once. -/
mutual
def uptoBulk {H : Type} : DataW H → Nat
  | .lit (.string bytes) => bytes.length + 1
  | .lit _ => 1
  | .nil => 1
  | .ptr d => uptoBulk d + 1
  | .slice elems spare => uptoBulkAll elems + uptoBulkAll spare + 1
  | .agg parts => uptoBulkAll parts + 1
  | .iface _ d => uptoBulk d + 1
  | .map entries => uptoBulkEntries entries + 1
  | .held _ => 1
def uptoBulkAll {H : Type} : List (DataW H) → Nat
  | [] => 0
  | d :: r => uptoBulk d + uptoBulkAll r
def uptoBulkEntries {H : Type} : List (Lit × DataW H) → Nat
  | [] => 0
  | x :: r => uptoBulkEntry x + uptoBulkEntries r
def uptoBulkEntry {H : Type} : Lit × DataW H → Nat
  | (.string bytes, d) => bytes.length + uptoBulk d + 1
  | (_, d) => uptoBulk d + 1
 end
def uptoSmall : (H : Type) → List (DataW H) → Bool := fun _ ds => decide (uptoBulkAll ds ≤ 1048576)
def OpenSpec.upto (s : _root_.Go.ChangeSpec) : _root_.Go.OpenSpec := { _root_.Go.OpenSpec.ofChange s with cond := some uptoSmall }

/-- 'treatylaw25.EventPoints', WHERE WHAT IT READS IS OF BULK AT MOST 1048576: true; the input reads as it did. -/
def eventPointsUptoRow : OpenClaim := { program := "ytilkcailpkebdaa", sum := "7dc5e58b3efe278b4f5626bd4b07719bd8dc41c4631f04dbd19e3a816ce01bf1", func := "treaty/treatylaw25.EventPoints", spec := "eventPoints", unfollowed := true, recurses := true, apart := false, narrowed := true }
def EventPointsUptoSaid : Prop := eventPointsUptoRow.holds Try.pinned (OpenSpec.upto eventPointsSpec)

/-- 'treatylaw25.EventWhole', WHERE WHAT IT READS IS OF BULK AT MOST 1048576: true; the input reads as it did. -/
def eventWholeUptoRow : OpenClaim := { program := "ytilkcailpkebdaa", sum := "7dc5e58b3efe278b4f5626bd4b07719bd8dc41c4631f04dbd19e3a816ce01bf1", func := "treaty/treatylaw25.EventWhole", spec := "eventWhole", unfollowed := true, recurses := true, apart := false, narrowed := true }
def EventWholeUptoSaid : Prop := eventWholeUptoRow.holds Try.pinned (OpenSpec.upto eventWholeSpec)

/-- 'treatylaw26.WindowOptimal', WHERE WHAT IT READS IS OF BULK AT MOST 1048576: true; the input reads as it did. -/
def windowOptimalUptoRow : OpenClaim := { program := "ytilkcailpkebdaa", sum := "7dc5e58b3efe278b4f5626bd4b07719bd8dc41c4631f04dbd19e3a816ce01bf1", func := "treaty/treatylaw26.WindowOptimal", spec := "windowOptimal", unfollowed := true, recurses := true, apart := false, narrowed := true }
def WindowOptimalUptoSaid : Prop := windowOptimalUptoRow.holds Try.pinned (OpenSpec.upto windowOptimalSpec)

/-- 'treatylaw26.WindowUseful', WHERE WHAT IT READS IS OF BULK AT MOST 1048576: true; the input reads as it did. -/
def windowUsefulUptoRow : OpenClaim := { program := "ytilkcailpkebdaa", sum := "7dc5e58b3efe278b4f5626bd4b07719bd8dc41c4631f04dbd19e3a816ce01bf1", func := "treaty/treatylaw26.WindowUseful", spec := "windowUseful", unfollowed := true, recurses := true, apart := false, narrowed := true }
def WindowUsefulUptoSaid : Prop := windowUsefulUptoRow.holds Try.pinned (OpenSpec.upto windowUsefulSpec)

/-- 'treatylaw26.WindowMore', WHERE WHAT IT READS IS OF BULK AT MOST 1048576: true; the input reads as it did. -/
def windowMoreUptoRow : OpenClaim := { program := "ytilkcailpkebdaa", sum := "7dc5e58b3efe278b4f5626bd4b07719bd8dc41c4631f04dbd19e3a816ce01bf1", func := "treaty/treatylaw26.WindowMore", spec := "windowMore", unfollowed := true, recurses := true, apart := false, narrowed := true }
def WindowMoreUptoSaid : Prop := windowMoreUptoRow.holds Try.pinned (OpenSpec.upto windowMoreSpec)

/-- 'treatylaw26.WindowShift', WHERE WHAT IT READS IS OF BULK AT MOST 1048576: true; the input reads as it did. -/
def windowShiftUptoRow : OpenClaim := { program := "ytilkcailpkebdaa", sum := "7dc5e58b3efe278b4f5626bd4b07719bd8dc41c4631f04dbd19e3a816ce01bf1", func := "treaty/treatylaw26.WindowShift", spec := "windowShift", unfollowed := true, recurses := true, apart := false, narrowed := true }
def WindowShiftUptoSaid : Prop := windowShiftUptoRow.holds Try.pinned (OpenSpec.upto windowShiftSpec)

/-- 'treatylaw26.WindowCapped', WHERE WHAT IT READS IS OF BULK AT MOST 1048576: true; the input reads as it did. -/
def windowCappedUptoRow : OpenClaim := { program := "ytilkcailpkebdaa", sum := "7dc5e58b3efe278b4f5626bd4b07719bd8dc41c4631f04dbd19e3a816ce01bf1", func := "treaty/treatylaw26.WindowCapped", spec := "windowCapped", unfollowed := true, recurses := true, apart := false, narrowed := true }
def WindowCappedUptoSaid : Prop := windowCappedUptoRow.holds Try.pinned (OpenSpec.upto windowCappedSpec)

/-- 'treatylaw27.CertificateAccepts', WHERE WHAT IT READS IS OF BULK AT MOST 1048576: true; the input reads as it did. -/
def certificateAcceptsUptoRow : OpenClaim := { program := "ytilkcailpkebdaa", sum := "7dc5e58b3efe278b4f5626bd4b07719bd8dc41c4631f04dbd19e3a816ce01bf1", func := "treaty/treatylaw27.CertificateAccepts", spec := "certificateAccepts", unfollowed := true, recurses := true, apart := false, narrowed := true }
def CertificateAcceptsUptoSaid : Prop := certificateAcceptsUptoRow.holds Try.pinned (OpenSpec.upto certificateAcceptsSpec)

/-- 'treatylaw27.CertificateTies', WHERE WHAT IT READS IS OF BULK AT MOST 1048576: true; the input reads as it did. -/
def certificateTiesUptoRow : OpenClaim := { program := "ytilkcailpkebdaa", sum := "7dc5e58b3efe278b4f5626bd4b07719bd8dc41c4631f04dbd19e3a816ce01bf1", func := "treaty/treatylaw27.CertificateTies", spec := "certificateTies", unfollowed := true, recurses := true, apart := false, narrowed := true }
def CertificateTiesUptoSaid : Prop := certificateTiesUptoRow.holds Try.pinned (OpenSpec.upto certificateTiesSpec)

end Rows
end Go.Proofs.Ytilkcailpkebdaa
