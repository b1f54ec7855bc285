/-
  No cell of these rows narrows 'for every input' (looked for: loops, veiled, ifaces, maps, wideKeys, modest, calm, conditions, laid).
  DERIVED. THE GIVEN ROWS OF THIS SEAT. 9 by the template 'for every input the law returns true; each argument reads behind the call as it read before'; 0 by the template 'total and deterministic' (their statements: YtajpkjpaeblgaaaGreatTotals.lean).
  GIVEN WITH THE SEED: the statements are not yours to turn. If you find one false, say at which input.
  Laid BY PROGRAM, IN A SANDBOX (cutbox-rows.mjs): the forced cells as the released guide's own fill.sh prints them over the translation d756ac9f4143e1d4… (all of the seat's roots in one cut). By AI agents, Wed Nov 11 2026. No macro, syntax, notation, axiom, sorry.
-/
import Derived.Test.YtajpkjpaeblgaaaGreatChecked
import GoSem.Claim
import GoSem.ClaimJoined
import GoSem.ClaimMapViews
import Derived.JoinedTies
import Derived.KernelRfl
namespace Go.Proofs.YtajpkjpaeblgaaaGreat
/- THE CELL 'sum', in the pinned program and in every row, IS THE sha256 OF THE DUMP (.gsa) THAT YtajpkjpaeblgaaaGreatProg.lean LOADS. Nothing in Lean hashes anything: it is a label: what it is worth is what the hold of that sum in a sandbox is worth. -/
noncomputable def Tryz.pinned : Pinned := { name := "ytajpkjpaeblgaaagreat", sum := "d756ac9f4143e1d4323556aa6d8fb862bdd72a3e0de12e9cf74dcd9700a001f6", checked := Tryz.checked }
namespace Rows
def none {H : Type} : Left H := { results := [], args := [] }

/-- 'treatylaw30.ProgrammeAddsUp': WHATEVER THE INPUT: true; the input reads as it did. -/
def programmeAddsUpSpec : ChangeSpec := { name := "programmeAddsUp", fn := fun _ => fun
  | [d1, d2] => { results := [.lit (.bool true)], args := [d1, d2] }
  | _ => none }
def programmeAddsUpRow : OpenClaim := { program := "ytajpkjpaeblgaaagreat", sum := "d756ac9f4143e1d4323556aa6d8fb862bdd72a3e0de12e9cf74dcd9700a001f6", func := "treaty/treatylaw30.ProgrammeAddsUp", spec := "programmeAddsUp", unfollowed := true, recurses := true, named := ["math/bits.divideError", "math/bits.overflowError"], plainKeys := false, apart := false }
def ProgrammeAddsUpSaid : Prop := programmeAddsUpRow.holds Tryz.pinned (OpenSpec.ofChange programmeAddsUpSpec)

/-- ITS FALSE NEIGHBOUR: 'it returns false'. Refute it at one input. -/
def programmeAddsUpWrong : ChangeSpec := { name := "programmeAddsUp", fn := fun _ => fun
  | [d1, d2] => { results := [.lit (.bool false)], args := [d1, d2] }
  | _ => none }
def ProgrammeAddsUpWrongFalsely : Prop := programmeAddsUpRow.holds Tryz.pinned (OpenSpec.ofChange programmeAddsUpWrong)

/-- 'treatylaw30.ProgrammeLimits': WHATEVER THE INPUT: true; the input reads as it did. -/
def programmeLimitsSpec : ChangeSpec := { name := "programmeLimits", fn := fun _ => fun
  | [d1, d2] => { results := [.lit (.bool true)], args := [d1, d2] }
  | _ => none }
def programmeLimitsRow : OpenClaim := { program := "ytajpkjpaeblgaaagreat", sum := "d756ac9f4143e1d4323556aa6d8fb862bdd72a3e0de12e9cf74dcd9700a001f6", func := "treaty/treatylaw30.ProgrammeLimits", spec := "programmeLimits", unfollowed := true, recurses := true, named := ["math/bits.divideError", "math/bits.overflowError"], plainKeys := false, apart := false }
def ProgrammeLimitsSaid : Prop := programmeLimitsRow.holds Tryz.pinned (OpenSpec.ofChange programmeLimitsSpec)

/-- ITS FALSE NEIGHBOUR: 'it returns false'. Refute it at one input. -/
def programmeLimitsWrong : ChangeSpec := { name := "programmeLimits", fn := fun _ => fun
  | [d1, d2] => { results := [.lit (.bool false)], args := [d1, d2] }
  | _ => none }
def ProgrammeLimitsWrongFalsely : Prop := programmeLimitsRow.holds Tryz.pinned (OpenSpec.ofChange programmeLimitsWrong)

/-- 'treatylaw30.ProgrammeStranger': WHATEVER THE INPUT: true; the input reads as it did. -/
def programmeStrangerSpec : ChangeSpec := { name := "programmeStranger", fn := fun _ => fun
  | [d1, d2, d3] => { results := [.lit (.bool true)], args := [d1, d2, d3] }
  | _ => none }
def programmeStrangerRow : OpenClaim := { program := "ytajpkjpaeblgaaagreat", sum := "d756ac9f4143e1d4323556aa6d8fb862bdd72a3e0de12e9cf74dcd9700a001f6", func := "treaty/treatylaw30.ProgrammeStranger", spec := "programmeStranger", unfollowed := true, recurses := true, named := ["math/bits.divideError", "math/bits.overflowError"], plainKeys := false, apart := false }
def ProgrammeStrangerSaid : Prop := programmeStrangerRow.holds Tryz.pinned (OpenSpec.ofChange programmeStrangerSpec)

/-- ITS FALSE NEIGHBOUR: 'it returns false'. Refute it at one input. -/
def programmeStrangerWrong : ChangeSpec := { name := "programmeStranger", fn := fun _ => fun
  | [d1, d2, d3] => { results := [.lit (.bool false)], args := [d1, d2, d3] }
  | _ => none }
def ProgrammeStrangerWrongFalsely : Prop := programmeStrangerRow.holds Tryz.pinned (OpenSpec.ofChange programmeStrangerWrong)

/-- 'treatylaw30.ProgrammeAlone': WHATEVER THE INPUT: true; the input reads as it did. -/
def programmeAloneSpec : ChangeSpec := { name := "programmeAlone", fn := fun _ => fun
  | [d1, d2, d3] => { results := [.lit (.bool true)], args := [d1, d2, d3] }
  | _ => none }
def programmeAloneRow : OpenClaim := { program := "ytajpkjpaeblgaaagreat", sum := "d756ac9f4143e1d4323556aa6d8fb862bdd72a3e0de12e9cf74dcd9700a001f6", func := "treaty/treatylaw30.ProgrammeAlone", spec := "programmeAlone", unfollowed := true, recurses := true, named := ["math/bits.divideError", "math/bits.overflowError"], plainKeys := false, apart := false }
def ProgrammeAloneSaid : Prop := programmeAloneRow.holds Tryz.pinned (OpenSpec.ofChange programmeAloneSpec)

/-- ITS FALSE NEIGHBOUR: 'it returns false'. Refute it at one input. -/
def programmeAloneWrong : ChangeSpec := { name := "programmeAlone", fn := fun _ => fun
  | [d1, d2, d3] => { results := [.lit (.bool false)], args := [d1, d2, d3] }
  | _ => none }
def ProgrammeAloneWrongFalsely : Prop := programmeAloneRow.holds Tryz.pinned (OpenSpec.ofChange programmeAloneWrong)

/-- 'treatylaw31.CessionTreaties': WHATEVER THE INPUT: true; the input reads as it did. -/
def cessionTreatiesSpec : ChangeSpec := { name := "cessionTreaties", fn := fun _ => fun
  | [d1, d2] => { results := [.lit (.bool true)], args := [d1, d2] }
  | _ => none }
def cessionTreatiesRow : OpenClaim := { program := "ytajpkjpaeblgaaagreat", sum := "d756ac9f4143e1d4323556aa6d8fb862bdd72a3e0de12e9cf74dcd9700a001f6", func := "treaty/treatylaw31.CessionTreaties", spec := "cessionTreaties", unfollowed := true, recurses := true, named := ["math/bits.divideError", "math/bits.overflowError"], plainKeys := false, apart := false }
def CessionTreatiesSaid : Prop := cessionTreatiesRow.holds Tryz.pinned (OpenSpec.ofChange cessionTreatiesSpec)

/-- ITS FALSE NEIGHBOUR: 'it returns false'. Refute it at one input. -/
def cessionTreatiesWrong : ChangeSpec := { name := "cessionTreaties", fn := fun _ => fun
  | [d1, d2] => { results := [.lit (.bool false)], args := [d1, d2] }
  | _ => none }
def CessionTreatiesWrongFalsely : Prop := cessionTreatiesRow.holds Tryz.pinned (OpenSpec.ofChange cessionTreatiesWrong)

/-- 'treatylaw31.CessionSettled': WHATEVER THE INPUT: true; the input reads as it did. -/
def cessionSettledSpec : ChangeSpec := { name := "cessionSettled", fn := fun _ => fun
  | [d1, d2, d3] => { results := [.lit (.bool true)], args := [d1, d2, d3] }
  | _ => none }
def cessionSettledRow : OpenClaim := { program := "ytajpkjpaeblgaaagreat", sum := "d756ac9f4143e1d4323556aa6d8fb862bdd72a3e0de12e9cf74dcd9700a001f6", func := "treaty/treatylaw31.CessionSettled", spec := "cessionSettled", unfollowed := true, recurses := true, named := ["math/bits.divideError", "math/bits.overflowError"], plainKeys := false, apart := false }
def CessionSettledSaid : Prop := cessionSettledRow.holds Tryz.pinned (OpenSpec.ofChange cessionSettledSpec)

/-- ITS FALSE NEIGHBOUR: 'it returns false'. Refute it at one input. -/
def cessionSettledWrong : ChangeSpec := { name := "cessionSettled", fn := fun _ => fun
  | [d1, d2, d3] => { results := [.lit (.bool false)], args := [d1, d2, d3] }
  | _ => none }
def CessionSettledWrongFalsely : Prop := cessionSettledRow.holds Tryz.pinned (OpenSpec.ofChange cessionSettledWrong)

/-- 'treatylaw31.CessionParties': WHATEVER THE INPUT: true; the input reads as it did. -/
def cessionPartiesSpec : ChangeSpec := { name := "cessionParties", fn := fun _ => fun
  | [d1, d2] => { results := [.lit (.bool true)], args := [d1, d2] }
  | _ => none }
def cessionPartiesRow : OpenClaim := { program := "ytajpkjpaeblgaaagreat", sum := "d756ac9f4143e1d4323556aa6d8fb862bdd72a3e0de12e9cf74dcd9700a001f6", func := "treaty/treatylaw31.CessionParties", spec := "cessionParties", unfollowed := true, recurses := true, named := ["math/bits.divideError", "math/bits.overflowError"], plainKeys := false, apart := false }
def CessionPartiesSaid : Prop := cessionPartiesRow.holds Tryz.pinned (OpenSpec.ofChange cessionPartiesSpec)

/-- ITS FALSE NEIGHBOUR: 'it returns false'. Refute it at one input. -/
def cessionPartiesWrong : ChangeSpec := { name := "cessionParties", fn := fun _ => fun
  | [d1, d2] => { results := [.lit (.bool false)], args := [d1, d2] }
  | _ => none }
def CessionPartiesWrongFalsely : Prop := cessionPartiesRow.holds Tryz.pinned (OpenSpec.ofChange cessionPartiesWrong)

/-- 'treatylaw31.CessionSums': WHATEVER THE INPUT: true; the input reads as it did. -/
def cessionSumsSpec : ChangeSpec := { name := "cessionSums", fn := fun _ => fun
  | [d1, d2] => { results := [.lit (.bool true)], args := [d1, d2] }
  | _ => none }
def cessionSumsRow : OpenClaim := { program := "ytajpkjpaeblgaaagreat", sum := "d756ac9f4143e1d4323556aa6d8fb862bdd72a3e0de12e9cf74dcd9700a001f6", func := "treaty/treatylaw31.CessionSums", spec := "cessionSums", unfollowed := true, recurses := true, named := ["math/bits.divideError", "math/bits.overflowError"], plainKeys := false, apart := false }
def CessionSumsSaid : Prop := cessionSumsRow.holds Tryz.pinned (OpenSpec.ofChange cessionSumsSpec)

/-- ITS FALSE NEIGHBOUR: 'it returns false'. Refute it at one input. -/
def cessionSumsWrong : ChangeSpec := { name := "cessionSums", fn := fun _ => fun
  | [d1, d2] => { results := [.lit (.bool false)], args := [d1, d2] }
  | _ => none }
def CessionSumsWrongFalsely : Prop := cessionSumsRow.holds Tryz.pinned (OpenSpec.ofChange cessionSumsWrong)

/-- 'treatylaw32.RestateLosses': WHATEVER THE INPUT: true; the input reads as it did. -/
def restateLossesSpec : ChangeSpec := { name := "restateLosses", fn := fun _ => fun
  | [d1, d2, d3] => { results := [.lit (.bool true)], args := [d1, d2, d3] }
  | _ => none }
def restateLossesRow : OpenClaim := { program := "ytajpkjpaeblgaaagreat", sum := "d756ac9f4143e1d4323556aa6d8fb862bdd72a3e0de12e9cf74dcd9700a001f6", func := "treaty/treatylaw32.RestateLosses", spec := "restateLosses", unfollowed := true, recurses := true, named := ["math/bits.divideError", "math/bits.overflowError"], plainKeys := false, apart := false }
def RestateLossesSaid : Prop := restateLossesRow.holds Tryz.pinned (OpenSpec.ofChange restateLossesSpec)

/-- ITS FALSE NEIGHBOUR: 'it returns false'. Refute it at one input. -/
def restateLossesWrong : ChangeSpec := { name := "restateLosses", fn := fun _ => fun
  | [d1, d2, d3] => { results := [.lit (.bool false)], args := [d1, d2, d3] }
  | _ => none }
def RestateLossesWrongFalsely : Prop := restateLossesRow.holds Tryz.pinned (OpenSpec.ofChange restateLossesWrong)

/- THE SECOND FORM. 'bulk': how many values and letters a reading holds, each counted each time it is reached (what is shared counts as often as it is met; a slice's spare places count too). A statement '..UptoSaid' is the law's where the arguments, and the package variables that the reading takes, are together of bulk at most 1048576: NARROWER than '..Said'. Prove '..Said' where nothing that the law and all that it calls make is longer than what came in: it says more and counts as full. Else prove '..UptoSaid'. A law counts once. -/
mutual
def uptoBulk {H : Type} : DataW H → Nat
  | .lit (.string bytes) => bytes.length + 1
  | .lit _ => 1
  | .nil => 1
  | .ptr d => uptoBulk d + 1
  | .slice elems spare => uptoBulkAll elems + uptoBulkAll spare + 1
  | .agg parts => uptoBulkAll parts + 1
  | .iface _ d => uptoBulk d + 1
  | .map entries => uptoBulkEntries entries + 1
  | .held _ => 1
def uptoBulkAll {H : Type} : List (DataW H) → Nat
  | [] => 0
  | d :: r => uptoBulk d + uptoBulkAll r
def uptoBulkEntries {H : Type} : List (Lit × DataW H) → Nat
  | [] => 0
  | x :: r => uptoBulkEntry x + uptoBulkEntries r
def uptoBulkEntry {H : Type} : Lit × DataW H → Nat
  | (.string bytes, d) => bytes.length + uptoBulk d + 1
  | (_, d) => uptoBulk d + 1
 end
def uptoSmall : (H : Type) → List (DataW H) → Bool := fun _ ds => decide (uptoBulkAll ds ≤ 1048576)
def OpenSpec.upto (s : _root_.Go.ChangeSpec) : _root_.Go.OpenSpec := { _root_.Go.OpenSpec.ofChange s with cond := some uptoSmall }

/-- 'treatylaw30.ProgrammeAddsUp', WHERE WHAT IT READS IS OF BULK AT MOST 1048576: true; the input reads as it did. -/
def programmeAddsUpUptoRow : OpenClaim := { program := "ytajpkjpaeblgaaagreat", sum := "d756ac9f4143e1d4323556aa6d8fb862bdd72a3e0de12e9cf74dcd9700a001f6", func := "treaty/treatylaw30.ProgrammeAddsUp", spec := "programmeAddsUp", unfollowed := true, recurses := true, named := ["math/bits.divideError", "math/bits.overflowError"], plainKeys := false, apart := false, narrowed := true }
def ProgrammeAddsUpUptoSaid : Prop := programmeAddsUpUptoRow.holds Tryz.pinned (OpenSpec.upto programmeAddsUpSpec)

/-- 'treatylaw30.ProgrammeLimits', WHERE WHAT IT READS IS OF BULK AT MOST 1048576: true; the input reads as it did. -/
def programmeLimitsUptoRow : OpenClaim := { program := "ytajpkjpaeblgaaagreat", sum := "d756ac9f4143e1d4323556aa6d8fb862bdd72a3e0de12e9cf74dcd9700a001f6", func := "treaty/treatylaw30.ProgrammeLimits", spec := "programmeLimits", unfollowed := true, recurses := true, named := ["math/bits.divideError", "math/bits.overflowError"], plainKeys := false, apart := false, narrowed := true }
def ProgrammeLimitsUptoSaid : Prop := programmeLimitsUptoRow.holds Tryz.pinned (OpenSpec.upto programmeLimitsSpec)

/-- 'treatylaw30.ProgrammeStranger', WHERE WHAT IT READS IS OF BULK AT MOST 1048576: true; the input reads as it did. -/
def programmeStrangerUptoRow : OpenClaim := { program := "ytajpkjpaeblgaaagreat", sum := "d756ac9f4143e1d4323556aa6d8fb862bdd72a3e0de12e9cf74dcd9700a001f6", func := "treaty/treatylaw30.ProgrammeStranger", spec := "programmeStranger", unfollowed := true, recurses := true, named := ["math/bits.divideError", "math/bits.overflowError"], plainKeys := false, apart := false, narrowed := true }
def ProgrammeStrangerUptoSaid : Prop := programmeStrangerUptoRow.holds Tryz.pinned (OpenSpec.upto programmeStrangerSpec)

/-- 'treatylaw30.ProgrammeAlone', WHERE WHAT IT READS IS OF BULK AT MOST 1048576: true; the input reads as it did. -/
def programmeAloneUptoRow : OpenClaim := { program := "ytajpkjpaeblgaaagreat", sum := "d756ac9f4143e1d4323556aa6d8fb862bdd72a3e0de12e9cf74dcd9700a001f6", func := "treaty/treatylaw30.ProgrammeAlone", spec := "programmeAlone", unfollowed := true, recurses := true, named := ["math/bits.divideError", "math/bits.overflowError"], plainKeys := false, apart := false, narrowed := true }
def ProgrammeAloneUptoSaid : Prop := programmeAloneUptoRow.holds Tryz.pinned (OpenSpec.upto programmeAloneSpec)

/-- 'treatylaw31.CessionTreaties', WHERE WHAT IT READS IS OF BULK AT MOST 1048576: true; the input reads as it did. -/
def cessionTreatiesUptoRow : OpenClaim := { program := "ytajpkjpaeblgaaagreat", sum := "d756ac9f4143e1d4323556aa6d8fb862bdd72a3e0de12e9cf74dcd9700a001f6", func := "treaty/treatylaw31.CessionTreaties", spec := "cessionTreaties", unfollowed := true, recurses := true, named := ["math/bits.divideError", "math/bits.overflowError"], plainKeys := false, apart := false, narrowed := true }
def CessionTreatiesUptoSaid : Prop := cessionTreatiesUptoRow.holds Tryz.pinned (OpenSpec.upto cessionTreatiesSpec)

/-- 'treatylaw31.CessionSettled', WHERE WHAT IT READS IS OF BULK AT MOST 1048576: true; the input reads as it did. -/
def cessionSettledUptoRow : OpenClaim := { program := "ytajpkjpaeblgaaagreat", sum := "d756ac9f4143e1d4323556aa6d8fb862bdd72a3e0de12e9cf74dcd9700a001f6", func := "treaty/treatylaw31.CessionSettled", spec := "cessionSettled", unfollowed := true, recurses := true, named := ["math/bits.divideError", "math/bits.overflowError"], plainKeys := false, apart := false, narrowed := true }
def CessionSettledUptoSaid : Prop := cessionSettledUptoRow.holds Tryz.pinned (OpenSpec.upto cessionSettledSpec)

/-- 'treatylaw31.CessionParties', WHERE WHAT IT READS IS OF BULK AT MOST 1048576: true; the input reads as it did. -/
def cessionPartiesUptoRow : OpenClaim := { program := "ytajpkjpaeblgaaagreat", sum := "d756ac9f4143e1d4323556aa6d8fb862bdd72a3e0de12e9cf74dcd9700a001f6", func := "treaty/treatylaw31.CessionParties", spec := "cessionParties", unfollowed := true, recurses := true, named := ["math/bits.divideError", "math/bits.overflowError"], plainKeys := false, apart := false, narrowed := true }
def CessionPartiesUptoSaid : Prop := cessionPartiesUptoRow.holds Tryz.pinned (OpenSpec.upto cessionPartiesSpec)

/-- 'treatylaw31.CessionSums', WHERE WHAT IT READS IS OF BULK AT MOST 1048576: true; the input reads as it did. -/
def cessionSumsUptoRow : OpenClaim := { program := "ytajpkjpaeblgaaagreat", sum := "d756ac9f4143e1d4323556aa6d8fb862bdd72a3e0de12e9cf74dcd9700a001f6", func := "treaty/treatylaw31.CessionSums", spec := "cessionSums", unfollowed := true, recurses := true, named := ["math/bits.divideError", "math/bits.overflowError"], plainKeys := false, apart := false, narrowed := true }
def CessionSumsUptoSaid : Prop := cessionSumsUptoRow.holds Tryz.pinned (OpenSpec.upto cessionSumsSpec)

/-- 'treatylaw32.RestateLosses', WHERE WHAT IT READS IS OF BULK AT MOST 1048576: true; the input reads as it did. -/
def restateLossesUptoRow : OpenClaim := { program := "ytajpkjpaeblgaaagreat", sum := "d756ac9f4143e1d4323556aa6d8fb862bdd72a3e0de12e9cf74dcd9700a001f6", func := "treaty/treatylaw32.RestateLosses", spec := "restateLosses", unfollowed := true, recurses := true, named := ["math/bits.divideError", "math/bits.overflowError"], plainKeys := false, apart := false, narrowed := true }
def RestateLossesUptoSaid : Prop := restateLossesUptoRow.holds Tryz.pinned (OpenSpec.upto restateLossesSpec)

end Rows
end Go.Proofs.YtajpkjpaeblgaaaGreat
