/-
  No cell of these rows narrows 'for every input' (looked for: loops, veiled, ifaces, maps, wideKeys, modest, calm, conditions, laid).
  DERIVED. THE GIVEN ROWS OF THIS SEAT. 8 by the template 'for every input the law returns true; each argument reads behind the call as it read before'; 0 by the template 'total and deterministic' (their statements: YtbhgllalfgdhpaaGreatTotals.lean).
  GIVEN WITH THE SEED: the statements are not yours to turn. If you find one false, say at which input.
  Laid BY PROGRAM, IN A SANDBOX (cutbox-rows.mjs): the forced cells as the released guide's own fill.sh prints them over the translation 6c431ab24834a533… (all of the seat's roots in one cut). By AI agents, Wed Nov 11 2026. No macro, syntax, notation, axiom, sorry.
-/
import Derived.Test.YtbhgllalfgdhpaaGreatChecked
import GoSem.Claim
import GoSem.ClaimJoined
import GoSem.ClaimMapViews
import Derived.JoinedTies
import Derived.KernelRfl
namespace Go.Proofs.YtbhgllalfgdhpaaGreat
/- THE CELL 'sum', in the pinned program and in every row, IS THE sha256 OF THE DUMP (.gsa) THAT YtbhgllalfgdhpaaGreatProg.lean LOADS. Nothing in Lean hashes anything: it is a label: what it is worth is what the hold of that sum in a sandbox is worth. -/
noncomputable def Tryz.pinned : Pinned := { name := "ytbhgllalfgdhpaagreat", sum := "6c431ab24834a533467f10c885afec029d05e9e3a38a412814c35205b6aa2cfb", checked := Tryz.checked }
namespace Rows
def none {H : Type} : Left H := { results := [], args := [] }

/-- 'treatylaw30.ProgrammeStranger': WHATEVER THE INPUT: true; the input reads as it did. -/
def programmeStrangerSpec : ChangeSpec := { name := "programmeStranger", fn := fun _ => fun
  | [d1, d2, d3] => { results := [.lit (.bool true)], args := [d1, d2, d3] }
  | _ => none }
def programmeStrangerRow : OpenClaim := { program := "ytbhgllalfgdhpaagreat", sum := "6c431ab24834a533467f10c885afec029d05e9e3a38a412814c35205b6aa2cfb", func := "treaty/treatylaw30.ProgrammeStranger", spec := "programmeStranger", unfollowed := true, recurses := true, named := ["math/bits.divideError", "math/bits.overflowError"], plainKeys := false, apart := false }
def ProgrammeStrangerSaid : Prop := programmeStrangerRow.holds Tryz.pinned (OpenSpec.ofChange programmeStrangerSpec)

/-- ITS FALSE NEIGHBOUR: 'it returns false'. Refute it at one input. -/
def programmeStrangerWrong : ChangeSpec := { name := "programmeStranger", fn := fun _ => fun
  | [d1, d2, d3] => { results := [.lit (.bool false)], args := [d1, d2, d3] }
  | _ => none }
def ProgrammeStrangerWrongFalsely : Prop := programmeStrangerRow.holds Tryz.pinned (OpenSpec.ofChange programmeStrangerWrong)

/-- 'treatylaw30.ProgrammeAlone': WHATEVER THE INPUT: true; the input reads as it did. -/
def programmeAloneSpec : ChangeSpec := { name := "programmeAlone", fn := fun _ => fun
  | [d1, d2, d3] => { results := [.lit (.bool true)], args := [d1, d2, d3] }
  | _ => none }
def programmeAloneRow : OpenClaim := { program := "ytbhgllalfgdhpaagreat", sum := "6c431ab24834a533467f10c885afec029d05e9e3a38a412814c35205b6aa2cfb", func := "treaty/treatylaw30.ProgrammeAlone", spec := "programmeAlone", unfollowed := true, recurses := true, named := ["math/bits.divideError", "math/bits.overflowError"], plainKeys := false, apart := false }
def ProgrammeAloneSaid : Prop := programmeAloneRow.holds Tryz.pinned (OpenSpec.ofChange programmeAloneSpec)

/-- ITS FALSE NEIGHBOUR: 'it returns false'. Refute it at one input. -/
def programmeAloneWrong : ChangeSpec := { name := "programmeAlone", fn := fun _ => fun
  | [d1, d2, d3] => { results := [.lit (.bool false)], args := [d1, d2, d3] }
  | _ => none }
def ProgrammeAloneWrongFalsely : Prop := programmeAloneRow.holds Tryz.pinned (OpenSpec.ofChange programmeAloneWrong)

/-- 'treatylaw30.ProgrammeAmounts': WHATEVER THE INPUT: true; the input reads as it did. -/
def programmeAmountsSpec : ChangeSpec := { name := "programmeAmounts", fn := fun _ => fun
  | [d1, d2, d3, d4] => { results := [.lit (.bool true)], args := [d1, d2, d3, d4] }
  | _ => none }
def programmeAmountsRow : OpenClaim := { program := "ytbhgllalfgdhpaagreat", sum := "6c431ab24834a533467f10c885afec029d05e9e3a38a412814c35205b6aa2cfb", func := "treaty/treatylaw30.ProgrammeAmounts", spec := "programmeAmounts", unfollowed := true, recurses := true, named := ["math/bits.divideError", "math/bits.overflowError"], plainKeys := false, apart := false }
def ProgrammeAmountsSaid : Prop := programmeAmountsRow.holds Tryz.pinned (OpenSpec.ofChange programmeAmountsSpec)

/-- ITS FALSE NEIGHBOUR: 'it returns false'. Refute it at one input. -/
def programmeAmountsWrong : ChangeSpec := { name := "programmeAmounts", fn := fun _ => fun
  | [d1, d2, d3, d4] => { results := [.lit (.bool false)], args := [d1, d2, d3, d4] }
  | _ => none }
def ProgrammeAmountsWrongFalsely : Prop := programmeAmountsRow.holds Tryz.pinned (OpenSpec.ofChange programmeAmountsWrong)

/-- 'treatylaw30.ProgrammeAccepts': WHATEVER THE INPUT: true; the input reads as it did. -/
def programmeAcceptsSpec : ChangeSpec := { name := "programmeAccepts", fn := fun _ => fun
  | [d1, d2] => { results := [.lit (.bool true)], args := [d1, d2] }
  | _ => none }
def programmeAcceptsRow : OpenClaim := { program := "ytbhgllalfgdhpaagreat", sum := "6c431ab24834a533467f10c885afec029d05e9e3a38a412814c35205b6aa2cfb", func := "treaty/treatylaw30.ProgrammeAccepts", spec := "programmeAccepts", unfollowed := true, recurses := true, named := ["math/bits.divideError", "math/bits.overflowError"], plainKeys := false, apart := false }
def ProgrammeAcceptsSaid : Prop := programmeAcceptsRow.holds Tryz.pinned (OpenSpec.ofChange programmeAcceptsSpec)

/-- ITS FALSE NEIGHBOUR: 'it returns false'. Refute it at one input. -/
def programmeAcceptsWrong : ChangeSpec := { name := "programmeAccepts", fn := fun _ => fun
  | [d1, d2] => { results := [.lit (.bool false)], args := [d1, d2] }
  | _ => none }
def ProgrammeAcceptsWrongFalsely : Prop := programmeAcceptsRow.holds Tryz.pinned (OpenSpec.ofChange programmeAcceptsWrong)

/-- 'treatylaw31.CessionDivide': WHATEVER THE INPUT: true; the input reads as it did. -/
def cessionDivideSpec : ChangeSpec := { name := "cessionDivide", fn := fun _ => fun
  | [d1, d2, d3, d4] => { results := [.lit (.bool true)], args := [d1, d2, d3, d4] }
  | _ => none }
def cessionDivideRow : OpenClaim := { program := "ytbhgllalfgdhpaagreat", sum := "6c431ab24834a533467f10c885afec029d05e9e3a38a412814c35205b6aa2cfb", func := "treaty/treatylaw31.CessionDivide", spec := "cessionDivide", unfollowed := true, recurses := true, named := ["math/bits.divideError", "math/bits.overflowError"], plainKeys := false, apart := false }
def CessionDivideSaid : Prop := cessionDivideRow.holds Tryz.pinned (OpenSpec.ofChange cessionDivideSpec)

/-- ITS FALSE NEIGHBOUR: 'it returns false'. Refute it at one input. -/
def cessionDivideWrong : ChangeSpec := { name := "cessionDivide", fn := fun _ => fun
  | [d1, d2, d3, d4] => { results := [.lit (.bool false)], args := [d1, d2, d3, d4] }
  | _ => none }
def CessionDivideWrongFalsely : Prop := cessionDivideRow.holds Tryz.pinned (OpenSpec.ofChange cessionDivideWrong)

/-- 'treatylaw31.CessionParties': WHATEVER THE INPUT: true; the input reads as it did. -/
def cessionPartiesSpec : ChangeSpec := { name := "cessionParties", fn := fun _ => fun
  | [d1, d2] => { results := [.lit (.bool true)], args := [d1, d2] }
  | _ => none }
def cessionPartiesRow : OpenClaim := { program := "ytbhgllalfgdhpaagreat", sum := "6c431ab24834a533467f10c885afec029d05e9e3a38a412814c35205b6aa2cfb", func := "treaty/treatylaw31.CessionParties", spec := "cessionParties", unfollowed := true, recurses := true, named := ["math/bits.divideError", "math/bits.overflowError"], plainKeys := false, apart := false }
def CessionPartiesSaid : Prop := cessionPartiesRow.holds Tryz.pinned (OpenSpec.ofChange cessionPartiesSpec)

/-- ITS FALSE NEIGHBOUR: 'it returns false'. Refute it at one input. -/
def cessionPartiesWrong : ChangeSpec := { name := "cessionParties", fn := fun _ => fun
  | [d1, d2] => { results := [.lit (.bool false)], args := [d1, d2] }
  | _ => none }
def CessionPartiesWrongFalsely : Prop := cessionPartiesRow.holds Tryz.pinned (OpenSpec.ofChange cessionPartiesWrong)

/-- 'treatylaw31.CessionValidate': WHATEVER THE INPUT: true; the input reads as it did. -/
def cessionValidateSpec : ChangeSpec := { name := "cessionValidate", fn := fun _ => fun
  | [d1, d2, d3, d4, d5] => { results := [.lit (.bool true)], args := [d1, d2, d3, d4, d5] }
  | _ => none }
def cessionValidateRow : OpenClaim := { program := "ytbhgllalfgdhpaagreat", sum := "6c431ab24834a533467f10c885afec029d05e9e3a38a412814c35205b6aa2cfb", func := "treaty/treatylaw31.CessionValidate", spec := "cessionValidate", unfollowed := true, recurses := true, named := ["math/bits.divideError", "math/bits.overflowError"], plainKeys := false, apart := false }
def CessionValidateSaid : Prop := cessionValidateRow.holds Tryz.pinned (OpenSpec.ofChange cessionValidateSpec)

/-- ITS FALSE NEIGHBOUR: 'it returns false'. Refute it at one input. -/
def cessionValidateWrong : ChangeSpec := { name := "cessionValidate", fn := fun _ => fun
  | [d1, d2, d3, d4, d5] => { results := [.lit (.bool false)], args := [d1, d2, d3, d4, d5] }
  | _ => none }
def CessionValidateWrongFalsely : Prop := cessionValidateRow.holds Tryz.pinned (OpenSpec.ofChange cessionValidateWrong)

/-- 'treatylaw32.RestateLosses': WHATEVER THE INPUT: true; the input reads as it did. -/
def restateLossesSpec : ChangeSpec := { name := "restateLosses", fn := fun _ => fun
  | [d1, d2, d3] => { results := [.lit (.bool true)], args := [d1, d2, d3] }
  | _ => none }
def restateLossesRow : OpenClaim := { program := "ytbhgllalfgdhpaagreat", sum := "6c431ab24834a533467f10c885afec029d05e9e3a38a412814c35205b6aa2cfb", func := "treaty/treatylaw32.RestateLosses", spec := "restateLosses", unfollowed := true, recurses := true, named := ["math/bits.divideError", "math/bits.overflowError"], plainKeys := false, apart := false }
def RestateLossesSaid : Prop := restateLossesRow.holds Tryz.pinned (OpenSpec.ofChange restateLossesSpec)

/-- ITS FALSE NEIGHBOUR: 'it returns false'. Refute it at one input. -/
def restateLossesWrong : ChangeSpec := { name := "restateLosses", fn := fun _ => fun
  | [d1, d2, d3] => { results := [.lit (.bool false)], args := [d1, d2, d3] }
  | _ => none }
def RestateLossesWrongFalsely : Prop := restateLossesRow.holds Tryz.pinned (OpenSpec.ofChange restateLossesWrong)

/- THE SECOND FORM. 'bulk': how many values and letters a reading holds, each counted each time it is reached (what is shared counts as often as it is met; a slice's spare places count too). A statement '..UptoSaid' is the law's where the arguments, and the package variables that the reading takes, are together of bulk at most 1048576: NARROWER than '..Said'. Prove '..Said' where nothing that the law and all that it calls make is longer than what came in: it says more and counts as full. Else prove '..UptoSaid'. A law counts once. -/
mutual
def uptoBulk {H : Type} : DataW H → Nat
  | .lit (.string bytes) => bytes.length + 1
  | .lit _ => 1
  | .nil => 1
  | .ptr d => uptoBulk d + 1
  | .slice elems spare => uptoBulkAll elems + uptoBulkAll spare + 1
  | .agg parts => uptoBulkAll parts + 1
  | .iface _ d => uptoBulk d + 1
  | .map entries => uptoBulkEntries entries + 1
  | .held _ => 1
def uptoBulkAll {H : Type} : List (DataW H) → Nat
  | [] => 0
  | d :: r => uptoBulk d + uptoBulkAll r
def uptoBulkEntries {H : Type} : List (Lit × DataW H) → Nat
  | [] => 0
  | x :: r => uptoBulkEntry x + uptoBulkEntries r
def uptoBulkEntry {H : Type} : Lit × DataW H → Nat
  | (.string bytes, d) => bytes.length + uptoBulk d + 1
  | (_, d) => uptoBulk d + 1
 end
def uptoSmall : (H : Type) → List (DataW H) → Bool := fun _ ds => decide (uptoBulkAll ds ≤ 1048576)
def OpenSpec.upto (s : _root_.Go.ChangeSpec) : _root_.Go.OpenSpec := { _root_.Go.OpenSpec.ofChange s with cond := some uptoSmall }

/-- 'treatylaw30.ProgrammeStranger', WHERE WHAT IT READS IS OF BULK AT MOST 1048576: true; the input reads as it did. -/
def programmeStrangerUptoRow : OpenClaim := { program := "ytbhgllalfgdhpaagreat", sum := "6c431ab24834a533467f10c885afec029d05e9e3a38a412814c35205b6aa2cfb", func := "treaty/treatylaw30.ProgrammeStranger", spec := "programmeStranger", unfollowed := true, recurses := true, named := ["math/bits.divideError", "math/bits.overflowError"], plainKeys := false, apart := false, narrowed := true }
def ProgrammeStrangerUptoSaid : Prop := programmeStrangerUptoRow.holds Tryz.pinned (OpenSpec.upto programmeStrangerSpec)

/-- 'treatylaw30.ProgrammeAlone', WHERE WHAT IT READS IS OF BULK AT MOST 1048576: true; the input reads as it did. -/
def programmeAloneUptoRow : OpenClaim := { program := "ytbhgllalfgdhpaagreat", sum := "6c431ab24834a533467f10c885afec029d05e9e3a38a412814c35205b6aa2cfb", func := "treaty/treatylaw30.ProgrammeAlone", spec := "programmeAlone", unfollowed := true, recurses := true, named := ["math/bits.divideError", "math/bits.overflowError"], plainKeys := false, apart := false, narrowed := true }
def ProgrammeAloneUptoSaid : Prop := programmeAloneUptoRow.holds Tryz.pinned (OpenSpec.upto programmeAloneSpec)

/-- 'treatylaw30.ProgrammeAmounts', WHERE WHAT IT READS IS OF BULK AT MOST 1048576: true; the input reads as it did. -/
def programmeAmountsUptoRow : OpenClaim := { program := "ytbhgllalfgdhpaagreat", sum := "6c431ab24834a533467f10c885afec029d05e9e3a38a412814c35205b6aa2cfb", func := "treaty/treatylaw30.ProgrammeAmounts", spec := "programmeAmounts", unfollowed := true, recurses := true, named := ["math/bits.divideError", "math/bits.overflowError"], plainKeys := false, apart := false, narrowed := true }
def ProgrammeAmountsUptoSaid : Prop := programmeAmountsUptoRow.holds Tryz.pinned (OpenSpec.upto programmeAmountsSpec)

/-- 'treatylaw30.ProgrammeAccepts', WHERE WHAT IT READS IS OF BULK AT MOST 1048576: true; the input reads as it did. -/
def programmeAcceptsUptoRow : OpenClaim := { program := "ytbhgllalfgdhpaagreat", sum := "6c431ab24834a533467f10c885afec029d05e9e3a38a412814c35205b6aa2cfb", func := "treaty/treatylaw30.ProgrammeAccepts", spec := "programmeAccepts", unfollowed := true, recurses := true, named := ["math/bits.divideError", "math/bits.overflowError"], plainKeys := false, apart := false, narrowed := true }
def ProgrammeAcceptsUptoSaid : Prop := programmeAcceptsUptoRow.holds Tryz.pinned (OpenSpec.upto programmeAcceptsSpec)

/-- 'treatylaw31.CessionDivide', WHERE WHAT IT READS IS OF BULK AT MOST 1048576: true; the input reads as it did. -/
def cessionDivideUptoRow : OpenClaim := { program := "ytbhgllalfgdhpaagreat", sum := "6c431ab24834a533467f10c885afec029d05e9e3a38a412814c35205b6aa2cfb", func := "treaty/treatylaw31.CessionDivide", spec := "cessionDivide", unfollowed := true, recurses := true, named := ["math/bits.divideError", "math/bits.overflowError"], plainKeys := false, apart := false, narrowed := true }
def CessionDivideUptoSaid : Prop := cessionDivideUptoRow.holds Tryz.pinned (OpenSpec.upto cessionDivideSpec)

/-- 'treatylaw31.CessionParties', WHERE WHAT IT READS IS OF BULK AT MOST 1048576: true; the input reads as it did. -/
def cessionPartiesUptoRow : OpenClaim := { program := "ytbhgllalfgdhpaagreat", sum := "6c431ab24834a533467f10c885afec029d05e9e3a38a412814c35205b6aa2cfb", func := "treaty/treatylaw31.CessionParties", spec := "cessionParties", unfollowed := true, recurses := true, named := ["math/bits.divideError", "math/bits.overflowError"], plainKeys := false, apart := false, narrowed := true }
def CessionPartiesUptoSaid : Prop := cessionPartiesUptoRow.holds Tryz.pinned (OpenSpec.upto cessionPartiesSpec)

/-- 'treatylaw31.CessionValidate', WHERE WHAT IT READS IS OF BULK AT MOST 1048576: true; the input reads as it did. -/
def cessionValidateUptoRow : OpenClaim := { program := "ytbhgllalfgdhpaagreat", sum := "6c431ab24834a533467f10c885afec029d05e9e3a38a412814c35205b6aa2cfb", func := "treaty/treatylaw31.CessionValidate", spec := "cessionValidate", unfollowed := true, recurses := true, named := ["math/bits.divideError", "math/bits.overflowError"], plainKeys := false, apart := false, narrowed := true }
def CessionValidateUptoSaid : Prop := cessionValidateUptoRow.holds Tryz.pinned (OpenSpec.upto cessionValidateSpec)

/-- 'treatylaw32.RestateLosses', WHERE WHAT IT READS IS OF BULK AT MOST 1048576: true; the input reads as it did. -/
def restateLossesUptoRow : OpenClaim := { program := "ytbhgllalfgdhpaagreat", sum := "6c431ab24834a533467f10c885afec029d05e9e3a38a412814c35205b6aa2cfb", func := "treaty/treatylaw32.RestateLosses", spec := "restateLosses", unfollowed := true, recurses := true, named := ["math/bits.divideError", "math/bits.overflowError"], plainKeys := false, apart := false, narrowed := true }
def RestateLossesUptoSaid : Prop := restateLossesUptoRow.holds Tryz.pinned (OpenSpec.upto restateLossesSpec)

end Rows
end Go.Proofs.YtbhgllalfgdhpaaGreat
