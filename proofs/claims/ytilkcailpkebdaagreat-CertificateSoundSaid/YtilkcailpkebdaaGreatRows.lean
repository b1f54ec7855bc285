/-
  No cell of these rows narrows 'for every input' (looked for: loops, veiled, ifaces, maps, wideKeys, modest, calm, conditions, laid).
  DERIVED. THE GIVEN ROWS OF THIS SEAT. 3 by the template 'for every input the law returns true; each argument reads behind the call as it read before'; 0 by the template 'total and deterministic' (their statements: YtilkcailpkebdaaGreatTotals.lean).
  GIVEN WITH THE SEED: the statements are not yours to turn. If you find one false, say at which input.
  Laid BY PROGRAM, IN A SANDBOX (cutbox-rows.mjs): the forced cells as the released guide's own fill.sh prints them over the translation fb1853ce7ec086f1… (all of the seat's roots in one cut). By AI agents, Wed Nov 11 2026. No macro, syntax, notation, axiom, sorry.
-/
import Derived.Test.YtilkcailpkebdaaGreatChecked
import GoSem.Claim
import GoSem.ClaimJoined
import GoSem.ClaimMapViews
import Derived.JoinedTies
import Derived.KernelRfl
namespace Go.Proofs.YtilkcailpkebdaaGreat
/- THE CELL 'sum', in the pinned program and in every row, IS THE sha256 OF THE DUMP (.gsa) THAT YtilkcailpkebdaaGreatProg.lean LOADS. Nothing in Lean hashes anything: it is a label: what it is worth is what the hold of that sum in a sandbox is worth. -/
noncomputable def Tryz.pinned : Pinned := { name := "ytilkcailpkebdaagreat", sum := "fb1853ce7ec086f18c7d20bb082252803efa7b04d81027cf211157d7866e7695", checked := Tryz.checked }
namespace Rows
def none {H : Type} : Left H := { results := [], args := [] }

/-- 'treatylaw26.WindowBest': WHATEVER THE INPUT: true; the input reads as it did. -/
def windowBestSpec : ChangeSpec := { name := "windowBest", fn := fun _ => fun
  | [d1, d2, d3, d4, d5, d6] => { results := [.lit (.bool true)], args := [d1, d2, d3, d4, d5, d6] }
  | _ => none }
def windowBestRow : OpenClaim := { program := "ytilkcailpkebdaagreat", sum := "fb1853ce7ec086f18c7d20bb082252803efa7b04d81027cf211157d7866e7695", func := "treaty/treatylaw26.WindowBest", spec := "windowBest", unfollowed := true, recurses := true, apart := false }
def WindowBestSaid : Prop := windowBestRow.holds Tryz.pinned (OpenSpec.ofChange windowBestSpec)

/-- ITS FALSE NEIGHBOUR: 'it returns false'. Refute it at one input. -/
def windowBestWrong : ChangeSpec := { name := "windowBest", fn := fun _ => fun
  | [d1, d2, d3, d4, d5, d6] => { results := [.lit (.bool false)], args := [d1, d2, d3, d4, d5, d6] }
  | _ => none }
def WindowBestWrongFalsely : Prop := windowBestRow.holds Tryz.pinned (OpenSpec.ofChange windowBestWrong)

/-- 'treatylaw27.CertificateProve': WHATEVER THE INPUT: true; the input reads as it did. -/
def certificateProveSpec : ChangeSpec := { name := "certificateProve", fn := fun _ => fun
  | [d1, d2, d3, d4, d5, d6] => { results := [.lit (.bool true)], args := [d1, d2, d3, d4, d5, d6] }
  | _ => none }
def certificateProveRow : OpenClaim := { program := "ytilkcailpkebdaagreat", sum := "fb1853ce7ec086f18c7d20bb082252803efa7b04d81027cf211157d7866e7695", func := "treaty/treatylaw27.CertificateProve", spec := "certificateProve", unfollowed := true, recurses := true, apart := false }
def CertificateProveSaid : Prop := certificateProveRow.holds Tryz.pinned (OpenSpec.ofChange certificateProveSpec)

/-- ITS FALSE NEIGHBOUR: 'it returns false'. Refute it at one input. -/
def certificateProveWrong : ChangeSpec := { name := "certificateProve", fn := fun _ => fun
  | [d1, d2, d3, d4, d5, d6] => { results := [.lit (.bool false)], args := [d1, d2, d3, d4, d5, d6] }
  | _ => none }
def CertificateProveWrongFalsely : Prop := certificateProveRow.holds Tryz.pinned (OpenSpec.ofChange certificateProveWrong)

/-- 'treatylaw27.CertificateSound': WHATEVER THE INPUT: true; the input reads as it did. -/
def certificateSoundSpec : ChangeSpec := { name := "certificateSound", fn := fun _ => fun
  | [d1, d2, d3, d4, d5] => { results := [.lit (.bool true)], args := [d1, d2, d3, d4, d5] }
  | _ => none }
def certificateSoundRow : OpenClaim := { program := "ytilkcailpkebdaagreat", sum := "fb1853ce7ec086f18c7d20bb082252803efa7b04d81027cf211157d7866e7695", func := "treaty/treatylaw27.CertificateSound", spec := "certificateSound", unfollowed := true, recurses := true, apart := false }
def CertificateSoundSaid : Prop := certificateSoundRow.holds Tryz.pinned (OpenSpec.ofChange certificateSoundSpec)

/-- ITS FALSE NEIGHBOUR: 'it returns false'. Refute it at one input. -/
def certificateSoundWrong : ChangeSpec := { name := "certificateSound", fn := fun _ => fun
  | [d1, d2, d3, d4, d5] => { results := [.lit (.bool false)], args := [d1, d2, d3, d4, d5] }
  | _ => none }
def CertificateSoundWrongFalsely : Prop := certificateSoundRow.holds Tryz.pinned (OpenSpec.ofChange certificateSoundWrong)

/- THE SECOND FORM. 'bulk': how many values and letters a reading holds, each counted each time it is reached (what is shared counts as often as it is met; a slice's spare places count too). A statement '..UptoSaid' is the law's where the arguments, and the package variables that the reading takes, are together of bulk at most 1048576: NARROWER than '..Said'. Prove '..Said' where nothing that the law and all that it calls make is longer than what came in: it says more and counts as full. Else prove '..UptoSaid'. A law counts once. -/
mutual
def uptoBulk {H : Type} : DataW H → Nat
  | .lit (.string bytes) => bytes.length + 1
  | .lit _ => 1
  | .nil => 1
  | .ptr d => uptoBulk d + 1
  | .slice elems spare => uptoBulkAll elems + uptoBulkAll spare + 1
  | .agg parts => uptoBulkAll parts + 1
  | .iface _ d => uptoBulk d + 1
  | .map entries => uptoBulkEntries entries + 1
  | .held _ => 1
def uptoBulkAll {H : Type} : List (DataW H) → Nat
  | [] => 0
  | d :: r => uptoBulk d + uptoBulkAll r
def uptoBulkEntries {H : Type} : List (Lit × DataW H) → Nat
  | [] => 0
  | x :: r => uptoBulkEntry x + uptoBulkEntries r
def uptoBulkEntry {H : Type} : Lit × DataW H → Nat
  | (.string bytes, d) => bytes.length + uptoBulk d + 1
  | (_, d) => uptoBulk d + 1
 end
def uptoSmall : (H : Type) → List (DataW H) → Bool := fun _ ds => decide (uptoBulkAll ds ≤ 1048576)
def OpenSpec.upto (s : _root_.Go.ChangeSpec) : _root_.Go.OpenSpec := { _root_.Go.OpenSpec.ofChange s with cond := some uptoSmall }

/-- 'treatylaw26.WindowBest', WHERE WHAT IT READS IS OF BULK AT MOST 1048576: true; the input reads as it did. -/
def windowBestUptoRow : OpenClaim := { program := "ytilkcailpkebdaagreat", sum := "fb1853ce7ec086f18c7d20bb082252803efa7b04d81027cf211157d7866e7695", func := "treaty/treatylaw26.WindowBest", spec := "windowBest", unfollowed := true, recurses := true, apart := false, narrowed := true }
def WindowBestUptoSaid : Prop := windowBestUptoRow.holds Tryz.pinned (OpenSpec.upto windowBestSpec)

/-- 'treatylaw27.CertificateProve', WHERE WHAT IT READS IS OF BULK AT MOST 1048576: true; the input reads as it did. -/
def certificateProveUptoRow : OpenClaim := { program := "ytilkcailpkebdaagreat", sum := "fb1853ce7ec086f18c7d20bb082252803efa7b04d81027cf211157d7866e7695", func := "treaty/treatylaw27.CertificateProve", spec := "certificateProve", unfollowed := true, recurses := true, apart := false, narrowed := true }
def CertificateProveUptoSaid : Prop := certificateProveUptoRow.holds Tryz.pinned (OpenSpec.upto certificateProveSpec)

/-- 'treatylaw27.CertificateSound', WHERE WHAT IT READS IS OF BULK AT MOST 1048576: true; the input reads as it did. -/
def certificateSoundUptoRow : OpenClaim := { program := "ytilkcailpkebdaagreat", sum := "fb1853ce7ec086f18c7d20bb082252803efa7b04d81027cf211157d7866e7695", func := "treaty/treatylaw27.CertificateSound", spec := "certificateSound", unfollowed := true, recurses := true, apart := false, narrowed := true }
def CertificateSoundUptoSaid : Prop := certificateSoundUptoRow.holds Tryz.pinned (OpenSpec.upto certificateSoundSpec)

end Rows
end Go.Proofs.YtilkcailpkebdaaGreat
