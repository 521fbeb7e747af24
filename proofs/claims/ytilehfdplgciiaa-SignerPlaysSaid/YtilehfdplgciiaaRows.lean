/-
  No cell of these rows narrows 'for every input' (looked for: loops, veiled, ifaces, maps, wideKeys, modest, calm, conditions, laid).
  DERIVED. THE GIVEN ROWS OF THIS SEAT. 18 by the template 'for every input the law returns true; each argument reads behind the call as it read before'; 0 by the template 'total and deterministic' (their statements: YtilehfdplgciiaaTotals.lean).
  GIVEN WITH THE SEED: the statements are not yours to turn. If you find one false, say at which input.
  Laid BY PROGRAM, IN A SANDBOX (cutbox-rows.mjs): the forced cells as the released guide's own fill.sh prints them over the translation 690deea6a4f45237… (all of the seat's roots in one cut). By AI agents, Wed Nov 11 2026. No macro, syntax, notation, axiom, sorry.
-/
import Derived.Test.YtilehfdplgciiaaChecked
import GoSem.Claim
import GoSem.ClaimJoined
import GoSem.ClaimMapViews
import Derived.JoinedTies
import Derived.KernelRfl
namespace Go.Proofs.Ytilehfdplgciiaa
/- THE CELL 'sum', in the pinned program and in every row, IS THE sha256 OF THE DUMP (.gsa) THAT YtilehfdplgciiaaProg.lean LOADS. Nothing in Lean hashes anything: it is a label: what it is worth is what the hold of that sum in a sandbox is worth. -/
noncomputable def Try.pinned : Pinned := { name := "ytilehfdplgciiaa", sum := "690deea6a4f452372944bd749c7b3dd221c87eae83176f345a80659d7f148356", checked := Try.checked }
namespace Rows
def none {H : Type} : Left H := { results := [], args := [] }

/-- 'certpathlaw11.OtsDigits': WHATEVER THE INPUT: true; the input reads as it did. -/
def otsDigitsSpec : ChangeSpec := { name := "otsDigits", fn := fun _ => fun
  | [d1, d2] => { results := [.lit (.bool true)], args := [d1, d2] }
  | _ => none }
def otsDigitsRow : OpenClaim := { program := "ytilehfdplgciiaa", sum := "690deea6a4f452372944bd749c7b3dd221c87eae83176f345a80659d7f148356", func := "certpath/certpathlaw11.OtsDigits", spec := "otsDigits", apart := false }
def OtsDigitsSaid : Prop := otsDigitsRow.holds Try.pinned (OpenSpec.ofChange otsDigitsSpec)

/-- ITS FALSE NEIGHBOUR: 'it returns false'. Refute it at one input. -/
def otsDigitsWrong : ChangeSpec := { name := "otsDigits", fn := fun _ => fun
  | [d1, d2] => { results := [.lit (.bool false)], args := [d1, d2] }
  | _ => none }
def OtsDigitsWrongFalsely : Prop := otsDigitsRow.holds Try.pinned (OpenSpec.ofChange otsDigitsWrong)

/-- 'certpathlaw11.OtsApart': WHATEVER THE INPUT: true; the input reads as it did. -/
def otsApartSpec : ChangeSpec := { name := "otsApart", fn := fun _ => fun
  | [d1, d2, d3, d4, d5] => { results := [.lit (.bool true)], args := [d1, d2, d3, d4, d5] }
  | _ => none }
def otsApartRow : OpenClaim := { program := "ytilehfdplgciiaa", sum := "690deea6a4f452372944bd749c7b3dd221c87eae83176f345a80659d7f148356", func := "certpath/certpathlaw11.OtsApart", spec := "otsApart", apart := false }
def OtsApartSaid : Prop := otsApartRow.holds Try.pinned (OpenSpec.ofChange otsApartSpec)

/-- ITS FALSE NEIGHBOUR: 'it returns false'. Refute it at one input. -/
def otsApartWrong : ChangeSpec := { name := "otsApart", fn := fun _ => fun
  | [d1, d2, d3, d4, d5] => { results := [.lit (.bool false)], args := [d1, d2, d3, d4, d5] }
  | _ => none }
def OtsApartWrongFalsely : Prop := otsApartRow.holds Try.pinned (OpenSpec.ofChange otsApartWrong)

/-- 'certpathlaw11.OtsRecover': WHATEVER THE INPUT: true; the input reads as it did. -/
def otsRecoverSpec : ChangeSpec := { name := "otsRecover", fn := fun _ => fun
  | [d1, d2, d3, d4, d5] => { results := [.lit (.bool true)], args := [d1, d2, d3, d4, d5] }
  | _ => none }
def otsRecoverRow : OpenClaim := { program := "ytilehfdplgciiaa", sum := "690deea6a4f452372944bd749c7b3dd221c87eae83176f345a80659d7f148356", func := "certpath/certpathlaw11.OtsRecover", spec := "otsRecover", apart := false }
def OtsRecoverSaid : Prop := otsRecoverRow.holds Try.pinned (OpenSpec.ofChange otsRecoverSpec)

/-- ITS FALSE NEIGHBOUR: 'it returns false'. Refute it at one input. -/
def otsRecoverWrong : ChangeSpec := { name := "otsRecover", fn := fun _ => fun
  | [d1, d2, d3, d4, d5] => { results := [.lit (.bool false)], args := [d1, d2, d3, d4, d5] }
  | _ => none }
def OtsRecoverWrongFalsely : Prop := otsRecoverRow.holds Try.pinned (OpenSpec.ofChange otsRecoverWrong)

/-- 'certpathlaw11.OtsPublic': WHATEVER THE INPUT: true; the input reads as it did. -/
def otsPublicSpec : ChangeSpec := { name := "otsPublic", fn := fun _ => fun
  | [d1, d2, d3] => { results := [.lit (.bool true)], args := [d1, d2, d3] }
  | _ => none }
def otsPublicRow : OpenClaim := { program := "ytilehfdplgciiaa", sum := "690deea6a4f452372944bd749c7b3dd221c87eae83176f345a80659d7f148356", func := "certpath/certpathlaw11.OtsPublic", spec := "otsPublic", apart := false }
def OtsPublicSaid : Prop := otsPublicRow.holds Try.pinned (OpenSpec.ofChange otsPublicSpec)

/-- ITS FALSE NEIGHBOUR: 'it returns false'. Refute it at one input. -/
def otsPublicWrong : ChangeSpec := { name := "otsPublic", fn := fun _ => fun
  | [d1, d2, d3] => { results := [.lit (.bool false)], args := [d1, d2, d3] }
  | _ => none }
def OtsPublicWrongFalsely : Prop := otsPublicRow.holds Try.pinned (OpenSpec.ofChange otsPublicWrong)

/-- 'certpathlaw11.OtsSign': WHATEVER THE INPUT: true; the input reads as it did. -/
def otsSignSpec : ChangeSpec := { name := "otsSign", fn := fun _ => fun
  | [d1, d2, d3] => { results := [.lit (.bool true)], args := [d1, d2, d3] }
  | _ => none }
def otsSignRow : OpenClaim := { program := "ytilehfdplgciiaa", sum := "690deea6a4f452372944bd749c7b3dd221c87eae83176f345a80659d7f148356", func := "certpath/certpathlaw11.OtsSign", spec := "otsSign", apart := false }
def OtsSignSaid : Prop := otsSignRow.holds Try.pinned (OpenSpec.ofChange otsSignSpec)

/-- ITS FALSE NEIGHBOUR: 'it returns false'. Refute it at one input. -/
def otsSignWrong : ChangeSpec := { name := "otsSign", fn := fun _ => fun
  | [d1, d2, d3] => { results := [.lit (.bool false)], args := [d1, d2, d3] }
  | _ => none }
def OtsSignWrongFalsely : Prop := otsSignRow.holds Try.pinned (OpenSpec.ofChange otsSignWrong)

/-- 'certpathlaw11.OtsErrors': WHATEVER THE INPUT: true; the input reads as it did. -/
def otsErrorsSpec : ChangeSpec := { name := "otsErrors", fn := fun _ => fun
  | [d1, d2, d3, d4, d5, d6] => { results := [.lit (.bool true)], args := [d1, d2, d3, d4, d5, d6] }
  | _ => none }
def otsErrorsRow : OpenClaim := { program := "ytilehfdplgciiaa", sum := "690deea6a4f452372944bd749c7b3dd221c87eae83176f345a80659d7f148356", func := "certpath/certpathlaw11.OtsErrors", spec := "otsErrors", apart := false }
def OtsErrorsSaid : Prop := otsErrorsRow.holds Try.pinned (OpenSpec.ofChange otsErrorsSpec)

/-- ITS FALSE NEIGHBOUR: 'it returns false'. Refute it at one input. -/
def otsErrorsWrong : ChangeSpec := { name := "otsErrors", fn := fun _ => fun
  | [d1, d2, d3, d4, d5, d6] => { results := [.lit (.bool false)], args := [d1, d2, d3, d4, d5, d6] }
  | _ => none }
def OtsErrorsWrongFalsely : Prop := otsErrorsRow.holds Try.pinned (OpenSpec.ofChange otsErrorsWrong)

/-- 'certpathlaw11.OtsBack': WHATEVER THE INPUT: true; the input reads as it did. -/
def otsBackSpec : ChangeSpec := { name := "otsBack", fn := fun _ => fun
  | [d1, d2, d3] => { results := [.lit (.bool true)], args := [d1, d2, d3] }
  | _ => none }
def otsBackRow : OpenClaim := { program := "ytilehfdplgciiaa", sum := "690deea6a4f452372944bd749c7b3dd221c87eae83176f345a80659d7f148356", func := "certpath/certpathlaw11.OtsBack", spec := "otsBack", apart := false }
def OtsBackSaid : Prop := otsBackRow.holds Try.pinned (OpenSpec.ofChange otsBackSpec)

/-- ITS FALSE NEIGHBOUR: 'it returns false'. Refute it at one input. -/
def otsBackWrong : ChangeSpec := { name := "otsBack", fn := fun _ => fun
  | [d1, d2, d3] => { results := [.lit (.bool false)], args := [d1, d2, d3] }
  | _ => none }
def OtsBackWrongFalsely : Prop := otsBackRow.holds Try.pinned (OpenSpec.ofChange otsBackWrong)

/-- 'certpathlaw13.SignerLoad': WHATEVER THE INPUT: true; the input reads as it did. -/
def signerLoadSpec : ChangeSpec := { name := "signerLoad", fn := fun _ => fun
  | [d1, d2, d3, d4] => { results := [.lit (.bool true)], args := [d1, d2, d3, d4] }
  | _ => none }
def signerLoadRow : OpenClaim := { program := "ytilehfdplgciiaa", sum := "690deea6a4f452372944bd749c7b3dd221c87eae83176f345a80659d7f148356", func := "certpath/certpathlaw13.SignerLoad", spec := "signerLoad", apart := false }
def SignerLoadSaid : Prop := signerLoadRow.holds Try.pinned (OpenSpec.ofChange signerLoadSpec)

/-- ITS FALSE NEIGHBOUR: 'it returns false'. Refute it at one input. -/
def signerLoadWrong : ChangeSpec := { name := "signerLoad", fn := fun _ => fun
  | [d1, d2, d3, d4] => { results := [.lit (.bool false)], args := [d1, d2, d3, d4] }
  | _ => none }
def SignerLoadWrongFalsely : Prop := signerLoadRow.holds Try.pinned (OpenSpec.ofChange signerLoadWrong)

/-- 'certpathlaw12.MerkleGenerate': WHATEVER THE INPUT: true; the input reads as it did. -/
def merkleGenerateSpec : ChangeSpec := { name := "merkleGenerate", fn := fun _ => fun
  | [d1, d2] => { results := [.lit (.bool true)], args := [d1, d2] }
  | _ => none }
def merkleGenerateRow : OpenClaim := { program := "ytilehfdplgciiaa", sum := "690deea6a4f452372944bd749c7b3dd221c87eae83176f345a80659d7f148356", func := "certpath/certpathlaw12.MerkleGenerate", spec := "merkleGenerate", apart := false }
def MerkleGenerateSaid : Prop := merkleGenerateRow.holds Try.pinned (OpenSpec.ofChange merkleGenerateSpec)

/-- ITS FALSE NEIGHBOUR: 'it returns false'. Refute it at one input. -/
def merkleGenerateWrong : ChangeSpec := { name := "merkleGenerate", fn := fun _ => fun
  | [d1, d2] => { results := [.lit (.bool false)], args := [d1, d2] }
  | _ => none }
def MerkleGenerateWrongFalsely : Prop := merkleGenerateRow.holds Try.pinned (OpenSpec.ofChange merkleGenerateWrong)

/-- 'certpathlaw12.MerkleErrors': WHATEVER THE INPUT: true; the input reads as it did. -/
def merkleErrorsSpec : ChangeSpec := { name := "merkleErrors", fn := fun _ => fun
  | [d1, d2, d3, d4, d5] => { results := [.lit (.bool true)], args := [d1, d2, d3, d4, d5] }
  | _ => none }
def merkleErrorsRow : OpenClaim := { program := "ytilehfdplgciiaa", sum := "690deea6a4f452372944bd749c7b3dd221c87eae83176f345a80659d7f148356", func := "certpath/certpathlaw12.MerkleErrors", spec := "merkleErrors", apart := false }
def MerkleErrorsSaid : Prop := merkleErrorsRow.holds Try.pinned (OpenSpec.ofChange merkleErrorsSpec)

/-- ITS FALSE NEIGHBOUR: 'it returns false'. Refute it at one input. -/
def merkleErrorsWrong : ChangeSpec := { name := "merkleErrors", fn := fun _ => fun
  | [d1, d2, d3, d4, d5] => { results := [.lit (.bool false)], args := [d1, d2, d3, d4, d5] }
  | _ => none }
def MerkleErrorsWrongFalsely : Prop := merkleErrorsRow.holds Try.pinned (OpenSpec.ofChange merkleErrorsWrong)

/-- 'certpathlaw12.MerkleSign': WHATEVER THE INPUT: true; the input reads as it did. -/
def merkleSignSpec : ChangeSpec := { name := "merkleSign", fn := fun _ => fun
  | [d1, d2, d3, d4] => { results := [.lit (.bool true)], args := [d1, d2, d3, d4] }
  | _ => none }
def merkleSignRow : OpenClaim := { program := "ytilehfdplgciiaa", sum := "690deea6a4f452372944bd749c7b3dd221c87eae83176f345a80659d7f148356", func := "certpath/certpathlaw12.MerkleSign", spec := "merkleSign", apart := false }
def MerkleSignSaid : Prop := merkleSignRow.holds Try.pinned (OpenSpec.ofChange merkleSignSpec)

/-- ITS FALSE NEIGHBOUR: 'it returns false'. Refute it at one input. -/
def merkleSignWrong : ChangeSpec := { name := "merkleSign", fn := fun _ => fun
  | [d1, d2, d3, d4] => { results := [.lit (.bool false)], args := [d1, d2, d3, d4] }
  | _ => none }
def MerkleSignWrongFalsely : Prop := merkleSignRow.holds Try.pinned (OpenSpec.ofChange merkleSignWrong)

/-- 'certpathlaw12.MerkleVerify': WHATEVER THE INPUT: true; the input reads as it did. -/
def merkleVerifySpec : ChangeSpec := { name := "merkleVerify", fn := fun _ => fun
  | [d1, d2, d3, d4, d5, d6] => { results := [.lit (.bool true)], args := [d1, d2, d3, d4, d5, d6] }
  | _ => none }
def merkleVerifyRow : OpenClaim := { program := "ytilehfdplgciiaa", sum := "690deea6a4f452372944bd749c7b3dd221c87eae83176f345a80659d7f148356", func := "certpath/certpathlaw12.MerkleVerify", spec := "merkleVerify", apart := false }
def MerkleVerifySaid : Prop := merkleVerifyRow.holds Try.pinned (OpenSpec.ofChange merkleVerifySpec)

/-- ITS FALSE NEIGHBOUR: 'it returns false'. Refute it at one input. -/
def merkleVerifyWrong : ChangeSpec := { name := "merkleVerify", fn := fun _ => fun
  | [d1, d2, d3, d4, d5, d6] => { results := [.lit (.bool false)], args := [d1, d2, d3, d4, d5, d6] }
  | _ => none }
def MerkleVerifyWrongFalsely : Prop := merkleVerifyRow.holds Try.pinned (OpenSpec.ofChange merkleVerifyWrong)

/-- 'certpathlaw12.MerkleRaw': WHATEVER THE INPUT: true; the input reads as it did. -/
def merkleRawSpec : ChangeSpec := { name := "merkleRaw", fn := fun _ => fun
  | [d1, d2, d3, d4] => { results := [.lit (.bool true)], args := [d1, d2, d3, d4] }
  | _ => none }
def merkleRawRow : OpenClaim := { program := "ytilehfdplgciiaa", sum := "690deea6a4f452372944bd749c7b3dd221c87eae83176f345a80659d7f148356", func := "certpath/certpathlaw12.MerkleRaw", spec := "merkleRaw", apart := false }
def MerkleRawSaid : Prop := merkleRawRow.holds Try.pinned (OpenSpec.ofChange merkleRawSpec)

/-- ITS FALSE NEIGHBOUR: 'it returns false'. Refute it at one input. -/
def merkleRawWrong : ChangeSpec := { name := "merkleRaw", fn := fun _ => fun
  | [d1, d2, d3, d4] => { results := [.lit (.bool false)], args := [d1, d2, d3, d4] }
  | _ => none }
def MerkleRawWrongFalsely : Prop := merkleRawRow.holds Try.pinned (OpenSpec.ofChange merkleRawWrong)

/-- 'certpathlaw12.MerkleBack': WHATEVER THE INPUT: true; the input reads as it did. -/
def merkleBackSpec : ChangeSpec := { name := "merkleBack", fn := fun _ => fun
  | [d1, d2, d3] => { results := [.lit (.bool true)], args := [d1, d2, d3] }
  | _ => none }
def merkleBackRow : OpenClaim := { program := "ytilehfdplgciiaa", sum := "690deea6a4f452372944bd749c7b3dd221c87eae83176f345a80659d7f148356", func := "certpath/certpathlaw12.MerkleBack", spec := "merkleBack", apart := false }
def MerkleBackSaid : Prop := merkleBackRow.holds Try.pinned (OpenSpec.ofChange merkleBackSpec)

/-- ITS FALSE NEIGHBOUR: 'it returns false'. Refute it at one input. -/
def merkleBackWrong : ChangeSpec := { name := "merkleBack", fn := fun _ => fun
  | [d1, d2, d3] => { results := [.lit (.bool false)], args := [d1, d2, d3] }
  | _ => none }
def MerkleBackWrongFalsely : Prop := merkleBackRow.holds Try.pinned (OpenSpec.ofChange merkleBackWrong)

/-- 'certpathlaw13.SignerErrors': WHATEVER THE INPUT: true; the input reads as it did. -/
def signerErrorsSpec : ChangeSpec := { name := "signerErrors", fn := fun _ => fun
  | [d1, d2, d3, d4, d5] => { results := [.lit (.bool true)], args := [d1, d2, d3, d4, d5] }
  | _ => none }
def signerErrorsRow : OpenClaim := { program := "ytilehfdplgciiaa", sum := "690deea6a4f452372944bd749c7b3dd221c87eae83176f345a80659d7f148356", func := "certpath/certpathlaw13.SignerErrors", spec := "signerErrors", apart := false }
def SignerErrorsSaid : Prop := signerErrorsRow.holds Try.pinned (OpenSpec.ofChange signerErrorsSpec)

/-- ITS FALSE NEIGHBOUR: 'it returns false'. Refute it at one input. -/
def signerErrorsWrong : ChangeSpec := { name := "signerErrors", fn := fun _ => fun
  | [d1, d2, d3, d4, d5] => { results := [.lit (.bool false)], args := [d1, d2, d3, d4, d5] }
  | _ => none }
def SignerErrorsWrongFalsely : Prop := signerErrorsRow.holds Try.pinned (OpenSpec.ofChange signerErrorsWrong)

/-- 'certpathlaw13.SignerNever': WHATEVER THE INPUT: true; the input reads as it did. -/
def signerNeverSpec : ChangeSpec := { name := "signerNever", fn := fun _ => fun
  | [d1, d2, d3] => { results := [.lit (.bool true)], args := [d1, d2, d3] }
  | _ => none }
def signerNeverRow : OpenClaim := { program := "ytilehfdplgciiaa", sum := "690deea6a4f452372944bd749c7b3dd221c87eae83176f345a80659d7f148356", func := "certpath/certpathlaw13.SignerNever", spec := "signerNever", apart := false }
def SignerNeverSaid : Prop := signerNeverRow.holds Try.pinned (OpenSpec.ofChange signerNeverSpec)

/-- ITS FALSE NEIGHBOUR: 'it returns false'. Refute it at one input. -/
def signerNeverWrong : ChangeSpec := { name := "signerNever", fn := fun _ => fun
  | [d1, d2, d3] => { results := [.lit (.bool false)], args := [d1, d2, d3] }
  | _ => none }
def SignerNeverWrongFalsely : Prop := signerNeverRow.holds Try.pinned (OpenSpec.ofChange signerNeverWrong)

/-- 'certpathlaw13.SignerPlays': WHATEVER THE INPUT: true; the input reads as it did. -/
def signerPlaysSpec : ChangeSpec := { name := "signerPlays", fn := fun _ => fun
  | [d1, d2, d3] => { results := [.lit (.bool true)], args := [d1, d2, d3] }
  | _ => none }
def signerPlaysRow : OpenClaim := { program := "ytilehfdplgciiaa", sum := "690deea6a4f452372944bd749c7b3dd221c87eae83176f345a80659d7f148356", func := "certpath/certpathlaw13.SignerPlays", spec := "signerPlays", apart := false }
def SignerPlaysSaid : Prop := signerPlaysRow.holds Try.pinned (OpenSpec.ofChange signerPlaysSpec)

/-- ITS FALSE NEIGHBOUR: 'it returns false'. Refute it at one input. -/
def signerPlaysWrong : ChangeSpec := { name := "signerPlays", fn := fun _ => fun
  | [d1, d2, d3] => { results := [.lit (.bool false)], args := [d1, d2, d3] }
  | _ => none }
def SignerPlaysWrongFalsely : Prop := signerPlaysRow.holds Try.pinned (OpenSpec.ofChange signerPlaysWrong)

/-- 'certpathlaw13.SignerVerifies': WHATEVER THE INPUT: true; the input reads as it did. -/
def signerVerifiesSpec : ChangeSpec := { name := "signerVerifies", fn := fun _ => fun
  | [d1, d2, d3] => { results := [.lit (.bool true)], args := [d1, d2, d3] }
  | _ => none }
def signerVerifiesRow : OpenClaim := { program := "ytilehfdplgciiaa", sum := "690deea6a4f452372944bd749c7b3dd221c87eae83176f345a80659d7f148356", func := "certpath/certpathlaw13.SignerVerifies", spec := "signerVerifies", apart := false }
def SignerVerifiesSaid : Prop := signerVerifiesRow.holds Try.pinned (OpenSpec.ofChange signerVerifiesSpec)

/-- ITS FALSE NEIGHBOUR: 'it returns false'. Refute it at one input. -/
def signerVerifiesWrong : ChangeSpec := { name := "signerVerifies", fn := fun _ => fun
  | [d1, d2, d3] => { results := [.lit (.bool false)], args := [d1, d2, d3] }
  | _ => none }
def SignerVerifiesWrongFalsely : Prop := signerVerifiesRow.holds Try.pinned (OpenSpec.ofChange signerVerifiesWrong)

/- THE SECOND FORM. 'bulk': how many values and letters a reading holds, each counted each time it is reached (what is shared counts as often as it is met; a slice's spare places count too). A statement '..UptoSaid' is the law's where the arguments, and the package variables that the reading takes, are together of bulk at most 1048576: NARROWER than '..Said'. Prove '..Said' where nothing that the law and all that it calls make is longer than what came in: it says more and counts as full. Else prove '..UptoSaid'. A law counts once. -/
mutual
def uptoBulk {H : Type} : DataW H → Nat
  | .lit (.string bytes) => bytes.length + 1
  | .lit _ => 1
  | .nil => 1
  | .ptr d => uptoBulk d + 1
  | .slice elems spare => uptoBulkAll elems + uptoBulkAll spare + 1
  | .agg parts => uptoBulkAll parts + 1
  | .iface _ d => uptoBulk d + 1
  | .map entries => uptoBulkEntries entries + 1
  | .held _ => 1
def uptoBulkAll {H : Type} : List (DataW H) → Nat
  | [] => 0
  | d :: r => uptoBulk d + uptoBulkAll r
def uptoBulkEntries {H : Type} : List (Lit × DataW H) → Nat
  | [] => 0
  | x :: r => uptoBulkEntry x + uptoBulkEntries r
def uptoBulkEntry {H : Type} : Lit × DataW H → Nat
  | (.string bytes, d) => bytes.length + uptoBulk d + 1
  | (_, d) => uptoBulk d + 1
 end
def uptoSmall : (H : Type) → List (DataW H) → Bool := fun _ ds => decide (uptoBulkAll ds ≤ 1048576)
def OpenSpec.upto (s : _root_.Go.ChangeSpec) : _root_.Go.OpenSpec := { _root_.Go.OpenSpec.ofChange s with cond := some uptoSmall }

/-- 'certpathlaw11.OtsDigits', WHERE WHAT IT READS IS OF BULK AT MOST 1048576: true; the input reads as it did. -/
def otsDigitsUptoRow : OpenClaim := { program := "ytilehfdplgciiaa", sum := "690deea6a4f452372944bd749c7b3dd221c87eae83176f345a80659d7f148356", func := "certpath/certpathlaw11.OtsDigits", spec := "otsDigits", apart := false, narrowed := true }
def OtsDigitsUptoSaid : Prop := otsDigitsUptoRow.holds Try.pinned (OpenSpec.upto otsDigitsSpec)

/-- 'certpathlaw11.OtsApart', WHERE WHAT IT READS IS OF BULK AT MOST 1048576: true; the input reads as it did. -/
def otsApartUptoRow : OpenClaim := { program := "ytilehfdplgciiaa", sum := "690deea6a4f452372944bd749c7b3dd221c87eae83176f345a80659d7f148356", func := "certpath/certpathlaw11.OtsApart", spec := "otsApart", apart := false, narrowed := true }
def OtsApartUptoSaid : Prop := otsApartUptoRow.holds Try.pinned (OpenSpec.upto otsApartSpec)

/-- 'certpathlaw11.OtsRecover', WHERE WHAT IT READS IS OF BULK AT MOST 1048576: true; the input reads as it did. -/
def otsRecoverUptoRow : OpenClaim := { program := "ytilehfdplgciiaa", sum := "690deea6a4f452372944bd749c7b3dd221c87eae83176f345a80659d7f148356", func := "certpath/certpathlaw11.OtsRecover", spec := "otsRecover", apart := false, narrowed := true }
def OtsRecoverUptoSaid : Prop := otsRecoverUptoRow.holds Try.pinned (OpenSpec.upto otsRecoverSpec)

/-- 'certpathlaw11.OtsPublic', WHERE WHAT IT READS IS OF BULK AT MOST 1048576: true; the input reads as it did. -/
def otsPublicUptoRow : OpenClaim := { program := "ytilehfdplgciiaa", sum := "690deea6a4f452372944bd749c7b3dd221c87eae83176f345a80659d7f148356", func := "certpath/certpathlaw11.OtsPublic", spec := "otsPublic", apart := false, narrowed := true }
def OtsPublicUptoSaid : Prop := otsPublicUptoRow.holds Try.pinned (OpenSpec.upto otsPublicSpec)

/-- 'certpathlaw11.OtsSign', WHERE WHAT IT READS IS OF BULK AT MOST 1048576: true; the input reads as it did. -/
def otsSignUptoRow : OpenClaim := { program := "ytilehfdplgciiaa", sum := "690deea6a4f452372944bd749c7b3dd221c87eae83176f345a80659d7f148356", func := "certpath/certpathlaw11.OtsSign", spec := "otsSign", apart := false, narrowed := true }
def OtsSignUptoSaid : Prop := otsSignUptoRow.holds Try.pinned (OpenSpec.upto otsSignSpec)

/-- 'certpathlaw11.OtsErrors', WHERE WHAT IT READS IS OF BULK AT MOST 1048576: true; the input reads as it did. -/
def otsErrorsUptoRow : OpenClaim := { program := "ytilehfdplgciiaa", sum := "690deea6a4f452372944bd749c7b3dd221c87eae83176f345a80659d7f148356", func := "certpath/certpathlaw11.OtsErrors", spec := "otsErrors", apart := false, narrowed := true }
def OtsErrorsUptoSaid : Prop := otsErrorsUptoRow.holds Try.pinned (OpenSpec.upto otsErrorsSpec)

/-- 'certpathlaw11.OtsBack', WHERE WHAT IT READS IS OF BULK AT MOST 1048576: true; the input reads as it did. -/
def otsBackUptoRow : OpenClaim := { program := "ytilehfdplgciiaa", sum := "690deea6a4f452372944bd749c7b3dd221c87eae83176f345a80659d7f148356", func := "certpath/certpathlaw11.OtsBack", spec := "otsBack", apart := false, narrowed := true }
def OtsBackUptoSaid : Prop := otsBackUptoRow.holds Try.pinned (OpenSpec.upto otsBackSpec)

/-- 'certpathlaw13.SignerLoad', WHERE WHAT IT READS IS OF BULK AT MOST 1048576: true; the input reads as it did. -/
def signerLoadUptoRow : OpenClaim := { program := "ytilehfdplgciiaa", sum := "690deea6a4f452372944bd749c7b3dd221c87eae83176f345a80659d7f148356", func := "certpath/certpathlaw13.SignerLoad", spec := "signerLoad", apart := false, narrowed := true }
def SignerLoadUptoSaid : Prop := signerLoadUptoRow.holds Try.pinned (OpenSpec.upto signerLoadSpec)

/-- 'certpathlaw12.MerkleGenerate', WHERE WHAT IT READS IS OF BULK AT MOST 1048576: true; the input reads as it did. -/
def merkleGenerateUptoRow : OpenClaim := { program := "ytilehfdplgciiaa", sum := "690deea6a4f452372944bd749c7b3dd221c87eae83176f345a80659d7f148356", func := "certpath/certpathlaw12.MerkleGenerate", spec := "merkleGenerate", apart := false, narrowed := true }
def MerkleGenerateUptoSaid : Prop := merkleGenerateUptoRow.holds Try.pinned (OpenSpec.upto merkleGenerateSpec)

/-- 'certpathlaw12.MerkleErrors', WHERE WHAT IT READS IS OF BULK AT MOST 1048576: true; the input reads as it did. -/
def merkleErrorsUptoRow : OpenClaim := { program := "ytilehfdplgciiaa", sum := "690deea6a4f452372944bd749c7b3dd221c87eae83176f345a80659d7f148356", func := "certpath/certpathlaw12.MerkleErrors", spec := "merkleErrors", apart := false, narrowed := true }
def MerkleErrorsUptoSaid : Prop := merkleErrorsUptoRow.holds Try.pinned (OpenSpec.upto merkleErrorsSpec)

/-- 'certpathlaw12.MerkleSign', WHERE WHAT IT READS IS OF BULK AT MOST 1048576: true; the input reads as it did. -/
def merkleSignUptoRow : OpenClaim := { program := "ytilehfdplgciiaa", sum := "690deea6a4f452372944bd749c7b3dd221c87eae83176f345a80659d7f148356", func := "certpath/certpathlaw12.MerkleSign", spec := "merkleSign", apart := false, narrowed := true }
def MerkleSignUptoSaid : Prop := merkleSignUptoRow.holds Try.pinned (OpenSpec.upto merkleSignSpec)

/-- 'certpathlaw12.MerkleVerify', WHERE WHAT IT READS IS OF BULK AT MOST 1048576: true; the input reads as it did. -/
def merkleVerifyUptoRow : OpenClaim := { program := "ytilehfdplgciiaa", sum := "690deea6a4f452372944bd749c7b3dd221c87eae83176f345a80659d7f148356", func := "certpath/certpathlaw12.MerkleVerify", spec := "merkleVerify", apart := false, narrowed := true }
def MerkleVerifyUptoSaid : Prop := merkleVerifyUptoRow.holds Try.pinned (OpenSpec.upto merkleVerifySpec)

/-- 'certpathlaw12.MerkleRaw', WHERE WHAT IT READS IS OF BULK AT MOST 1048576: true; the input reads as it did. -/
def merkleRawUptoRow : OpenClaim := { program := "ytilehfdplgciiaa", sum := "690deea6a4f452372944bd749c7b3dd221c87eae83176f345a80659d7f148356", func := "certpath/certpathlaw12.MerkleRaw", spec := "merkleRaw", apart := false, narrowed := true }
def MerkleRawUptoSaid : Prop := merkleRawUptoRow.holds Try.pinned (OpenSpec.upto merkleRawSpec)

/-- 'certpathlaw12.MerkleBack', WHERE WHAT IT READS IS OF BULK AT MOST 1048576: true; the input reads as it did. -/
def merkleBackUptoRow : OpenClaim := { program := "ytilehfdplgciiaa", sum := "690deea6a4f452372944bd749c7b3dd221c87eae83176f345a80659d7f148356", func := "certpath/certpathlaw12.MerkleBack", spec := "merkleBack", apart := false, narrowed := true }
def MerkleBackUptoSaid : Prop := merkleBackUptoRow.holds Try.pinned (OpenSpec.upto merkleBackSpec)

/-- 'certpathlaw13.SignerErrors', WHERE WHAT IT READS IS OF BULK AT MOST 1048576: true; the input reads as it did. -/
def signerErrorsUptoRow : OpenClaim := { program := "ytilehfdplgciiaa", sum := "690deea6a4f452372944bd749c7b3dd221c87eae83176f345a80659d7f148356", func := "certpath/certpathlaw13.SignerErrors", spec := "signerErrors", apart := false, narrowed := true }
def SignerErrorsUptoSaid : Prop := signerErrorsUptoRow.holds Try.pinned (OpenSpec.upto signerErrorsSpec)

/-- 'certpathlaw13.SignerNever', WHERE WHAT IT READS IS OF BULK AT MOST 1048576: true; the input reads as it did. -/
def signerNeverUptoRow : OpenClaim := { program := "ytilehfdplgciiaa", sum := "690deea6a4f452372944bd749c7b3dd221c87eae83176f345a80659d7f148356", func := "certpath/certpathlaw13.SignerNever", spec := "signerNever", apart := false, narrowed := true }
def SignerNeverUptoSaid : Prop := signerNeverUptoRow.holds Try.pinned (OpenSpec.upto signerNeverSpec)

/-- 'certpathlaw13.SignerPlays', WHERE WHAT IT READS IS OF BULK AT MOST 1048576: true; the input reads as it did. -/
def signerPlaysUptoRow : OpenClaim := { program := "ytilehfdplgciiaa", sum := "690deea6a4f452372944bd749c7b3dd221c87eae83176f345a80659d7f148356", func := "certpath/certpathlaw13.SignerPlays", spec := "signerPlays", apart := false, narrowed := true }
def SignerPlaysUptoSaid : Prop := signerPlaysUptoRow.holds Try.pinned (OpenSpec.upto signerPlaysSpec)

/-- 'certpathlaw13.SignerVerifies', WHERE WHAT IT READS IS OF BULK AT MOST 1048576: true; the input reads as it did. -/
def signerVerifiesUptoRow : OpenClaim := { program := "ytilehfdplgciiaa", sum := "690deea6a4f452372944bd749c7b3dd221c87eae83176f345a80659d7f148356", func := "certpath/certpathlaw13.SignerVerifies", spec := "signerVerifies", apart := false, narrowed := true }
def SignerVerifiesUptoSaid : Prop := signerVerifiesUptoRow.holds Try.pinned (OpenSpec.upto signerVerifiesSpec)

end Rows
end Go.Proofs.Ytilehfdplgciiaa
