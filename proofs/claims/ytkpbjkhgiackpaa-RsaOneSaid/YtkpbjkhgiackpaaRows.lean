/-
  No cell of these rows narrows 'for every input' (looked for: loops, veiled, ifaces, maps, wideKeys, modest, calm, conditions, laid).
  DERIVED. THE GIVEN ROWS OF THIS SEAT. 17 by the template 'for every input the law returns true; each argument reads behind the call as it read before'; 0 by the template 'total and deterministic' (their statements: YtkpbjkhgiackpaaTotals.lean).
  GIVEN WITH THE SEED: the statements are not yours to turn. If you find one false, say at which input.
  Laid BY PROGRAM, IN A SANDBOX (cutbox-rows.mjs): the forced cells as the released guide's own fill.sh prints them over the translation 3431335fcaaf32ea… (all of the seat's roots in one cut). By AI agents, Wed Nov 11 2026. No macro, syntax, notation, axiom, sorry.
-/
import Derived.Test.YtkpbjkhgiackpaaChecked
import GoSem.Claim
import GoSem.ClaimJoined
import GoSem.ClaimMapViews
import Derived.JoinedTies
import Derived.KernelRfl
namespace Go.Proofs.Ytkpbjkhgiackpaa
/- THE CELL 'sum', in the pinned program and in every row, IS THE sha256 OF THE DUMP (.gsa) THAT YtkpbjkhgiackpaaProg.lean LOADS. Nothing in Lean hashes anything: it is a label: what it is worth is what the hold of that sum in a sandbox is worth. -/
noncomputable def Try.pinned : Pinned := { name := "ytkpbjkhgiackpaa", sum := "3431335fcaaf32eae47fd0da1a74318bfa60771ce2b074bb11962411ca779bbe", checked := Try.checked }
namespace Rows
def none {H : Type} : Left H := { results := [], args := [] }

/-- 'affiantlaw05.ModexpMul': WHATEVER THE INPUT: true; the input reads as it did. -/
def modexpMulSpec : ChangeSpec := { name := "modexpMul", fn := fun _ => fun
  | [d1, d2, d3] => { results := [.lit (.bool true)], args := [d1, d2, d3] }
  | _ => none }
def modexpMulRow : OpenClaim := { program := "ytkpbjkhgiackpaa", sum := "3431335fcaaf32eae47fd0da1a74318bfa60771ce2b074bb11962411ca779bbe", func := "affiant/affiantlaw05.ModexpMul", spec := "modexpMul", unfollowed := true, recurses := true, named := ["math/bits.overflowError"], apart := false }
def ModexpMulSaid : Prop := modexpMulRow.holds Try.pinned (OpenSpec.ofChange modexpMulSpec)

/-- ITS FALSE NEIGHBOUR: 'it returns false'. Refute it at one input. -/
def modexpMulWrong : ChangeSpec := { name := "modexpMul", fn := fun _ => fun
  | [d1, d2, d3] => { results := [.lit (.bool false)], args := [d1, d2, d3] }
  | _ => none }
def ModexpMulWrongFalsely : Prop := modexpMulRow.holds Try.pinned (OpenSpec.ofChange modexpMulWrong)

/-- 'affiantlaw05.ModexpExp': WHATEVER THE INPUT: true; the input reads as it did. -/
def modexpExpSpec : ChangeSpec := { name := "modexpExp", fn := fun _ => fun
  | [d1, d2, d3] => { results := [.lit (.bool true)], args := [d1, d2, d3] }
  | _ => none }
def modexpExpRow : OpenClaim := { program := "ytkpbjkhgiackpaa", sum := "3431335fcaaf32eae47fd0da1a74318bfa60771ce2b074bb11962411ca779bbe", func := "affiant/affiantlaw05.ModexpExp", spec := "modexpExp", unfollowed := true, recurses := true, named := ["math/bits.overflowError"], apart := false }
def ModexpExpSaid : Prop := modexpExpRow.holds Try.pinned (OpenSpec.ofChange modexpExpSpec)

/-- ITS FALSE NEIGHBOUR: 'it returns false'. Refute it at one input. -/
def modexpExpWrong : ChangeSpec := { name := "modexpExp", fn := fun _ => fun
  | [d1, d2, d3] => { results := [.lit (.bool false)], args := [d1, d2, d3] }
  | _ => none }
def ModexpExpWrongFalsely : Prop := modexpExpRow.holds Try.pinned (OpenSpec.ofChange modexpExpWrong)

/-- 'affiantlaw05.ModexpInverse': WHATEVER THE INPUT: true; the input reads as it did. -/
def modexpInverseSpec : ChangeSpec := { name := "modexpInverse", fn := fun _ => fun
  | [d1, d2] => { results := [.lit (.bool true)], args := [d1, d2] }
  | _ => none }
def modexpInverseRow : OpenClaim := { program := "ytkpbjkhgiackpaa", sum := "3431335fcaaf32eae47fd0da1a74318bfa60771ce2b074bb11962411ca779bbe", func := "affiant/affiantlaw05.ModexpInverse", spec := "modexpInverse", unfollowed := true, recurses := true, named := ["math/bits.overflowError"], apart := false }
def ModexpInverseSaid : Prop := modexpInverseRow.holds Try.pinned (OpenSpec.ofChange modexpInverseSpec)

/-- ITS FALSE NEIGHBOUR: 'it returns false'. Refute it at one input. -/
def modexpInverseWrong : ChangeSpec := { name := "modexpInverse", fn := fun _ => fun
  | [d1, d2] => { results := [.lit (.bool false)], args := [d1, d2] }
  | _ => none }
def ModexpInverseWrongFalsely : Prop := modexpInverseRow.holds Try.pinned (OpenSpec.ofChange modexpInverseWrong)

/-- 'affiantlaw05.ModexpPowers': WHATEVER THE INPUT: true; the input reads as it did. -/
def modexpPowersSpec : ChangeSpec := { name := "modexpPowers", fn := fun _ => fun
  | [d1, d2, d3] => { results := [.lit (.bool true)], args := [d1, d2, d3] }
  | _ => none }
def modexpPowersRow : OpenClaim := { program := "ytkpbjkhgiackpaa", sum := "3431335fcaaf32eae47fd0da1a74318bfa60771ce2b074bb11962411ca779bbe", func := "affiant/affiantlaw05.ModexpPowers", spec := "modexpPowers", unfollowed := true, recurses := true, named := ["math/bits.overflowError"], apart := false }
def ModexpPowersSaid : Prop := modexpPowersRow.holds Try.pinned (OpenSpec.ofChange modexpPowersSpec)

/-- ITS FALSE NEIGHBOUR: 'it returns false'. Refute it at one input. -/
def modexpPowersWrong : ChangeSpec := { name := "modexpPowers", fn := fun _ => fun
  | [d1, d2, d3] => { results := [.lit (.bool false)], args := [d1, d2, d3] }
  | _ => none }
def ModexpPowersWrongFalsely : Prop := modexpPowersRow.holds Try.pinned (OpenSpec.ofChange modexpPowersWrong)

/-- 'affiantlaw05.ModexpGcd': WHATEVER THE INPUT: true; the input reads as it did. -/
def modexpGcdSpec : ChangeSpec := { name := "modexpGcd", fn := fun _ => fun
  | [d1, d2] => { results := [.lit (.bool true)], args := [d1, d2] }
  | _ => none }
def modexpGcdRow : OpenClaim := { program := "ytkpbjkhgiackpaa", sum := "3431335fcaaf32eae47fd0da1a74318bfa60771ce2b074bb11962411ca779bbe", func := "affiant/affiantlaw05.ModexpGcd", spec := "modexpGcd", unfollowed := true, recurses := true, named := ["math/bits.overflowError"], apart := false }
def ModexpGcdSaid : Prop := modexpGcdRow.holds Try.pinned (OpenSpec.ofChange modexpGcdSpec)

/-- ITS FALSE NEIGHBOUR: 'it returns false'. Refute it at one input. -/
def modexpGcdWrong : ChangeSpec := { name := "modexpGcd", fn := fun _ => fun
  | [d1, d2] => { results := [.lit (.bool false)], args := [d1, d2] }
  | _ => none }
def ModexpGcdWrongFalsely : Prop := modexpGcdRow.holds Try.pinned (OpenSpec.ofChange modexpGcdWrong)

/-- 'affiantlaw12.ScalarSums': WHATEVER THE INPUT: true; the input reads as it did. -/
def scalarSumsSpec : ChangeSpec := { name := "scalarSums", fn := fun _ => fun
  | [d1, d2] => { results := [.lit (.bool true)], args := [d1, d2] }
  | _ => none }
def scalarSumsRow : OpenClaim := { program := "ytkpbjkhgiackpaa", sum := "3431335fcaaf32eae47fd0da1a74318bfa60771ce2b074bb11962411ca779bbe", func := "affiant/affiantlaw12.ScalarSums", spec := "scalarSums", unfollowed := true, recurses := true, named := ["math/bits.overflowError"], apart := false }
def ScalarSumsSaid : Prop := scalarSumsRow.holds Try.pinned (OpenSpec.ofChange scalarSumsSpec)

/-- ITS FALSE NEIGHBOUR: 'it returns false'. Refute it at one input. -/
def scalarSumsWrong : ChangeSpec := { name := "scalarSums", fn := fun _ => fun
  | [d1, d2] => { results := [.lit (.bool false)], args := [d1, d2] }
  | _ => none }
def ScalarSumsWrongFalsely : Prop := scalarSumsRow.holds Try.pinned (OpenSpec.ofChange scalarSumsWrong)

/-- 'affiantlaw12.ScalarLaws': WHATEVER THE INPUT: true; the input reads as it did. -/
def scalarLawsSpec : ChangeSpec := { name := "scalarLaws", fn := fun _ => fun
  | [d1, d2, d3] => { results := [.lit (.bool true)], args := [d1, d2, d3] }
  | _ => none }
def scalarLawsRow : OpenClaim := { program := "ytkpbjkhgiackpaa", sum := "3431335fcaaf32eae47fd0da1a74318bfa60771ce2b074bb11962411ca779bbe", func := "affiant/affiantlaw12.ScalarLaws", spec := "scalarLaws", unfollowed := true, recurses := true, named := ["math/bits.overflowError"], apart := false }
def ScalarLawsSaid : Prop := scalarLawsRow.holds Try.pinned (OpenSpec.ofChange scalarLawsSpec)

/-- ITS FALSE NEIGHBOUR: 'it returns false'. Refute it at one input. -/
def scalarLawsWrong : ChangeSpec := { name := "scalarLaws", fn := fun _ => fun
  | [d1, d2, d3] => { results := [.lit (.bool false)], args := [d1, d2, d3] }
  | _ => none }
def ScalarLawsWrongFalsely : Prop := scalarLawsRow.holds Try.pinned (OpenSpec.ofChange scalarLawsWrong)

/-- 'affiantlaw12.ScalarBack': WHATEVER THE INPUT: true; the input reads as it did. -/
def scalarBackSpec : ChangeSpec := { name := "scalarBack", fn := fun _ => fun
  | [d1, d2] => { results := [.lit (.bool true)], args := [d1, d2] }
  | _ => none }
def scalarBackRow : OpenClaim := { program := "ytkpbjkhgiackpaa", sum := "3431335fcaaf32eae47fd0da1a74318bfa60771ce2b074bb11962411ca779bbe", func := "affiant/affiantlaw12.ScalarBack", spec := "scalarBack", unfollowed := true, recurses := true, named := ["math/bits.overflowError"], apart := false }
def ScalarBackSaid : Prop := scalarBackRow.holds Try.pinned (OpenSpec.ofChange scalarBackSpec)

/-- ITS FALSE NEIGHBOUR: 'it returns false'. Refute it at one input. -/
def scalarBackWrong : ChangeSpec := { name := "scalarBack", fn := fun _ => fun
  | [d1, d2] => { results := [.lit (.bool false)], args := [d1, d2] }
  | _ => none }
def ScalarBackWrongFalsely : Prop := scalarBackRow.holds Try.pinned (OpenSpec.ofChange scalarBackWrong)

/-- 'affiantlaw12.ScalarBytes': WHATEVER THE INPUT: true; the input reads as it did. -/
def scalarBytesSpec : ChangeSpec := { name := "scalarBytes", fn := fun _ => fun
  | [d1, d2, d3] => { results := [.lit (.bool true)], args := [d1, d2, d3] }
  | _ => none }
def scalarBytesRow : OpenClaim := { program := "ytkpbjkhgiackpaa", sum := "3431335fcaaf32eae47fd0da1a74318bfa60771ce2b074bb11962411ca779bbe", func := "affiant/affiantlaw12.ScalarBytes", spec := "scalarBytes", unfollowed := true, recurses := true, named := ["math/bits.overflowError"], apart := false }
def ScalarBytesSaid : Prop := scalarBytesRow.holds Try.pinned (OpenSpec.ofChange scalarBytesSpec)

/-- ITS FALSE NEIGHBOUR: 'it returns false'. Refute it at one input. -/
def scalarBytesWrong : ChangeSpec := { name := "scalarBytes", fn := fun _ => fun
  | [d1, d2, d3] => { results := [.lit (.bool false)], args := [d1, d2, d3] }
  | _ => none }
def ScalarBytesWrongFalsely : Prop := scalarBytesRow.holds Try.pinned (OpenSpec.ofChange scalarBytesWrong)

/-- 'affiantlaw10.RsaMessage': WHATEVER THE INPUT: true; the input reads as it did. -/
def rsaMessageSpec : ChangeSpec := { name := "rsaMessage", fn := fun _ => fun
  | [d1, d2, d3] => { results := [.lit (.bool true)], args := [d1, d2, d3] }
  | _ => none }
def rsaMessageRow : OpenClaim := { program := "ytkpbjkhgiackpaa", sum := "3431335fcaaf32eae47fd0da1a74318bfa60771ce2b074bb11962411ca779bbe", func := "affiant/affiantlaw10.RsaMessage", spec := "rsaMessage", inPlace := ["internal/bytealg.MakeNoZero"], unfollowed := true, recurses := true, apart := false }
def RsaMessageSaid : Prop := rsaMessageRow.holds Try.pinned (OpenSpec.ofChange rsaMessageSpec)

/-- ITS FALSE NEIGHBOUR: 'it returns false'. Refute it at one input. -/
def rsaMessageWrong : ChangeSpec := { name := "rsaMessage", fn := fun _ => fun
  | [d1, d2, d3] => { results := [.lit (.bool false)], args := [d1, d2, d3] }
  | _ => none }
def RsaMessageWrongFalsely : Prop := rsaMessageRow.holds Try.pinned (OpenSpec.ofChange rsaMessageWrong)

/-- 'affiantlaw10.RsaVerify': WHATEVER THE INPUT: true; the input reads as it did. -/
def rsaVerifySpec : ChangeSpec := { name := "rsaVerify", fn := fun _ => fun
  | [d1, d2, d3] => { results := [.lit (.bool true)], args := [d1, d2, d3] }
  | _ => none }
def rsaVerifyRow : OpenClaim := { program := "ytkpbjkhgiackpaa", sum := "3431335fcaaf32eae47fd0da1a74318bfa60771ce2b074bb11962411ca779bbe", func := "affiant/affiantlaw10.RsaVerify", spec := "rsaVerify", inPlace := ["internal/bytealg.MakeNoZero"], unfollowed := true, recurses := true, named := ["math/bits.overflowError"], apart := false }
def RsaVerifySaid : Prop := rsaVerifyRow.holds Try.pinned (OpenSpec.ofChange rsaVerifySpec)

/-- ITS FALSE NEIGHBOUR: 'it returns false'. Refute it at one input. -/
def rsaVerifyWrong : ChangeSpec := { name := "rsaVerify", fn := fun _ => fun
  | [d1, d2, d3] => { results := [.lit (.bool false)], args := [d1, d2, d3] }
  | _ => none }
def RsaVerifyWrongFalsely : Prop := rsaVerifyRow.holds Try.pinned (OpenSpec.ofChange rsaVerifyWrong)

/-- 'affiantlaw10.RsaSign': WHATEVER THE INPUT: true; the input reads as it did. -/
def rsaSignSpec : ChangeSpec := { name := "rsaSign", fn := fun _ => fun
  | [d1, d2] => { results := [.lit (.bool true)], args := [d1, d2] }
  | _ => none }
def rsaSignRow : OpenClaim := { program := "ytkpbjkhgiackpaa", sum := "3431335fcaaf32eae47fd0da1a74318bfa60771ce2b074bb11962411ca779bbe", func := "affiant/affiantlaw10.RsaSign", spec := "rsaSign", inPlace := ["internal/bytealg.MakeNoZero"], unfollowed := true, recurses := true, named := ["math/bits.overflowError"], apart := false }
def RsaSignSaid : Prop := rsaSignRow.holds Try.pinned (OpenSpec.ofChange rsaSignSpec)

/-- ITS FALSE NEIGHBOUR: 'it returns false'. Refute it at one input. -/
def rsaSignWrong : ChangeSpec := { name := "rsaSign", fn := fun _ => fun
  | [d1, d2] => { results := [.lit (.bool false)], args := [d1, d2] }
  | _ => none }
def RsaSignWrongFalsely : Prop := rsaSignRow.holds Try.pinned (OpenSpec.ofChange rsaSignWrong)

/-- 'affiantlaw10.RsaSigns': WHATEVER THE INPUT: true; the input reads as it did. -/
def rsaSignsSpec : ChangeSpec := { name := "rsaSigns", fn := fun _ => fun
  | [d1, d2, d3] => { results := [.lit (.bool true)], args := [d1, d2, d3] }
  | _ => none }
def rsaSignsRow : OpenClaim := { program := "ytkpbjkhgiackpaa", sum := "3431335fcaaf32eae47fd0da1a74318bfa60771ce2b074bb11962411ca779bbe", func := "affiant/affiantlaw10.RsaSigns", spec := "rsaSigns", inPlace := ["internal/bytealg.MakeNoZero"], unfollowed := true, recurses := true, named := ["math/bits.overflowError"], apart := false }
def RsaSignsSaid : Prop := rsaSignsRow.holds Try.pinned (OpenSpec.ofChange rsaSignsSpec)

/-- ITS FALSE NEIGHBOUR: 'it returns false'. Refute it at one input. -/
def rsaSignsWrong : ChangeSpec := { name := "rsaSigns", fn := fun _ => fun
  | [d1, d2, d3] => { results := [.lit (.bool false)], args := [d1, d2, d3] }
  | _ => none }
def RsaSignsWrongFalsely : Prop := rsaSignsRow.holds Try.pinned (OpenSpec.ofChange rsaSignsWrong)

/-- 'affiantlaw10.RsaOne': WHATEVER THE INPUT: true; the input reads as it did. -/
def rsaOneSpec : ChangeSpec := { name := "rsaOne", fn := fun _ => fun
  | [d1, d2] => { results := [.lit (.bool true)], args := [d1, d2] }
  | _ => none }
def rsaOneRow : OpenClaim := { program := "ytkpbjkhgiackpaa", sum := "3431335fcaaf32eae47fd0da1a74318bfa60771ce2b074bb11962411ca779bbe", func := "affiant/affiantlaw10.RsaOne", spec := "rsaOne", inPlace := ["internal/bytealg.MakeNoZero"], unfollowed := true, recurses := true, named := ["math/bits.overflowError"], apart := false }
def RsaOneSaid : Prop := rsaOneRow.holds Try.pinned (OpenSpec.ofChange rsaOneSpec)

/-- ITS FALSE NEIGHBOUR: 'it returns false'. Refute it at one input. -/
def rsaOneWrong : ChangeSpec := { name := "rsaOne", fn := fun _ => fun
  | [d1, d2] => { results := [.lit (.bool false)], args := [d1, d2] }
  | _ => none }
def RsaOneWrongFalsely : Prop := rsaOneRow.holds Try.pinned (OpenSpec.ofChange rsaOneWrong)

/-- 'affiantlaw11.FieldLeft': WHATEVER THE INPUT: true; the input reads as it did. -/
def fieldLeftSpec : ChangeSpec := { name := "fieldLeft", fn := fun _ => fun
  | [d1, d2] => { results := [.lit (.bool true)], args := [d1, d2] }
  | _ => none }
def fieldLeftRow : OpenClaim := { program := "ytkpbjkhgiackpaa", sum := "3431335fcaaf32eae47fd0da1a74318bfa60771ce2b074bb11962411ca779bbe", func := "affiant/affiantlaw11.FieldLeft", spec := "fieldLeft", inPlace := ["math/bits.Add64", "math/bits.Sub64"], unfollowed := true, recurses := true, named := ["math/bits.overflowError"], apart := false }
def FieldLeftSaid : Prop := fieldLeftRow.holds Try.pinned (OpenSpec.ofChange fieldLeftSpec)

/-- ITS FALSE NEIGHBOUR: 'it returns false'. Refute it at one input. -/
def fieldLeftWrong : ChangeSpec := { name := "fieldLeft", fn := fun _ => fun
  | [d1, d2] => { results := [.lit (.bool false)], args := [d1, d2] }
  | _ => none }
def FieldLeftWrongFalsely : Prop := fieldLeftRow.holds Try.pinned (OpenSpec.ofChange fieldLeftWrong)

/-- 'affiantlaw04.NatBytes': WHATEVER THE INPUT: true; the input reads as it did. -/
def natBytesSpec : ChangeSpec := { name := "natBytes", fn := fun _ => fun
  | [d1, d2, d3] => { results := [.lit (.bool true)], args := [d1, d2, d3] }
  | _ => none }
def natBytesRow : OpenClaim := { program := "ytkpbjkhgiackpaa", sum := "3431335fcaaf32eae47fd0da1a74318bfa60771ce2b074bb11962411ca779bbe", func := "affiant/affiantlaw04.NatBytes", spec := "natBytes", unfollowed := true, recurses := true, named := ["math/bits.overflowError"], apart := false }
def NatBytesSaid : Prop := natBytesRow.holds Try.pinned (OpenSpec.ofChange natBytesSpec)

/-- ITS FALSE NEIGHBOUR: 'it returns false'. Refute it at one input. -/
def natBytesWrong : ChangeSpec := { name := "natBytes", fn := fun _ => fun
  | [d1, d2, d3] => { results := [.lit (.bool false)], args := [d1, d2, d3] }
  | _ => none }
def NatBytesWrongFalsely : Prop := natBytesRow.holds Try.pinned (OpenSpec.ofChange natBytesWrong)

/-- 'affiantlaw04.NatBack': WHATEVER THE INPUT: true; the input reads as it did. -/
def natBackSpec : ChangeSpec := { name := "natBack", fn := fun _ => fun
  | [d1, d2] => { results := [.lit (.bool true)], args := [d1, d2] }
  | _ => none }
def natBackRow : OpenClaim := { program := "ytkpbjkhgiackpaa", sum := "3431335fcaaf32eae47fd0da1a74318bfa60771ce2b074bb11962411ca779bbe", func := "affiant/affiantlaw04.NatBack", spec := "natBack", unfollowed := true, recurses := true, named := ["math/bits.overflowError"], apart := false }
def NatBackSaid : Prop := natBackRow.holds Try.pinned (OpenSpec.ofChange natBackSpec)

/-- ITS FALSE NEIGHBOUR: 'it returns false'. Refute it at one input. -/
def natBackWrong : ChangeSpec := { name := "natBack", fn := fun _ => fun
  | [d1, d2] => { results := [.lit (.bool false)], args := [d1, d2] }
  | _ => none }
def NatBackWrongFalsely : Prop := natBackRow.holds Try.pinned (OpenSpec.ofChange natBackWrong)

/- THE SECOND FORM. 'bulk': how many values and letters a reading holds, each counted each time it is reached (what is shared counts as often as it is met; a slice's spare places count too). A statement '..UptoSaid' is the law's where the arguments, and the package variables that the reading takes, are together of bulk at most 1048576: NARROWER than '..Said'. Prove '..Said' where nothing that the law and all that it calls make is longer than what came in: it says more and counts as full. Else prove '..UptoSaid'. A law counts once. -/
mutual
def uptoBulk {H : Type} : DataW H → Nat
  | .lit (.string bytes) => bytes.length + 1
  | .lit _ => 1
  | .nil => 1
  | .ptr d => uptoBulk d + 1
  | .slice elems spare => uptoBulkAll elems + uptoBulkAll spare + 1
  | .agg parts => uptoBulkAll parts + 1
  | .iface _ d => uptoBulk d + 1
  | .map entries => uptoBulkEntries entries + 1
  | .held _ => 1
def uptoBulkAll {H : Type} : List (DataW H) → Nat
  | [] => 0
  | d :: r => uptoBulk d + uptoBulkAll r
def uptoBulkEntries {H : Type} : List (Lit × DataW H) → Nat
  | [] => 0
  | x :: r => uptoBulkEntry x + uptoBulkEntries r
def uptoBulkEntry {H : Type} : Lit × DataW H → Nat
  | (.string bytes, d) => bytes.length + uptoBulk d + 1
  | (_, d) => uptoBulk d + 1
 end
def uptoSmall : (H : Type) → List (DataW H) → Bool := fun _ ds => decide (uptoBulkAll ds ≤ 1048576)
def OpenSpec.upto (s : _root_.Go.ChangeSpec) : _root_.Go.OpenSpec := { _root_.Go.OpenSpec.ofChange s with cond := some uptoSmall }

/-- 'affiantlaw05.ModexpMul', WHERE WHAT IT READS IS OF BULK AT MOST 1048576: true; the input reads as it did. -/
def modexpMulUptoRow : OpenClaim := { program := "ytkpbjkhgiackpaa", sum := "3431335fcaaf32eae47fd0da1a74318bfa60771ce2b074bb11962411ca779bbe", func := "affiant/affiantlaw05.ModexpMul", spec := "modexpMul", unfollowed := true, recurses := true, named := ["math/bits.overflowError"], apart := false, narrowed := true }
def ModexpMulUptoSaid : Prop := modexpMulUptoRow.holds Try.pinned (OpenSpec.upto modexpMulSpec)

/-- 'affiantlaw05.ModexpExp', WHERE WHAT IT READS IS OF BULK AT MOST 1048576: true; the input reads as it did. -/
def modexpExpUptoRow : OpenClaim := { program := "ytkpbjkhgiackpaa", sum := "3431335fcaaf32eae47fd0da1a74318bfa60771ce2b074bb11962411ca779bbe", func := "affiant/affiantlaw05.ModexpExp", spec := "modexpExp", unfollowed := true, recurses := true, named := ["math/bits.overflowError"], apart := false, narrowed := true }
def ModexpExpUptoSaid : Prop := modexpExpUptoRow.holds Try.pinned (OpenSpec.upto modexpExpSpec)

/-- 'affiantlaw05.ModexpInverse', WHERE WHAT IT READS IS OF BULK AT MOST 1048576: true; the input reads as it did. -/
def modexpInverseUptoRow : OpenClaim := { program := "ytkpbjkhgiackpaa", sum := "3431335fcaaf32eae47fd0da1a74318bfa60771ce2b074bb11962411ca779bbe", func := "affiant/affiantlaw05.ModexpInverse", spec := "modexpInverse", unfollowed := true, recurses := true, named := ["math/bits.overflowError"], apart := false, narrowed := true }
def ModexpInverseUptoSaid : Prop := modexpInverseUptoRow.holds Try.pinned (OpenSpec.upto modexpInverseSpec)

/-- 'affiantlaw05.ModexpPowers', WHERE WHAT IT READS IS OF BULK AT MOST 1048576: true; the input reads as it did. -/
def modexpPowersUptoRow : OpenClaim := { program := "ytkpbjkhgiackpaa", sum := "3431335fcaaf32eae47fd0da1a74318bfa60771ce2b074bb11962411ca779bbe", func := "affiant/affiantlaw05.ModexpPowers", spec := "modexpPowers", unfollowed := true, recurses := true, named := ["math/bits.overflowError"], apart := false, narrowed := true }
def ModexpPowersUptoSaid : Prop := modexpPowersUptoRow.holds Try.pinned (OpenSpec.upto modexpPowersSpec)

/-- 'affiantlaw05.ModexpGcd', WHERE WHAT IT READS IS OF BULK AT MOST 1048576: true; the input reads as it did. -/
def modexpGcdUptoRow : OpenClaim := { program := "ytkpbjkhgiackpaa", sum := "3431335fcaaf32eae47fd0da1a74318bfa60771ce2b074bb11962411ca779bbe", func := "affiant/affiantlaw05.ModexpGcd", spec := "modexpGcd", unfollowed := true, recurses := true, named := ["math/bits.overflowError"], apart := false, narrowed := true }
def ModexpGcdUptoSaid : Prop := modexpGcdUptoRow.holds Try.pinned (OpenSpec.upto modexpGcdSpec)

/-- 'affiantlaw12.ScalarSums', WHERE WHAT IT READS IS OF BULK AT MOST 1048576: true; the input reads as it did. -/
def scalarSumsUptoRow : OpenClaim := { program := "ytkpbjkhgiackpaa", sum := "3431335fcaaf32eae47fd0da1a74318bfa60771ce2b074bb11962411ca779bbe", func := "affiant/affiantlaw12.ScalarSums", spec := "scalarSums", unfollowed := true, recurses := true, named := ["math/bits.overflowError"], apart := false, narrowed := true }
def ScalarSumsUptoSaid : Prop := scalarSumsUptoRow.holds Try.pinned (OpenSpec.upto scalarSumsSpec)

/-- 'affiantlaw12.ScalarLaws', WHERE WHAT IT READS IS OF BULK AT MOST 1048576: true; the input reads as it did. -/
def scalarLawsUptoRow : OpenClaim := { program := "ytkpbjkhgiackpaa", sum := "3431335fcaaf32eae47fd0da1a74318bfa60771ce2b074bb11962411ca779bbe", func := "affiant/affiantlaw12.ScalarLaws", spec := "scalarLaws", unfollowed := true, recurses := true, named := ["math/bits.overflowError"], apart := false, narrowed := true }
def ScalarLawsUptoSaid : Prop := scalarLawsUptoRow.holds Try.pinned (OpenSpec.upto scalarLawsSpec)

/-- 'affiantlaw12.ScalarBack', WHERE WHAT IT READS IS OF BULK AT MOST 1048576: true; the input reads as it did. -/
def scalarBackUptoRow : OpenClaim := { program := "ytkpbjkhgiackpaa", sum := "3431335fcaaf32eae47fd0da1a74318bfa60771ce2b074bb11962411ca779bbe", func := "affiant/affiantlaw12.ScalarBack", spec := "scalarBack", unfollowed := true, recurses := true, named := ["math/bits.overflowError"], apart := false, narrowed := true }
def ScalarBackUptoSaid : Prop := scalarBackUptoRow.holds Try.pinned (OpenSpec.upto scalarBackSpec)

/-- 'affiantlaw12.ScalarBytes', WHERE WHAT IT READS IS OF BULK AT MOST 1048576: true; the input reads as it did. -/
def scalarBytesUptoRow : OpenClaim := { program := "ytkpbjkhgiackpaa", sum := "3431335fcaaf32eae47fd0da1a74318bfa60771ce2b074bb11962411ca779bbe", func := "affiant/affiantlaw12.ScalarBytes", spec := "scalarBytes", unfollowed := true, recurses := true, named := ["math/bits.overflowError"], apart := false, narrowed := true }
def ScalarBytesUptoSaid : Prop := scalarBytesUptoRow.holds Try.pinned (OpenSpec.upto scalarBytesSpec)

/-- 'affiantlaw10.RsaMessage', WHERE WHAT IT READS IS OF BULK AT MOST 1048576: true; the input reads as it did. -/
def rsaMessageUptoRow : OpenClaim := { program := "ytkpbjkhgiackpaa", sum := "3431335fcaaf32eae47fd0da1a74318bfa60771ce2b074bb11962411ca779bbe", func := "affiant/affiantlaw10.RsaMessage", spec := "rsaMessage", inPlace := ["internal/bytealg.MakeNoZero"], unfollowed := true, recurses := true, apart := false, narrowed := true }
def RsaMessageUptoSaid : Prop := rsaMessageUptoRow.holds Try.pinned (OpenSpec.upto rsaMessageSpec)

/-- 'affiantlaw10.RsaVerify', WHERE WHAT IT READS IS OF BULK AT MOST 1048576: true; the input reads as it did. -/
def rsaVerifyUptoRow : OpenClaim := { program := "ytkpbjkhgiackpaa", sum := "3431335fcaaf32eae47fd0da1a74318bfa60771ce2b074bb11962411ca779bbe", func := "affiant/affiantlaw10.RsaVerify", spec := "rsaVerify", inPlace := ["internal/bytealg.MakeNoZero"], unfollowed := true, recurses := true, named := ["math/bits.overflowError"], apart := false, narrowed := true }
def RsaVerifyUptoSaid : Prop := rsaVerifyUptoRow.holds Try.pinned (OpenSpec.upto rsaVerifySpec)

/-- 'affiantlaw10.RsaSign', WHERE WHAT IT READS IS OF BULK AT MOST 1048576: true; the input reads as it did. -/
def rsaSignUptoRow : OpenClaim := { program := "ytkpbjkhgiackpaa", sum := "3431335fcaaf32eae47fd0da1a74318bfa60771ce2b074bb11962411ca779bbe", func := "affiant/affiantlaw10.RsaSign", spec := "rsaSign", inPlace := ["internal/bytealg.MakeNoZero"], unfollowed := true, recurses := true, named := ["math/bits.overflowError"], apart := false, narrowed := true }
def RsaSignUptoSaid : Prop := rsaSignUptoRow.holds Try.pinned (OpenSpec.upto rsaSignSpec)

/-- 'affiantlaw10.RsaSigns', WHERE WHAT IT READS IS OF BULK AT MOST 1048576: true; the input reads as it did. -/
def rsaSignsUptoRow : OpenClaim := { program := "ytkpbjkhgiackpaa", sum := "3431335fcaaf32eae47fd0da1a74318bfa60771ce2b074bb11962411ca779bbe", func := "affiant/affiantlaw10.RsaSigns", spec := "rsaSigns", inPlace := ["internal/bytealg.MakeNoZero"], unfollowed := true, recurses := true, named := ["math/bits.overflowError"], apart := false, narrowed := true }
def RsaSignsUptoSaid : Prop := rsaSignsUptoRow.holds Try.pinned (OpenSpec.upto rsaSignsSpec)

/-- 'affiantlaw10.RsaOne', WHERE WHAT IT READS IS OF BULK AT MOST 1048576: true; the input reads as it did. -/
def rsaOneUptoRow : OpenClaim := { program := "ytkpbjkhgiackpaa", sum := "3431335fcaaf32eae47fd0da1a74318bfa60771ce2b074bb11962411ca779bbe", func := "affiant/affiantlaw10.RsaOne", spec := "rsaOne", inPlace := ["internal/bytealg.MakeNoZero"], unfollowed := true, recurses := true, named := ["math/bits.overflowError"], apart := false, narrowed := true }
def RsaOneUptoSaid : Prop := rsaOneUptoRow.holds Try.pinned (OpenSpec.upto rsaOneSpec)

/-- 'affiantlaw11.FieldLeft', WHERE WHAT IT READS IS OF BULK AT MOST 1048576: true; the input reads as it did. -/
def fieldLeftUptoRow : OpenClaim := { program := "ytkpbjkhgiackpaa", sum := "3431335fcaaf32eae47fd0da1a74318bfa60771ce2b074bb11962411ca779bbe", func := "affiant/affiantlaw11.FieldLeft", spec := "fieldLeft", inPlace := ["math/bits.Add64", "math/bits.Sub64"], unfollowed := true, recurses := true, named := ["math/bits.overflowError"], apart := false, narrowed := true }
def FieldLeftUptoSaid : Prop := fieldLeftUptoRow.holds Try.pinned (OpenSpec.upto fieldLeftSpec)

/-- 'affiantlaw04.NatBytes', WHERE WHAT IT READS IS OF BULK AT MOST 1048576: true; the input reads as it did. -/
def natBytesUptoRow : OpenClaim := { program := "ytkpbjkhgiackpaa", sum := "3431335fcaaf32eae47fd0da1a74318bfa60771ce2b074bb11962411ca779bbe", func := "affiant/affiantlaw04.NatBytes", spec := "natBytes", unfollowed := true, recurses := true, named := ["math/bits.overflowError"], apart := false, narrowed := true }
def NatBytesUptoSaid : Prop := natBytesUptoRow.holds Try.pinned (OpenSpec.upto natBytesSpec)

/-- 'affiantlaw04.NatBack', WHERE WHAT IT READS IS OF BULK AT MOST 1048576: true; the input reads as it did. -/
def natBackUptoRow : OpenClaim := { program := "ytkpbjkhgiackpaa", sum := "3431335fcaaf32eae47fd0da1a74318bfa60771ce2b074bb11962411ca779bbe", func := "affiant/affiantlaw04.NatBack", spec := "natBack", unfollowed := true, recurses := true, named := ["math/bits.overflowError"], apart := false, narrowed := true }
def NatBackUptoSaid : Prop := natBackUptoRow.holds Try.pinned (OpenSpec.upto natBackSpec)

end Rows
end Go.Proofs.Ytkpbjkhgiackpaa
