/-
  No cell of these rows narrows 'for every input' (looked for: loops, veiled, ifaces, maps, wideKeys, modest, calm, conditions, laid).
  DERIVED. THE GIVEN ROWS OF THIS SEAT. 8 by the template 'for every input the law returns true; each argument reads behind the call as it read before'; 0 by the template 'total and deterministic' (their statements: YtjleiifcigojoaaTotals.lean).
  GIVEN WITH THE SEED: the statements are not yours to turn. If you find one false, say at which input.
  Laid BY PROGRAM, IN A SANDBOX (cutbox-rows.mjs): the forced cells as the released guide's own fill.sh prints them over the translation 34548c3ca3c7224a… (all of the seat's roots in one cut). By AI agents, Wed Nov 11 2026. No macro, syntax, notation, axiom, sorry.
-/
import Derived.Test.YtjleiifcigojoaaChecked
import GoSem.Claim
import GoSem.ClaimJoined
import GoSem.ClaimMapViews
import Derived.JoinedTies
import Derived.KernelRfl
namespace Go.Proofs.Ytjleiifcigojoaa
/- THE CELL 'sum', in the pinned program and in every row, IS THE sha256 OF THE DUMP (.gsa) THAT YtjleiifcigojoaaProg.lean LOADS. Nothing in Lean hashes anything: it is a label: what it is worth is what the hold of that sum in a sandbox is worth. -/
noncomputable def Try.pinned : Pinned := { name := "ytjleiifcigojoaa", sum := "34548c3ca3c7224a2987f5820daf59dd2b22957ae863b45b30619e594ed71151", checked := Try.checked }
namespace Rows
def none {H : Type} : Left H := { results := [], args := [] }

/-- 'affiantlaw04.NatDiv': WHATEVER THE INPUT: true; the input reads as it did. -/
def natDivSpec : ChangeSpec := { name := "natDiv", fn := fun _ => fun
  | [d1, d2] => { results := [.lit (.bool true)], args := [d1, d2] }
  | _ => none }
def natDivRow : OpenClaim := { program := "ytjleiifcigojoaa", sum := "34548c3ca3c7224a2987f5820daf59dd2b22957ae863b45b30619e594ed71151", func := "affiant/affiantlaw04.NatDiv", spec := "natDiv", unfollowed := true, recurses := true, named := ["math/bits.overflowError"], apart := false }
def NatDivSaid : Prop := natDivRow.holds Try.pinned (OpenSpec.ofChange natDivSpec)

/-- ITS FALSE NEIGHBOUR: 'it returns false'. Refute it at one input. -/
def natDivWrong : ChangeSpec := { name := "natDiv", fn := fun _ => fun
  | [d1, d2] => { results := [.lit (.bool false)], args := [d1, d2] }
  | _ => none }
def NatDivWrongFalsely : Prop := natDivRow.holds Try.pinned (OpenSpec.ofChange natDivWrong)

/-- 'affiantlaw04.NatShifts': WHATEVER THE INPUT: true; the input reads as it did. -/
def natShiftsSpec : ChangeSpec := { name := "natShifts", fn := fun _ => fun
  | [d1, d2] => { results := [.lit (.bool true)], args := [d1, d2] }
  | _ => none }
def natShiftsRow : OpenClaim := { program := "ytjleiifcigojoaa", sum := "34548c3ca3c7224a2987f5820daf59dd2b22957ae863b45b30619e594ed71151", func := "affiant/affiantlaw04.NatShifts", spec := "natShifts", unfollowed := true, recurses := true, named := ["math/bits.overflowError"], apart := false }
def NatShiftsSaid : Prop := natShiftsRow.holds Try.pinned (OpenSpec.ofChange natShiftsSpec)

/-- ITS FALSE NEIGHBOUR: 'it returns false'. Refute it at one input. -/
def natShiftsWrong : ChangeSpec := { name := "natShifts", fn := fun _ => fun
  | [d1, d2] => { results := [.lit (.bool false)], args := [d1, d2] }
  | _ => none }
def NatShiftsWrongFalsely : Prop := natShiftsRow.holds Try.pinned (OpenSpec.ofChange natShiftsWrong)

/-- 'affiantlaw04.NatMul': WHATEVER THE INPUT: true; the input reads as it did. -/
def natMulSpec : ChangeSpec := { name := "natMul", fn := fun _ => fun
  | [d1, d2, d3] => { results := [.lit (.bool true)], args := [d1, d2, d3] }
  | _ => none }
def natMulRow : OpenClaim := { program := "ytjleiifcigojoaa", sum := "34548c3ca3c7224a2987f5820daf59dd2b22957ae863b45b30619e594ed71151", func := "affiant/affiantlaw04.NatMul", spec := "natMul", unfollowed := true, recurses := true, named := ["math/bits.overflowError"], apart := false }
def NatMulSaid : Prop := natMulRow.holds Try.pinned (OpenSpec.ofChange natMulSpec)

/-- ITS FALSE NEIGHBOUR: 'it returns false'. Refute it at one input. -/
def natMulWrong : ChangeSpec := { name := "natMul", fn := fun _ => fun
  | [d1, d2, d3] => { results := [.lit (.bool false)], args := [d1, d2, d3] }
  | _ => none }
def NatMulWrongFalsely : Prop := natMulRow.holds Try.pinned (OpenSpec.ofChange natMulWrong)

/-- 'affiantlaw04.NatLaws': WHATEVER THE INPUT: true; the input reads as it did. -/
def natLawsSpec : ChangeSpec := { name := "natLaws", fn := fun _ => fun
  | [d1, d2, d3] => { results := [.lit (.bool true)], args := [d1, d2, d3] }
  | _ => none }
def natLawsRow : OpenClaim := { program := "ytjleiifcigojoaa", sum := "34548c3ca3c7224a2987f5820daf59dd2b22957ae863b45b30619e594ed71151", func := "affiant/affiantlaw04.NatLaws", spec := "natLaws", unfollowed := true, recurses := true, named := ["math/bits.overflowError"], apart := false }
def NatLawsSaid : Prop := natLawsRow.holds Try.pinned (OpenSpec.ofChange natLawsSpec)

/-- ITS FALSE NEIGHBOUR: 'it returns false'. Refute it at one input. -/
def natLawsWrong : ChangeSpec := { name := "natLaws", fn := fun _ => fun
  | [d1, d2, d3] => { results := [.lit (.bool false)], args := [d1, d2, d3] }
  | _ => none }
def NatLawsWrongFalsely : Prop := natLawsRow.holds Try.pinned (OpenSpec.ofChange natLawsWrong)

/-- 'affiantlaw04.NatSums': WHATEVER THE INPUT: true; the input reads as it did. -/
def natSumsSpec : ChangeSpec := { name := "natSums", fn := fun _ => fun
  | [d1, d2, d3] => { results := [.lit (.bool true)], args := [d1, d2, d3] }
  | _ => none }
def natSumsRow : OpenClaim := { program := "ytjleiifcigojoaa", sum := "34548c3ca3c7224a2987f5820daf59dd2b22957ae863b45b30619e594ed71151", func := "affiant/affiantlaw04.NatSums", spec := "natSums", unfollowed := true, recurses := true, named := ["math/bits.overflowError"], apart := false }
def NatSumsSaid : Prop := natSumsRow.holds Try.pinned (OpenSpec.ofChange natSumsSpec)

/-- ITS FALSE NEIGHBOUR: 'it returns false'. Refute it at one input. -/
def natSumsWrong : ChangeSpec := { name := "natSums", fn := fun _ => fun
  | [d1, d2, d3] => { results := [.lit (.bool false)], args := [d1, d2, d3] }
  | _ => none }
def NatSumsWrongFalsely : Prop := natSumsRow.holds Try.pinned (OpenSpec.ofChange natSumsWrong)

/-- 'affiantlaw04.NatBytes': WHATEVER THE INPUT: true; the input reads as it did. -/
def natBytesSpec : ChangeSpec := { name := "natBytes", fn := fun _ => fun
  | [d1, d2, d3] => { results := [.lit (.bool true)], args := [d1, d2, d3] }
  | _ => none }
def natBytesRow : OpenClaim := { program := "ytjleiifcigojoaa", sum := "34548c3ca3c7224a2987f5820daf59dd2b22957ae863b45b30619e594ed71151", func := "affiant/affiantlaw04.NatBytes", spec := "natBytes", unfollowed := true, recurses := true, named := ["math/bits.overflowError"], apart := false }
def NatBytesSaid : Prop := natBytesRow.holds Try.pinned (OpenSpec.ofChange natBytesSpec)

/-- ITS FALSE NEIGHBOUR: 'it returns false'. Refute it at one input. -/
def natBytesWrong : ChangeSpec := { name := "natBytes", fn := fun _ => fun
  | [d1, d2, d3] => { results := [.lit (.bool false)], args := [d1, d2, d3] }
  | _ => none }
def NatBytesWrongFalsely : Prop := natBytesRow.holds Try.pinned (OpenSpec.ofChange natBytesWrong)

/-- 'affiantlaw04.NatUndone': WHATEVER THE INPUT: true; the input reads as it did. -/
def natUndoneSpec : ChangeSpec := { name := "natUndone", fn := fun _ => fun
  | [d1, d2] => { results := [.lit (.bool true)], args := [d1, d2] }
  | _ => none }
def natUndoneRow : OpenClaim := { program := "ytjleiifcigojoaa", sum := "34548c3ca3c7224a2987f5820daf59dd2b22957ae863b45b30619e594ed71151", func := "affiant/affiantlaw04.NatUndone", spec := "natUndone", unfollowed := true, recurses := true, named := ["math/bits.overflowError"], apart := false }
def NatUndoneSaid : Prop := natUndoneRow.holds Try.pinned (OpenSpec.ofChange natUndoneSpec)

/-- ITS FALSE NEIGHBOUR: 'it returns false'. Refute it at one input. -/
def natUndoneWrong : ChangeSpec := { name := "natUndone", fn := fun _ => fun
  | [d1, d2] => { results := [.lit (.bool false)], args := [d1, d2] }
  | _ => none }
def NatUndoneWrongFalsely : Prop := natUndoneRow.holds Try.pinned (OpenSpec.ofChange natUndoneWrong)

/-- 'affiantlaw04.NatBack': WHATEVER THE INPUT: true; the input reads as it did. -/
def natBackSpec : ChangeSpec := { name := "natBack", fn := fun _ => fun
  | [d1, d2] => { results := [.lit (.bool true)], args := [d1, d2] }
  | _ => none }
def natBackRow : OpenClaim := { program := "ytjleiifcigojoaa", sum := "34548c3ca3c7224a2987f5820daf59dd2b22957ae863b45b30619e594ed71151", func := "affiant/affiantlaw04.NatBack", spec := "natBack", unfollowed := true, recurses := true, named := ["math/bits.overflowError"], apart := false }
def NatBackSaid : Prop := natBackRow.holds Try.pinned (OpenSpec.ofChange natBackSpec)

/-- ITS FALSE NEIGHBOUR: 'it returns false'. Refute it at one input. -/
def natBackWrong : ChangeSpec := { name := "natBack", fn := fun _ => fun
  | [d1, d2] => { results := [.lit (.bool false)], args := [d1, d2] }
  | _ => none }
def NatBackWrongFalsely : Prop := natBackRow.holds Try.pinned (OpenSpec.ofChange natBackWrong)

/- THE SECOND FORM. 'bulk': how many values and letters a reading holds, each counted each time it is reached (what is shared counts as often as it is met; a slice's spare places count too). A statement '..UptoSaid' is the law's where the arguments, and the package variables that the reading takes, are together of bulk at most 1048576: NARROWER than '..Said'. Prove '..Said' where nothing that the law and all that it calls make is longer than what came in: it says more and counts as full. Else prove '..UptoSaid'. A law counts once. -/
mutual
def uptoBulk {H : Type} : DataW H → Nat
  | .lit (.string bytes) => bytes.length + 1
  | .lit _ => 1
  | .nil => 1
  | .ptr d => uptoBulk d + 1
  | .slice elems spare => uptoBulkAll elems + uptoBulkAll spare + 1
  | .agg parts => uptoBulkAll parts + 1
  | .iface _ d => uptoBulk d + 1
  | .map entries => uptoBulkEntries entries + 1
  | .held _ => 1
def uptoBulkAll {H : Type} : List (DataW H) → Nat
  | [] => 0
  | d :: r => uptoBulk d + uptoBulkAll r
def uptoBulkEntries {H : Type} : List (Lit × DataW H) → Nat
  | [] => 0
  | x :: r => uptoBulkEntry x + uptoBulkEntries r
def uptoBulkEntry {H : Type} : Lit × DataW H → Nat
  | (.string bytes, d) => bytes.length + uptoBulk d + 1
  | (_, d) => uptoBulk d + 1
 end
def uptoSmall : (H : Type) → List (DataW H) → Bool := fun _ ds => decide (uptoBulkAll ds ≤ 1048576)
def OpenSpec.upto (s : _root_.Go.ChangeSpec) : _root_.Go.OpenSpec := { _root_.Go.OpenSpec.ofChange s with cond := some uptoSmall }

/-- 'affiantlaw04.NatDiv', WHERE WHAT IT READS IS OF BULK AT MOST 1048576: true; the input reads as it did. -/
def natDivUptoRow : OpenClaim := { program := "ytjleiifcigojoaa", sum := "34548c3ca3c7224a2987f5820daf59dd2b22957ae863b45b30619e594ed71151", func := "affiant/affiantlaw04.NatDiv", spec := "natDiv", unfollowed := true, recurses := true, named := ["math/bits.overflowError"], apart := false, narrowed := true }
def NatDivUptoSaid : Prop := natDivUptoRow.holds Try.pinned (OpenSpec.upto natDivSpec)

/-- 'affiantlaw04.NatShifts', WHERE WHAT IT READS IS OF BULK AT MOST 1048576: true; the input reads as it did. -/
def natShiftsUptoRow : OpenClaim := { program := "ytjleiifcigojoaa", sum := "34548c3ca3c7224a2987f5820daf59dd2b22957ae863b45b30619e594ed71151", func := "affiant/affiantlaw04.NatShifts", spec := "natShifts", unfollowed := true, recurses := true, named := ["math/bits.overflowError"], apart := false, narrowed := true }
def NatShiftsUptoSaid : Prop := natShiftsUptoRow.holds Try.pinned (OpenSpec.upto natShiftsSpec)

/-- 'affiantlaw04.NatMul', WHERE WHAT IT READS IS OF BULK AT MOST 1048576: true; the input reads as it did. -/
def natMulUptoRow : OpenClaim := { program := "ytjleiifcigojoaa", sum := "34548c3ca3c7224a2987f5820daf59dd2b22957ae863b45b30619e594ed71151", func := "affiant/affiantlaw04.NatMul", spec := "natMul", unfollowed := true, recurses := true, named := ["math/bits.overflowError"], apart := false, narrowed := true }
def NatMulUptoSaid : Prop := natMulUptoRow.holds Try.pinned (OpenSpec.upto natMulSpec)

/-- 'affiantlaw04.NatLaws', WHERE WHAT IT READS IS OF BULK AT MOST 1048576: true; the input reads as it did. -/
def natLawsUptoRow : OpenClaim := { program := "ytjleiifcigojoaa", sum := "34548c3ca3c7224a2987f5820daf59dd2b22957ae863b45b30619e594ed71151", func := "affiant/affiantlaw04.NatLaws", spec := "natLaws", unfollowed := true, recurses := true, named := ["math/bits.overflowError"], apart := false, narrowed := true }
def NatLawsUptoSaid : Prop := natLawsUptoRow.holds Try.pinned (OpenSpec.upto natLawsSpec)

/-- 'affiantlaw04.NatSums', WHERE WHAT IT READS IS OF BULK AT MOST 1048576: true; the input reads as it did. -/
def natSumsUptoRow : OpenClaim := { program := "ytjleiifcigojoaa", sum := "34548c3ca3c7224a2987f5820daf59dd2b22957ae863b45b30619e594ed71151", func := "affiant/affiantlaw04.NatSums", spec := "natSums", unfollowed := true, recurses := true, named := ["math/bits.overflowError"], apart := false, narrowed := true }
def NatSumsUptoSaid : Prop := natSumsUptoRow.holds Try.pinned (OpenSpec.upto natSumsSpec)

/-- 'affiantlaw04.NatBytes', WHERE WHAT IT READS IS OF BULK AT MOST 1048576: true; the input reads as it did. -/
def natBytesUptoRow : OpenClaim := { program := "ytjleiifcigojoaa", sum := "34548c3ca3c7224a2987f5820daf59dd2b22957ae863b45b30619e594ed71151", func := "affiant/affiantlaw04.NatBytes", spec := "natBytes", unfollowed := true, recurses := true, named := ["math/bits.overflowError"], apart := false, narrowed := true }
def NatBytesUptoSaid : Prop := natBytesUptoRow.holds Try.pinned (OpenSpec.upto natBytesSpec)

/-- 'affiantlaw04.NatUndone', WHERE WHAT IT READS IS OF BULK AT MOST 1048576: true; the input reads as it did. -/
def natUndoneUptoRow : OpenClaim := { program := "ytjleiifcigojoaa", sum := "34548c3ca3c7224a2987f5820daf59dd2b22957ae863b45b30619e594ed71151", func := "affiant/affiantlaw04.NatUndone", spec := "natUndone", unfollowed := true, recurses := true, named := ["math/bits.overflowError"], apart := false, narrowed := true }
def NatUndoneUptoSaid : Prop := natUndoneUptoRow.holds Try.pinned (OpenSpec.upto natUndoneSpec)

/-- 'affiantlaw04.NatBack', WHERE WHAT IT READS IS OF BULK AT MOST 1048576: true; the input reads as it did. -/
def natBackUptoRow : OpenClaim := { program := "ytjleiifcigojoaa", sum := "34548c3ca3c7224a2987f5820daf59dd2b22957ae863b45b30619e594ed71151", func := "affiant/affiantlaw04.NatBack", spec := "natBack", unfollowed := true, recurses := true, named := ["math/bits.overflowError"], apart := false, narrowed := true }
def NatBackUptoSaid : Prop := natBackUptoRow.holds Try.pinned (OpenSpec.upto natBackSpec)

end Rows
end Go.Proofs.Ytjleiifcigojoaa
