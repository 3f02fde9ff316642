/-
  No cell of these rows narrows 'for every input' (looked for: loops, veiled, ifaces, maps, wideKeys, modest, calm, conditions, laid).
  DERIVED. THE GIVEN ROWS OF THIS SEAT. 8 by the template 'for every input the law returns true; each argument reads behind the call as it read before'; 0 by the template 'total and deterministic' (their statements: YtjhfmlnfbmckfaaTotals.lean).
  GIVEN WITH THE SEED: the statements are not yours to turn. If you find one false, say at which input.
  Laid BY PROGRAM, IN A SANDBOX (cutbox-rows.mjs): the forced cells as the released guide's own fill.sh prints them over the translation 29c9bd09aeed6b79… (all of the seat's roots in one cut). By AI agents, Wed Nov 11 2026. No macro, syntax, notation, axiom, sorry.
-/
import Derived.Test.YtjhfmlnfbmckfaaChecked
import GoSem.Claim
import GoSem.ClaimJoined
import GoSem.ClaimMapViews
import Derived.JoinedTies
import Derived.KernelRfl
namespace Go.Proofs.Ytjhfmlnfbmckfaa
/- THE CELL 'sum', in the pinned program and in every row, IS THE sha256 OF THE DUMP (.gsa) THAT YtjhfmlnfbmckfaaProg.lean LOADS. Nothing in Lean hashes anything: it is a label: what it is worth is what the hold of that sum in a sandbox is worth. -/
noncomputable def Try.pinned : Pinned := { name := "ytjhfmlnfbmckfaa", sum := "29c9bd09aeed6b79b003f4b9091dde48db977b3289ac6963defce3b0830ad3be", checked := Try.checked }
namespace Rows
def none {H : Type} : Left H := { results := [], args := [] }

/-- 'affiantlaw13.EdwardsNumber': WHATEVER THE INPUT: true; the input reads as it did. -/
def edwardsNumberSpec : ChangeSpec := { name := "edwardsNumber", fn := fun _ => fun
  | [] => { results := [.lit (.bool true)], args := [] }
  | _ => none }
def edwardsNumberRow : OpenClaim := { program := "ytjhfmlnfbmckfaa", sum := "29c9bd09aeed6b79b003f4b9091dde48db977b3289ac6963defce3b0830ad3be", func := "affiant/affiantlaw13.EdwardsNumber", spec := "edwardsNumber", inPlace := ["math/bits.Add64", "math/bits.Sub64"], apart := false }
def EdwardsNumberSaid : Prop := edwardsNumberRow.holds Try.pinned (OpenSpec.ofChange edwardsNumberSpec)

/-- ITS FALSE NEIGHBOUR: 'it returns false'. Refute it at one input. -/
def edwardsNumberWrong : ChangeSpec := { name := "edwardsNumber", fn := fun _ => fun
  | [] => { results := [.lit (.bool false)], args := [] }
  | _ => none }
def EdwardsNumberWrongFalsely : Prop := edwardsNumberRow.holds Try.pinned (OpenSpec.ofChange edwardsNumberWrong)

/-- 'affiantlaw13.EdwardsOn': WHATEVER THE INPUT: true; the input reads as it did. -/
def edwardsOnSpec : ChangeSpec := { name := "edwardsOn", fn := fun _ => fun
  | [d] => { results := [.lit (.bool true)], args := [d] }
  | _ => none }
def edwardsOnRow : OpenClaim := { program := "ytjhfmlnfbmckfaa", sum := "29c9bd09aeed6b79b003f4b9091dde48db977b3289ac6963defce3b0830ad3be", func := "affiant/affiantlaw13.EdwardsOn", spec := "edwardsOn", inPlace := ["math/bits.Add64", "math/bits.Sub64"], apart := false }
def EdwardsOnSaid : Prop := edwardsOnRow.holds Try.pinned (OpenSpec.ofChange edwardsOnSpec)

/-- ITS FALSE NEIGHBOUR: 'it returns false'. Refute it at one input. -/
def edwardsOnWrong : ChangeSpec := { name := "edwardsOn", fn := fun _ => fun
  | [d] => { results := [.lit (.bool false)], args := [d] }
  | _ => none }
def EdwardsOnWrongFalsely : Prop := edwardsOnRow.holds Try.pinned (OpenSpec.ofChange edwardsOnWrong)

/-- 'affiantlaw13.EdwardsAdd': WHATEVER THE INPUT: true; the input reads as it did. -/
def edwardsAddSpec : ChangeSpec := { name := "edwardsAdd", fn := fun _ => fun
  | [d1, d2] => { results := [.lit (.bool true)], args := [d1, d2] }
  | _ => none }
def edwardsAddRow : OpenClaim := { program := "ytjhfmlnfbmckfaa", sum := "29c9bd09aeed6b79b003f4b9091dde48db977b3289ac6963defce3b0830ad3be", func := "affiant/affiantlaw13.EdwardsAdd", spec := "edwardsAdd", inPlace := ["math/bits.Add64", "math/bits.Sub64"], apart := false }
def EdwardsAddSaid : Prop := edwardsAddRow.holds Try.pinned (OpenSpec.ofChange edwardsAddSpec)

/-- ITS FALSE NEIGHBOUR: 'it returns false'. Refute it at one input. -/
def edwardsAddWrong : ChangeSpec := { name := "edwardsAdd", fn := fun _ => fun
  | [d1, d2] => { results := [.lit (.bool false)], args := [d1, d2] }
  | _ => none }
def EdwardsAddWrongFalsely : Prop := edwardsAddRow.holds Try.pinned (OpenSpec.ofChange edwardsAddWrong)

/-- 'affiantlaw13.EdwardsGroup': WHATEVER THE INPUT: true; the input reads as it did. -/
def edwardsGroupSpec : ChangeSpec := { name := "edwardsGroup", fn := fun _ => fun
  | [d1, d2, d3] => { results := [.lit (.bool true)], args := [d1, d2, d3] }
  | _ => none }
def edwardsGroupRow : OpenClaim := { program := "ytjhfmlnfbmckfaa", sum := "29c9bd09aeed6b79b003f4b9091dde48db977b3289ac6963defce3b0830ad3be", func := "affiant/affiantlaw13.EdwardsGroup", spec := "edwardsGroup", inPlace := ["math/bits.Add64", "math/bits.Sub64"], apart := false }
def EdwardsGroupSaid : Prop := edwardsGroupRow.holds Try.pinned (OpenSpec.ofChange edwardsGroupSpec)

/-- ITS FALSE NEIGHBOUR: 'it returns false'. Refute it at one input. -/
def edwardsGroupWrong : ChangeSpec := { name := "edwardsGroup", fn := fun _ => fun
  | [d1, d2, d3] => { results := [.lit (.bool false)], args := [d1, d2, d3] }
  | _ => none }
def EdwardsGroupWrongFalsely : Prop := edwardsGroupRow.holds Try.pinned (OpenSpec.ofChange edwardsGroupWrong)

/-- 'affiantlaw13.EdwardsMul': WHATEVER THE INPUT: true; the input reads as it did. -/
def edwardsMulSpec : ChangeSpec := { name := "edwardsMul", fn := fun _ => fun
  | [d1, d2] => { results := [.lit (.bool true)], args := [d1, d2] }
  | _ => none }
def edwardsMulRow : OpenClaim := { program := "ytjhfmlnfbmckfaa", sum := "29c9bd09aeed6b79b003f4b9091dde48db977b3289ac6963defce3b0830ad3be", func := "affiant/affiantlaw13.EdwardsMul", spec := "edwardsMul", inPlace := ["math/bits.Add64", "math/bits.Sub64"], apart := false }
def EdwardsMulSaid : Prop := edwardsMulRow.holds Try.pinned (OpenSpec.ofChange edwardsMulSpec)

/-- ITS FALSE NEIGHBOUR: 'it returns false'. Refute it at one input. -/
def edwardsMulWrong : ChangeSpec := { name := "edwardsMul", fn := fun _ => fun
  | [d1, d2] => { results := [.lit (.bool false)], args := [d1, d2] }
  | _ => none }
def EdwardsMulWrongFalsely : Prop := edwardsMulRow.holds Try.pinned (OpenSpec.ofChange edwardsMulWrong)

/-- 'affiantlaw13.EdwardsUnpack': WHATEVER THE INPUT: true; the input reads as it did. -/
def edwardsUnpackSpec : ChangeSpec := { name := "edwardsUnpack", fn := fun _ => fun
  | [d] => { results := [.lit (.bool true)], args := [d] }
  | _ => none }
def edwardsUnpackRow : OpenClaim := { program := "ytjhfmlnfbmckfaa", sum := "29c9bd09aeed6b79b003f4b9091dde48db977b3289ac6963defce3b0830ad3be", func := "affiant/affiantlaw13.EdwardsUnpack", spec := "edwardsUnpack", inPlace := ["math/bits.Sub64", "math/bits.Add64"], apart := false }
def EdwardsUnpackSaid : Prop := edwardsUnpackRow.holds Try.pinned (OpenSpec.ofChange edwardsUnpackSpec)

/-- ITS FALSE NEIGHBOUR: 'it returns false'. Refute it at one input. -/
def edwardsUnpackWrong : ChangeSpec := { name := "edwardsUnpack", fn := fun _ => fun
  | [d] => { results := [.lit (.bool false)], args := [d] }
  | _ => none }
def EdwardsUnpackWrongFalsely : Prop := edwardsUnpackRow.holds Try.pinned (OpenSpec.ofChange edwardsUnpackWrong)

/-- 'affiantlaw13.EdwardsBack': WHATEVER THE INPUT: true; the input reads as it did. -/
def edwardsBackSpec : ChangeSpec := { name := "edwardsBack", fn := fun _ => fun
  | [d1, d2] => { results := [.lit (.bool true)], args := [d1, d2] }
  | _ => none }
def edwardsBackRow : OpenClaim := { program := "ytjhfmlnfbmckfaa", sum := "29c9bd09aeed6b79b003f4b9091dde48db977b3289ac6963defce3b0830ad3be", func := "affiant/affiantlaw13.EdwardsBack", spec := "edwardsBack", inPlace := ["math/bits.Sub64", "math/bits.Add64"], apart := false }
def EdwardsBackSaid : Prop := edwardsBackRow.holds Try.pinned (OpenSpec.ofChange edwardsBackSpec)

/-- ITS FALSE NEIGHBOUR: 'it returns false'. Refute it at one input. -/
def edwardsBackWrong : ChangeSpec := { name := "edwardsBack", fn := fun _ => fun
  | [d1, d2] => { results := [.lit (.bool false)], args := [d1, d2] }
  | _ => none }
def EdwardsBackWrongFalsely : Prop := edwardsBackRow.holds Try.pinned (OpenSpec.ofChange edwardsBackWrong)

/-- 'affiantlaw13.EdwardsTimes': WHATEVER THE INPUT: true; the input reads as it did. -/
def edwardsTimesSpec : ChangeSpec := { name := "edwardsTimes", fn := fun _ => fun
  | [d1, d2, d3] => { results := [.lit (.bool true)], args := [d1, d2, d3] }
  | _ => none }
def edwardsTimesRow : OpenClaim := { program := "ytjhfmlnfbmckfaa", sum := "29c9bd09aeed6b79b003f4b9091dde48db977b3289ac6963defce3b0830ad3be", func := "affiant/affiantlaw13.EdwardsTimes", spec := "edwardsTimes", inPlace := ["math/bits.Add64", "math/bits.Sub64"], apart := false }
def EdwardsTimesSaid : Prop := edwardsTimesRow.holds Try.pinned (OpenSpec.ofChange edwardsTimesSpec)

/-- ITS FALSE NEIGHBOUR: 'it returns false'. Refute it at one input. -/
def edwardsTimesWrong : ChangeSpec := { name := "edwardsTimes", fn := fun _ => fun
  | [d1, d2, d3] => { results := [.lit (.bool false)], args := [d1, d2, d3] }
  | _ => none }
def EdwardsTimesWrongFalsely : Prop := edwardsTimesRow.holds Try.pinned (OpenSpec.ofChange edwardsTimesWrong)

/- THE SECOND FORM. 'bulk': how many values and letters a reading holds, each counted each time it is reached (what is shared counts as often as it is met; a slice's spare places count too). A statement '..UptoSaid' is the law's where the arguments, and the package variables that the reading takes, are together of bulk at most 1048576: NARROWER than '..Said'. Prove '..Said' where nothing that the law and all that it calls make is longer than what came in: it says more and counts as full. Else prove '..UptoSaid'. A law counts once. -/
mutual
def uptoBulk {H : Type} : DataW H → Nat
  | .lit (.string bytes) => bytes.length + 1
  | .lit _ => 1
  | .nil => 1
  | .ptr d => uptoBulk d + 1
  | .slice elems spare => uptoBulkAll elems + uptoBulkAll spare + 1
  | .agg parts => uptoBulkAll parts + 1
  | .iface _ d => uptoBulk d + 1
  | .map entries => uptoBulkEntries entries + 1
  | .held _ => 1
def uptoBulkAll {H : Type} : List (DataW H) → Nat
  | [] => 0
  | d :: r => uptoBulk d + uptoBulkAll r
def uptoBulkEntries {H : Type} : List (Lit × DataW H) → Nat
  | [] => 0
  | x :: r => uptoBulkEntry x + uptoBulkEntries r
def uptoBulkEntry {H : Type} : Lit × DataW H → Nat
  | (.string bytes, d) => bytes.length + uptoBulk d + 1
  | (_, d) => uptoBulk d + 1
 end
def uptoSmall : (H : Type) → List (DataW H) → Bool := fun _ ds => decide (uptoBulkAll ds ≤ 1048576)
def OpenSpec.upto (s : _root_.Go.ChangeSpec) : _root_.Go.OpenSpec := { _root_.Go.OpenSpec.ofChange s with cond := some uptoSmall }

/-- 'affiantlaw13.EdwardsNumber', WHERE WHAT IT READS IS OF BULK AT MOST 1048576: true; the input reads as it did. -/
def edwardsNumberUptoRow : OpenClaim := { program := "ytjhfmlnfbmckfaa", sum := "29c9bd09aeed6b79b003f4b9091dde48db977b3289ac6963defce3b0830ad3be", func := "affiant/affiantlaw13.EdwardsNumber", spec := "edwardsNumber", inPlace := ["math/bits.Add64", "math/bits.Sub64"], apart := false, narrowed := true }
def EdwardsNumberUptoSaid : Prop := edwardsNumberUptoRow.holds Try.pinned (OpenSpec.upto edwardsNumberSpec)

/-- 'affiantlaw13.EdwardsOn', WHERE WHAT IT READS IS OF BULK AT MOST 1048576: true; the input reads as it did. -/
def edwardsOnUptoRow : OpenClaim := { program := "ytjhfmlnfbmckfaa", sum := "29c9bd09aeed6b79b003f4b9091dde48db977b3289ac6963defce3b0830ad3be", func := "affiant/affiantlaw13.EdwardsOn", spec := "edwardsOn", inPlace := ["math/bits.Add64", "math/bits.Sub64"], apart := false, narrowed := true }
def EdwardsOnUptoSaid : Prop := edwardsOnUptoRow.holds Try.pinned (OpenSpec.upto edwardsOnSpec)

/-- 'affiantlaw13.EdwardsAdd', WHERE WHAT IT READS IS OF BULK AT MOST 1048576: true; the input reads as it did. -/
def edwardsAddUptoRow : OpenClaim := { program := "ytjhfmlnfbmckfaa", sum := "29c9bd09aeed6b79b003f4b9091dde48db977b3289ac6963defce3b0830ad3be", func := "affiant/affiantlaw13.EdwardsAdd", spec := "edwardsAdd", inPlace := ["math/bits.Add64", "math/bits.Sub64"], apart := false, narrowed := true }
def EdwardsAddUptoSaid : Prop := edwardsAddUptoRow.holds Try.pinned (OpenSpec.upto edwardsAddSpec)

/-- 'affiantlaw13.EdwardsGroup', WHERE WHAT IT READS IS OF BULK AT MOST 1048576: true; the input reads as it did. -/
def edwardsGroupUptoRow : OpenClaim := { program := "ytjhfmlnfbmckfaa", sum := "29c9bd09aeed6b79b003f4b9091dde48db977b3289ac6963defce3b0830ad3be", func := "affiant/affiantlaw13.EdwardsGroup", spec := "edwardsGroup", inPlace := ["math/bits.Add64", "math/bits.Sub64"], apart := false, narrowed := true }
def EdwardsGroupUptoSaid : Prop := edwardsGroupUptoRow.holds Try.pinned (OpenSpec.upto edwardsGroupSpec)

/-- 'affiantlaw13.EdwardsMul', WHERE WHAT IT READS IS OF BULK AT MOST 1048576: true; the input reads as it did. -/
def edwardsMulUptoRow : OpenClaim := { program := "ytjhfmlnfbmckfaa", sum := "29c9bd09aeed6b79b003f4b9091dde48db977b3289ac6963defce3b0830ad3be", func := "affiant/affiantlaw13.EdwardsMul", spec := "edwardsMul", inPlace := ["math/bits.Add64", "math/bits.Sub64"], apart := false, narrowed := true }
def EdwardsMulUptoSaid : Prop := edwardsMulUptoRow.holds Try.pinned (OpenSpec.upto edwardsMulSpec)

/-- 'affiantlaw13.EdwardsUnpack', WHERE WHAT IT READS IS OF BULK AT MOST 1048576: true; the input reads as it did. -/
def edwardsUnpackUptoRow : OpenClaim := { program := "ytjhfmlnfbmckfaa", sum := "29c9bd09aeed6b79b003f4b9091dde48db977b3289ac6963defce3b0830ad3be", func := "affiant/affiantlaw13.EdwardsUnpack", spec := "edwardsUnpack", inPlace := ["math/bits.Sub64", "math/bits.Add64"], apart := false, narrowed := true }
def EdwardsUnpackUptoSaid : Prop := edwardsUnpackUptoRow.holds Try.pinned (OpenSpec.upto edwardsUnpackSpec)

/-- 'affiantlaw13.EdwardsBack', WHERE WHAT IT READS IS OF BULK AT MOST 1048576: true; the input reads as it did. -/
def edwardsBackUptoRow : OpenClaim := { program := "ytjhfmlnfbmckfaa", sum := "29c9bd09aeed6b79b003f4b9091dde48db977b3289ac6963defce3b0830ad3be", func := "affiant/affiantlaw13.EdwardsBack", spec := "edwardsBack", inPlace := ["math/bits.Sub64", "math/bits.Add64"], apart := false, narrowed := true }
def EdwardsBackUptoSaid : Prop := edwardsBackUptoRow.holds Try.pinned (OpenSpec.upto edwardsBackSpec)

/-- 'affiantlaw13.EdwardsTimes', WHERE WHAT IT READS IS OF BULK AT MOST 1048576: true; the input reads as it did. -/
def edwardsTimesUptoRow : OpenClaim := { program := "ytjhfmlnfbmckfaa", sum := "29c9bd09aeed6b79b003f4b9091dde48db977b3289ac6963defce3b0830ad3be", func := "affiant/affiantlaw13.EdwardsTimes", spec := "edwardsTimes", inPlace := ["math/bits.Add64", "math/bits.Sub64"], apart := false, narrowed := true }
def EdwardsTimesUptoSaid : Prop := edwardsTimesUptoRow.holds Try.pinned (OpenSpec.upto edwardsTimesSpec)

end Rows
end Go.Proofs.Ytjhfmlnfbmckfaa
