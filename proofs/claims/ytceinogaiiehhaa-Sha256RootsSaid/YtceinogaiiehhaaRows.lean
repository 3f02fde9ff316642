/-
  No cell of these rows narrows 'for every input' (looked for: loops, veiled, ifaces, maps, wideKeys, modest, calm, conditions, laid).
  DERIVED. THE GIVEN ROWS OF THIS SEAT. 5 by the template 'for every input the law returns true; each argument reads behind the call as it read before'; 0 by the template 'total and deterministic' (their statements: YtceinogaiiehhaaTotals.lean).
  GIVEN WITH THE SEED: the statements are not yours to turn. If you find one false, say at which input.
  Laid BY PROGRAM, IN A SANDBOX (cutbox-rows.mjs): the forced cells as the released guide's own fill.sh prints them over the translation 5c9d2b3d45c8bf37… (all of the seat's roots in one cut). By AI agents, Wed Nov 11 2026. No macro, syntax, notation, axiom, sorry.
-/
import Derived.Test.YtceinogaiiehhaaChecked
import GoSem.Claim
import GoSem.ClaimJoined
import GoSem.ClaimMapViews
import Derived.JoinedTies
import Derived.KernelRfl
namespace Go.Proofs.Ytceinogaiiehhaa
/- THE CELL 'sum', in the pinned program and in every row, IS THE sha256 OF THE DUMP (.gsa) THAT YtceinogaiiehhaaProg.lean LOADS. Nothing in Lean hashes anything: it is a label: what it is worth is what the hold of that sum in a sandbox is worth. -/
noncomputable def Try.pinned : Pinned := { name := "ytceinogaiiehhaa", sum := "5c9d2b3d45c8bf3744dba2527792740d82c97c8fdb4bfc70426fa5276e208f56", checked := Try.checked }
namespace Rows
def none {H : Type} : Left H := { results := [], args := [] }

/-- 'affiantlaw07.Sha256Block': WHATEVER THE INPUT: true; the input reads as it did. -/
def sha256BlockSpec : ChangeSpec := { name := "sha256Block", fn := fun _ => fun
  | [d1, d2, d3] => { results := [.lit (.bool true)], args := [d1, d2, d3] }
  | _ => none }
def sha256BlockRow : OpenClaim := { program := "ytceinogaiiehhaa", sum := "5c9d2b3d45c8bf3744dba2527792740d82c97c8fdb4bfc70426fa5276e208f56", func := "affiant/affiantlaw07.Sha256Block", spec := "sha256Block", apart := false }
def Sha256BlockSaid : Prop := sha256BlockRow.holds Try.pinned (OpenSpec.ofChange sha256BlockSpec)

/-- ITS FALSE NEIGHBOUR: 'it returns false'. Refute it at one input. -/
def sha256BlockWrong : ChangeSpec := { name := "sha256Block", fn := fun _ => fun
  | [d1, d2, d3] => { results := [.lit (.bool false)], args := [d1, d2, d3] }
  | _ => none }
def Sha256BlockWrongFalsely : Prop := sha256BlockRow.holds Try.pinned (OpenSpec.ofChange sha256BlockWrong)

/-- 'affiantlaw07.Sha256Blocks': WHATEVER THE INPUT: true; the input reads as it did. -/
def sha256BlocksSpec : ChangeSpec := { name := "sha256Blocks", fn := fun _ => fun
  | [d] => { results := [.lit (.bool true)], args := [d] }
  | _ => none }
def sha256BlocksRow : OpenClaim := { program := "ytceinogaiiehhaa", sum := "5c9d2b3d45c8bf3744dba2527792740d82c97c8fdb4bfc70426fa5276e208f56", func := "affiant/affiantlaw07.Sha256Blocks", spec := "sha256Blocks", apart := false }
def Sha256BlocksSaid : Prop := sha256BlocksRow.holds Try.pinned (OpenSpec.ofChange sha256BlocksSpec)

/-- ITS FALSE NEIGHBOUR: 'it returns false'. Refute it at one input. -/
def sha256BlocksWrong : ChangeSpec := { name := "sha256Blocks", fn := fun _ => fun
  | [d] => { results := [.lit (.bool false)], args := [d] }
  | _ => none }
def Sha256BlocksWrongFalsely : Prop := sha256BlocksRow.holds Try.pinned (OpenSpec.ofChange sha256BlocksWrong)

/-- 'affiantlaw07.Sha256Long': WHATEVER THE INPUT: true; the input reads as it did. -/
def sha256LongSpec : ChangeSpec := { name := "sha256Long", fn := fun _ => fun
  | [d1, d2] => { results := [.lit (.bool true)], args := [d1, d2] }
  | _ => none }
def sha256LongRow : OpenClaim := { program := "ytceinogaiiehhaa", sum := "5c9d2b3d45c8bf3744dba2527792740d82c97c8fdb4bfc70426fa5276e208f56", func := "affiant/affiantlaw07.Sha256Long", spec := "sha256Long", apart := false }
def Sha256LongSaid : Prop := sha256LongRow.holds Try.pinned (OpenSpec.ofChange sha256LongSpec)

/-- ITS FALSE NEIGHBOUR: 'it returns false'. Refute it at one input. -/
def sha256LongWrong : ChangeSpec := { name := "sha256Long", fn := fun _ => fun
  | [d1, d2] => { results := [.lit (.bool false)], args := [d1, d2] }
  | _ => none }
def Sha256LongWrongFalsely : Prop := sha256LongRow.holds Try.pinned (OpenSpec.ofChange sha256LongWrong)

/-- 'affiantlaw07.Sha256Roots': WHATEVER THE INPUT: true; the input reads as it did. -/
def sha256RootsSpec : ChangeSpec := { name := "sha256Roots", fn := fun _ => fun
  | [] => { results := [.lit (.bool true)], args := [] }
  | _ => none }
def sha256RootsRow : OpenClaim := { program := "ytceinogaiiehhaa", sum := "5c9d2b3d45c8bf3744dba2527792740d82c97c8fdb4bfc70426fa5276e208f56", func := "affiant/affiantlaw07.Sha256Roots", spec := "sha256Roots", apart := false }
def Sha256RootsSaid : Prop := sha256RootsRow.holds Try.pinned (OpenSpec.ofChange sha256RootsSpec)

/-- ITS FALSE NEIGHBOUR: 'it returns false'. Refute it at one input. -/
def sha256RootsWrong : ChangeSpec := { name := "sha256Roots", fn := fun _ => fun
  | [] => { results := [.lit (.bool false)], args := [] }
  | _ => none }
def Sha256RootsWrongFalsely : Prop := sha256RootsRow.holds Try.pinned (OpenSpec.ofChange sha256RootsWrong)

/-- 'affiantlaw07.Sha256Sum': WHATEVER THE INPUT: true; the input reads as it did. -/
def sha256SumSpec : ChangeSpec := { name := "sha256Sum", fn := fun _ => fun
  | [d] => { results := [.lit (.bool true)], args := [d] }
  | _ => none }
def sha256SumRow : OpenClaim := { program := "ytceinogaiiehhaa", sum := "5c9d2b3d45c8bf3744dba2527792740d82c97c8fdb4bfc70426fa5276e208f56", func := "affiant/affiantlaw07.Sha256Sum", spec := "sha256Sum", apart := false }
def Sha256SumSaid : Prop := sha256SumRow.holds Try.pinned (OpenSpec.ofChange sha256SumSpec)

/-- ITS FALSE NEIGHBOUR: 'it returns false'. Refute it at one input. -/
def sha256SumWrong : ChangeSpec := { name := "sha256Sum", fn := fun _ => fun
  | [d] => { results := [.lit (.bool false)], args := [d] }
  | _ => none }
def Sha256SumWrongFalsely : Prop := sha256SumRow.holds Try.pinned (OpenSpec.ofChange sha256SumWrong)

/- THE SECOND FORM. 'bulk': how many values and letters a reading holds, each counted each time it is reached (what is shared counts as often as it is met; a slice's spare places count too). A statement '..UptoSaid' is the law's where the arguments, and the package variables that the reading takes, are together of bulk at most 1048576: NARROWER than '..Said'. Prove '..Said' where nothing that the law and all that it calls make is longer than what came in: it says more and counts as full. Else prove '..UptoSaid'. A law counts once. -/
mutual
def uptoBulk {H : Type} : DataW H → Nat
  | .lit (.string bytes) => bytes.length + 1
  | .lit _ => 1
  | .nil => 1
  | .ptr d => uptoBulk d + 1
  | .slice elems spare => uptoBulkAll elems + uptoBulkAll spare + 1
  | .agg parts => uptoBulkAll parts + 1
  | .iface _ d => uptoBulk d + 1
  | .map entries => uptoBulkEntries entries + 1
  | .held _ => 1
def uptoBulkAll {H : Type} : List (DataW H) → Nat
  | [] => 0
  | d :: r => uptoBulk d + uptoBulkAll r
def uptoBulkEntries {H : Type} : List (Lit × DataW H) → Nat
  | [] => 0
  | x :: r => uptoBulkEntry x + uptoBulkEntries r
def uptoBulkEntry {H : Type} : Lit × DataW H → Nat
  | (.string bytes, d) => bytes.length + uptoBulk d + 1
  | (_, d) => uptoBulk d + 1
 end
def uptoSmall : (H : Type) → List (DataW H) → Bool := fun _ ds => decide (uptoBulkAll ds ≤ 1048576)
def OpenSpec.upto (s : _root_.Go.ChangeSpec) : _root_.Go.OpenSpec := { _root_.Go.OpenSpec.ofChange s with cond := some uptoSmall }

/-- 'affiantlaw07.Sha256Block', WHERE WHAT IT READS IS OF BULK AT MOST 1048576: true; the input reads as it did. -/
def sha256BlockUptoRow : OpenClaim := { program := "ytceinogaiiehhaa", sum := "5c9d2b3d45c8bf3744dba2527792740d82c97c8fdb4bfc70426fa5276e208f56", func := "affiant/affiantlaw07.Sha256Block", spec := "sha256Block", apart := false, narrowed := true }
def Sha256BlockUptoSaid : Prop := sha256BlockUptoRow.holds Try.pinned (OpenSpec.upto sha256BlockSpec)

/-- 'affiantlaw07.Sha256Blocks', WHERE WHAT IT READS IS OF BULK AT MOST 1048576: true; the input reads as it did. -/
def sha256BlocksUptoRow : OpenClaim := { program := "ytceinogaiiehhaa", sum := "5c9d2b3d45c8bf3744dba2527792740d82c97c8fdb4bfc70426fa5276e208f56", func := "affiant/affiantlaw07.Sha256Blocks", spec := "sha256Blocks", apart := false, narrowed := true }
def Sha256BlocksUptoSaid : Prop := sha256BlocksUptoRow.holds Try.pinned (OpenSpec.upto sha256BlocksSpec)

/-- 'affiantlaw07.Sha256Long', WHERE WHAT IT READS IS OF BULK AT MOST 1048576: true; the input reads as it did. -/
def sha256LongUptoRow : OpenClaim := { program := "ytceinogaiiehhaa", sum := "5c9d2b3d45c8bf3744dba2527792740d82c97c8fdb4bfc70426fa5276e208f56", func := "affiant/affiantlaw07.Sha256Long", spec := "sha256Long", apart := false, narrowed := true }
def Sha256LongUptoSaid : Prop := sha256LongUptoRow.holds Try.pinned (OpenSpec.upto sha256LongSpec)

/-- 'affiantlaw07.Sha256Roots', WHERE WHAT IT READS IS OF BULK AT MOST 1048576: true; the input reads as it did. -/
def sha256RootsUptoRow : OpenClaim := { program := "ytceinogaiiehhaa", sum := "5c9d2b3d45c8bf3744dba2527792740d82c97c8fdb4bfc70426fa5276e208f56", func := "affiant/affiantlaw07.Sha256Roots", spec := "sha256Roots", apart := false, narrowed := true }
def Sha256RootsUptoSaid : Prop := sha256RootsUptoRow.holds Try.pinned (OpenSpec.upto sha256RootsSpec)

/-- 'affiantlaw07.Sha256Sum', WHERE WHAT IT READS IS OF BULK AT MOST 1048576: true; the input reads as it did. -/
def sha256SumUptoRow : OpenClaim := { program := "ytceinogaiiehhaa", sum := "5c9d2b3d45c8bf3744dba2527792740d82c97c8fdb4bfc70426fa5276e208f56", func := "affiant/affiantlaw07.Sha256Sum", spec := "sha256Sum", apart := false, narrowed := true }
def Sha256SumUptoSaid : Prop := sha256SumUptoRow.holds Try.pinned (OpenSpec.upto sha256SumSpec)

end Rows
end Go.Proofs.Ytceinogaiiehhaa
