/-
  No cell of these rows narrows 'for every input' (looked for: loops, veiled, ifaces, maps, wideKeys, modest, calm, conditions, laid).
  DERIVED. THE GIVEN ROWS OF THIS SEAT. 5 by the template 'for every input the law returns true; each argument reads behind the call as it read before'; 0 by the template 'total and deterministic' (their statements: YtpononlbfealjaaTotals.lean).
  GIVEN WITH THE SEED: the statements are not yours to turn. If you find one false, say at which input.
  Laid BY PROGRAM, IN A SANDBOX (cutbox-rows.mjs): the forced cells as the released guide's own fill.sh prints them over the translation 4951068584b5017e… (all of the seat's roots in one cut). By AI agents, Wed Nov 11 2026. No macro, syntax, notation, axiom, sorry.
-/
import Derived.Test.YtpononlbfealjaaChecked
import GoSem.Claim
import GoSem.ClaimJoined
import GoSem.ClaimMapViews
import Derived.JoinedTies
import Derived.KernelRfl
namespace Go.Proofs.Ytpononlbfealjaa
/- THE CELL 'sum', in the pinned program and in every row, IS THE sha256 OF THE DUMP (.gsa) THAT YtpononlbfealjaaProg.lean LOADS. Nothing in Lean hashes anything: it is a label: what it is worth is what the hold of that sum in a sandbox is worth. -/
noncomputable def Try.pinned : Pinned := { name := "ytpononlbfealjaa", sum := "4951068584b5017e469cdbb9240b6b57632a810f5014cd0201568bf20610c317", checked := Try.checked }
namespace Rows
def none {H : Type} : Left H := { results := [], args := [] }

/-- 'affiantlaw08.Sha512Block': WHATEVER THE INPUT: true; the input reads as it did. -/
def sha512BlockSpec : ChangeSpec := { name := "sha512Block", fn := fun _ => fun
  | [d1, d2, d3] => { results := [.lit (.bool true)], args := [d1, d2, d3] }
  | _ => none }
def sha512BlockRow : OpenClaim := { program := "ytpononlbfealjaa", sum := "4951068584b5017e469cdbb9240b6b57632a810f5014cd0201568bf20610c317", func := "affiant/affiantlaw08.Sha512Block", spec := "sha512Block", apart := false }
def Sha512BlockSaid : Prop := sha512BlockRow.holds Try.pinned (OpenSpec.ofChange sha512BlockSpec)

/-- ITS FALSE NEIGHBOUR: 'it returns false'. Refute it at one input. -/
def sha512BlockWrong : ChangeSpec := { name := "sha512Block", fn := fun _ => fun
  | [d1, d2, d3] => { results := [.lit (.bool false)], args := [d1, d2, d3] }
  | _ => none }
def Sha512BlockWrongFalsely : Prop := sha512BlockRow.holds Try.pinned (OpenSpec.ofChange sha512BlockWrong)

/-- 'affiantlaw08.Sha512Blocks': WHATEVER THE INPUT: true; the input reads as it did. -/
def sha512BlocksSpec : ChangeSpec := { name := "sha512Blocks", fn := fun _ => fun
  | [d] => { results := [.lit (.bool true)], args := [d] }
  | _ => none }
def sha512BlocksRow : OpenClaim := { program := "ytpononlbfealjaa", sum := "4951068584b5017e469cdbb9240b6b57632a810f5014cd0201568bf20610c317", func := "affiant/affiantlaw08.Sha512Blocks", spec := "sha512Blocks", apart := false }
def Sha512BlocksSaid : Prop := sha512BlocksRow.holds Try.pinned (OpenSpec.ofChange sha512BlocksSpec)

/-- ITS FALSE NEIGHBOUR: 'it returns false'. Refute it at one input. -/
def sha512BlocksWrong : ChangeSpec := { name := "sha512Blocks", fn := fun _ => fun
  | [d] => { results := [.lit (.bool false)], args := [d] }
  | _ => none }
def Sha512BlocksWrongFalsely : Prop := sha512BlocksRow.holds Try.pinned (OpenSpec.ofChange sha512BlocksWrong)

/-- 'affiantlaw08.Sha512Long': WHATEVER THE INPUT: true; the input reads as it did. -/
def sha512LongSpec : ChangeSpec := { name := "sha512Long", fn := fun _ => fun
  | [d1, d2] => { results := [.lit (.bool true)], args := [d1, d2] }
  | _ => none }
def sha512LongRow : OpenClaim := { program := "ytpononlbfealjaa", sum := "4951068584b5017e469cdbb9240b6b57632a810f5014cd0201568bf20610c317", func := "affiant/affiantlaw08.Sha512Long", spec := "sha512Long", apart := false }
def Sha512LongSaid : Prop := sha512LongRow.holds Try.pinned (OpenSpec.ofChange sha512LongSpec)

/-- ITS FALSE NEIGHBOUR: 'it returns false'. Refute it at one input. -/
def sha512LongWrong : ChangeSpec := { name := "sha512Long", fn := fun _ => fun
  | [d1, d2] => { results := [.lit (.bool false)], args := [d1, d2] }
  | _ => none }
def Sha512LongWrongFalsely : Prop := sha512LongRow.holds Try.pinned (OpenSpec.ofChange sha512LongWrong)

/-- 'affiantlaw08.Sha512Roots': WHATEVER THE INPUT: true; the input reads as it did. -/
def sha512RootsSpec : ChangeSpec := { name := "sha512Roots", fn := fun _ => fun
  | [] => { results := [.lit (.bool true)], args := [] }
  | _ => none }
def sha512RootsRow : OpenClaim := { program := "ytpononlbfealjaa", sum := "4951068584b5017e469cdbb9240b6b57632a810f5014cd0201568bf20610c317", func := "affiant/affiantlaw08.Sha512Roots", spec := "sha512Roots", apart := false }
def Sha512RootsSaid : Prop := sha512RootsRow.holds Try.pinned (OpenSpec.ofChange sha512RootsSpec)

/-- ITS FALSE NEIGHBOUR: 'it returns false'. Refute it at one input. -/
def sha512RootsWrong : ChangeSpec := { name := "sha512Roots", fn := fun _ => fun
  | [] => { results := [.lit (.bool false)], args := [] }
  | _ => none }
def Sha512RootsWrongFalsely : Prop := sha512RootsRow.holds Try.pinned (OpenSpec.ofChange sha512RootsWrong)

/-- 'affiantlaw08.Sha512Sum': WHATEVER THE INPUT: true; the input reads as it did. -/
def sha512SumSpec : ChangeSpec := { name := "sha512Sum", fn := fun _ => fun
  | [d] => { results := [.lit (.bool true)], args := [d] }
  | _ => none }
def sha512SumRow : OpenClaim := { program := "ytpononlbfealjaa", sum := "4951068584b5017e469cdbb9240b6b57632a810f5014cd0201568bf20610c317", func := "affiant/affiantlaw08.Sha512Sum", spec := "sha512Sum", apart := false }
def Sha512SumSaid : Prop := sha512SumRow.holds Try.pinned (OpenSpec.ofChange sha512SumSpec)

/-- ITS FALSE NEIGHBOUR: 'it returns false'. Refute it at one input. -/
def sha512SumWrong : ChangeSpec := { name := "sha512Sum", fn := fun _ => fun
  | [d] => { results := [.lit (.bool false)], args := [d] }
  | _ => none }
def Sha512SumWrongFalsely : Prop := sha512SumRow.holds Try.pinned (OpenSpec.ofChange sha512SumWrong)

/- THE SECOND FORM. 'bulk': how many values and letters a reading holds, each counted each time it is reached (what is shared counts as often as it is met; a slice's spare places count too). A statement '..UptoSaid' is the law's where the arguments, and the package variables that the reading takes, are together of bulk at most 1048576: NARROWER than '..Said'. Prove '..Said' where nothing that the law and all that it calls make is longer than what came in: it says more and counts as full. Else prove '..UptoSaid'. A law counts once. -/
mutual
def uptoBulk {H : Type} : DataW H → Nat
  | .lit (.string bytes) => bytes.length + 1
  | .lit _ => 1
  | .nil => 1
  | .ptr d => uptoBulk d + 1
  | .slice elems spare => uptoBulkAll elems + uptoBulkAll spare + 1
  | .agg parts => uptoBulkAll parts + 1
  | .iface _ d => uptoBulk d + 1
  | .map entries => uptoBulkEntries entries + 1
  | .held _ => 1
def uptoBulkAll {H : Type} : List (DataW H) → Nat
  | [] => 0
  | d :: r => uptoBulk d + uptoBulkAll r
def uptoBulkEntries {H : Type} : List (Lit × DataW H) → Nat
  | [] => 0
  | x :: r => uptoBulkEntry x + uptoBulkEntries r
def uptoBulkEntry {H : Type} : Lit × DataW H → Nat
  | (.string bytes, d) => bytes.length + uptoBulk d + 1
  | (_, d) => uptoBulk d + 1
 end
def uptoSmall : (H : Type) → List (DataW H) → Bool := fun _ ds => decide (uptoBulkAll ds ≤ 1048576)
def OpenSpec.upto (s : _root_.Go.ChangeSpec) : _root_.Go.OpenSpec := { _root_.Go.OpenSpec.ofChange s with cond := some uptoSmall }

/-- 'affiantlaw08.Sha512Block', WHERE WHAT IT READS IS OF BULK AT MOST 1048576: true; the input reads as it did. -/
def sha512BlockUptoRow : OpenClaim := { program := "ytpononlbfealjaa", sum := "4951068584b5017e469cdbb9240b6b57632a810f5014cd0201568bf20610c317", func := "affiant/affiantlaw08.Sha512Block", spec := "sha512Block", apart := false, narrowed := true }
def Sha512BlockUptoSaid : Prop := sha512BlockUptoRow.holds Try.pinned (OpenSpec.upto sha512BlockSpec)

/-- 'affiantlaw08.Sha512Blocks', WHERE WHAT IT READS IS OF BULK AT MOST 1048576: true; the input reads as it did. -/
def sha512BlocksUptoRow : OpenClaim := { program := "ytpononlbfealjaa", sum := "4951068584b5017e469cdbb9240b6b57632a810f5014cd0201568bf20610c317", func := "affiant/affiantlaw08.Sha512Blocks", spec := "sha512Blocks", apart := false, narrowed := true }
def Sha512BlocksUptoSaid : Prop := sha512BlocksUptoRow.holds Try.pinned (OpenSpec.upto sha512BlocksSpec)

/-- 'affiantlaw08.Sha512Long', WHERE WHAT IT READS IS OF BULK AT MOST 1048576: true; the input reads as it did. -/
def sha512LongUptoRow : OpenClaim := { program := "ytpononlbfealjaa", sum := "4951068584b5017e469cdbb9240b6b57632a810f5014cd0201568bf20610c317", func := "affiant/affiantlaw08.Sha512Long", spec := "sha512Long", apart := false, narrowed := true }
def Sha512LongUptoSaid : Prop := sha512LongUptoRow.holds Try.pinned (OpenSpec.upto sha512LongSpec)

/-- 'affiantlaw08.Sha512Roots', WHERE WHAT IT READS IS OF BULK AT MOST 1048576: true; the input reads as it did. -/
def sha512RootsUptoRow : OpenClaim := { program := "ytpononlbfealjaa", sum := "4951068584b5017e469cdbb9240b6b57632a810f5014cd0201568bf20610c317", func := "affiant/affiantlaw08.Sha512Roots", spec := "sha512Roots", apart := false, narrowed := true }
def Sha512RootsUptoSaid : Prop := sha512RootsUptoRow.holds Try.pinned (OpenSpec.upto sha512RootsSpec)

/-- 'affiantlaw08.Sha512Sum', WHERE WHAT IT READS IS OF BULK AT MOST 1048576: true; the input reads as it did. -/
def sha512SumUptoRow : OpenClaim := { program := "ytpononlbfealjaa", sum := "4951068584b5017e469cdbb9240b6b57632a810f5014cd0201568bf20610c317", func := "affiant/affiantlaw08.Sha512Sum", spec := "sha512Sum", apart := false, narrowed := true }
def Sha512SumUptoSaid : Prop := sha512SumUptoRow.holds Try.pinned (OpenSpec.upto sha512SumSpec)

end Rows
end Go.Proofs.Ytpononlbfealjaa
