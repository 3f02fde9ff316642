/-
  No cell of these rows narrows 'for every input' (looked for: loops, veiled, ifaces, maps, wideKeys, modest, calm, conditions, laid).
  DERIVED. THE GIVEN ROWS OF THIS SEAT. 4 by the template 'for every input the law returns true; each argument reads behind the call as it read before'; 0 by the template 'total and deterministic' (their statements: YtdddalcjcgeocaaTotals.lean).
  GIVEN WITH THE SEED: the statements are not yours to turn. If you find one false, say at which input.
  Laid BY PROGRAM, IN A SANDBOX (cutbox-rows.mjs): the forced cells as the released guide's own fill.sh prints them over the translation bc6d7f120cdd1a01… (all of the seat's roots in one cut). By AI agents, Wed Nov 11 2026. No macro, syntax, notation, axiom, sorry.
-/
import Derived.Test.YtdddalcjcgeocaaChecked
import GoSem.Claim
import GoSem.ClaimJoined
import GoSem.ClaimMapViews
import Derived.JoinedTies
import Derived.KernelRfl
namespace Go.Proofs.Ytdddalcjcgeocaa
/- THE CELL 'sum', in the pinned program and in every row, IS THE sha256 OF THE DUMP (.gsa) THAT YtdddalcjcgeocaaProg.lean LOADS. Nothing in Lean hashes anything: it is a label: what it is worth is what the hold of that sum in a sandbox is worth. -/
noncomputable def Try.pinned : Pinned := { name := "ytdddalcjcgeocaa", sum := "bc6d7f120cdd1a016e451189691f7e69fafc862cdb77c0b4519fba54cfb964fc", checked := Try.checked }
namespace Rows
def none {H : Type} : Left H := { results := [], args := [] }

/-- 'affiantlaw06.Sha1Sum': WHATEVER THE INPUT: true; the input reads as it did. -/
def sha1SumSpec : ChangeSpec := { name := "sha1Sum", fn := fun _ => fun
  | [d] => { results := [.lit (.bool true)], args := [d] }
  | _ => none }
def sha1SumRow : OpenClaim := { program := "ytdddalcjcgeocaa", sum := "bc6d7f120cdd1a016e451189691f7e69fafc862cdb77c0b4519fba54cfb964fc", func := "affiant/affiantlaw06.Sha1Sum", spec := "sha1Sum", apart := false }
def Sha1SumSaid : Prop := sha1SumRow.holds Try.pinned (OpenSpec.ofChange sha1SumSpec)

/-- ITS FALSE NEIGHBOUR: 'it returns false'. Refute it at one input. -/
def sha1SumWrong : ChangeSpec := { name := "sha1Sum", fn := fun _ => fun
  | [d] => { results := [.lit (.bool false)], args := [d] }
  | _ => none }
def Sha1SumWrongFalsely : Prop := sha1SumRow.holds Try.pinned (OpenSpec.ofChange sha1SumWrong)

/-- 'affiantlaw06.Sha1Block': WHATEVER THE INPUT: true; the input reads as it did. -/
def sha1BlockSpec : ChangeSpec := { name := "sha1Block", fn := fun _ => fun
  | [d1, d2] => { results := [.lit (.bool true)], args := [d1, d2] }
  | _ => none }
def sha1BlockRow : OpenClaim := { program := "ytdddalcjcgeocaa", sum := "bc6d7f120cdd1a016e451189691f7e69fafc862cdb77c0b4519fba54cfb964fc", func := "affiant/affiantlaw06.Sha1Block", spec := "sha1Block", apart := false }
def Sha1BlockSaid : Prop := sha1BlockRow.holds Try.pinned (OpenSpec.ofChange sha1BlockSpec)

/-- ITS FALSE NEIGHBOUR: 'it returns false'. Refute it at one input. -/
def sha1BlockWrong : ChangeSpec := { name := "sha1Block", fn := fun _ => fun
  | [d1, d2] => { results := [.lit (.bool false)], args := [d1, d2] }
  | _ => none }
def Sha1BlockWrongFalsely : Prop := sha1BlockRow.holds Try.pinned (OpenSpec.ofChange sha1BlockWrong)

/-- 'affiantlaw06.Sha1Blocks': WHATEVER THE INPUT: true; the input reads as it did. -/
def sha1BlocksSpec : ChangeSpec := { name := "sha1Blocks", fn := fun _ => fun
  | [d] => { results := [.lit (.bool true)], args := [d] }
  | _ => none }
def sha1BlocksRow : OpenClaim := { program := "ytdddalcjcgeocaa", sum := "bc6d7f120cdd1a016e451189691f7e69fafc862cdb77c0b4519fba54cfb964fc", func := "affiant/affiantlaw06.Sha1Blocks", spec := "sha1Blocks", apart := false }
def Sha1BlocksSaid : Prop := sha1BlocksRow.holds Try.pinned (OpenSpec.ofChange sha1BlocksSpec)

/-- ITS FALSE NEIGHBOUR: 'it returns false'. Refute it at one input. -/
def sha1BlocksWrong : ChangeSpec := { name := "sha1Blocks", fn := fun _ => fun
  | [d] => { results := [.lit (.bool false)], args := [d] }
  | _ => none }
def Sha1BlocksWrongFalsely : Prop := sha1BlocksRow.holds Try.pinned (OpenSpec.ofChange sha1BlocksWrong)

/-- 'affiantlaw06.Sha1Long': WHATEVER THE INPUT: true; the input reads as it did. -/
def sha1LongSpec : ChangeSpec := { name := "sha1Long", fn := fun _ => fun
  | [d1, d2] => { results := [.lit (.bool true)], args := [d1, d2] }
  | _ => none }
def sha1LongRow : OpenClaim := { program := "ytdddalcjcgeocaa", sum := "bc6d7f120cdd1a016e451189691f7e69fafc862cdb77c0b4519fba54cfb964fc", func := "affiant/affiantlaw06.Sha1Long", spec := "sha1Long", apart := false }
def Sha1LongSaid : Prop := sha1LongRow.holds Try.pinned (OpenSpec.ofChange sha1LongSpec)

/-- ITS FALSE NEIGHBOUR: 'it returns false'. Refute it at one input. -/
def sha1LongWrong : ChangeSpec := { name := "sha1Long", fn := fun _ => fun
  | [d1, d2] => { results := [.lit (.bool false)], args := [d1, d2] }
  | _ => none }
def Sha1LongWrongFalsely : Prop := sha1LongRow.holds Try.pinned (OpenSpec.ofChange sha1LongWrong)

/- THE SECOND FORM. 'bulk': how many values and letters a reading holds, each counted each time it is reached (what is shared counts as often as it is met; a slice's spare places count too). A statement '..UptoSaid' is the law's where the arguments, and the package variables that the reading takes, are together of bulk at most 1048576: NARROWER than '..Said'. Prove '..Said' where nothing that the law and all that it calls make is longer than what came in: it says more and counts as full. Else prove '..UptoSaid'. A law counts once. -/
mutual
def uptoBulk {H : Type} : DataW H → Nat
  | .lit (.string bytes) => bytes.length + 1
  | .lit _ => 1
  | .nil => 1
  | .ptr d => uptoBulk d + 1
  | .slice elems spare => uptoBulkAll elems + uptoBulkAll spare + 1
  | .agg parts => uptoBulkAll parts + 1
  | .iface _ d => uptoBulk d + 1
  | .map entries => uptoBulkEntries entries + 1
  | .held _ => 1
def uptoBulkAll {H : Type} : List (DataW H) → Nat
  | [] => 0
  | d :: r => uptoBulk d + uptoBulkAll r
def uptoBulkEntries {H : Type} : List (Lit × DataW H) → Nat
  | [] => 0
  | x :: r => uptoBulkEntry x + uptoBulkEntries r
def uptoBulkEntry {H : Type} : Lit × DataW H → Nat
  | (.string bytes, d) => bytes.length + uptoBulk d + 1
  | (_, d) => uptoBulk d + 1
 end
def uptoSmall : (H : Type) → List (DataW H) → Bool := fun _ ds => decide (uptoBulkAll ds ≤ 1048576)
def OpenSpec.upto (s : _root_.Go.ChangeSpec) : _root_.Go.OpenSpec := { _root_.Go.OpenSpec.ofChange s with cond := some uptoSmall }

/-- 'affiantlaw06.Sha1Sum', WHERE WHAT IT READS IS OF BULK AT MOST 1048576: true; the input reads as it did. -/
def sha1SumUptoRow : OpenClaim := { program := "ytdddalcjcgeocaa", sum := "bc6d7f120cdd1a016e451189691f7e69fafc862cdb77c0b4519fba54cfb964fc", func := "affiant/affiantlaw06.Sha1Sum", spec := "sha1Sum", apart := false, narrowed := true }
def Sha1SumUptoSaid : Prop := sha1SumUptoRow.holds Try.pinned (OpenSpec.upto sha1SumSpec)

/-- 'affiantlaw06.Sha1Block', WHERE WHAT IT READS IS OF BULK AT MOST 1048576: true; the input reads as it did. -/
def sha1BlockUptoRow : OpenClaim := { program := "ytdddalcjcgeocaa", sum := "bc6d7f120cdd1a016e451189691f7e69fafc862cdb77c0b4519fba54cfb964fc", func := "affiant/affiantlaw06.Sha1Block", spec := "sha1Block", apart := false, narrowed := true }
def Sha1BlockUptoSaid : Prop := sha1BlockUptoRow.holds Try.pinned (OpenSpec.upto sha1BlockSpec)

/-- 'affiantlaw06.Sha1Blocks', WHERE WHAT IT READS IS OF BULK AT MOST 1048576: true; the input reads as it did. -/
def sha1BlocksUptoRow : OpenClaim := { program := "ytdddalcjcgeocaa", sum := "bc6d7f120cdd1a016e451189691f7e69fafc862cdb77c0b4519fba54cfb964fc", func := "affiant/affiantlaw06.Sha1Blocks", spec := "sha1Blocks", apart := false, narrowed := true }
def Sha1BlocksUptoSaid : Prop := sha1BlocksUptoRow.holds Try.pinned (OpenSpec.upto sha1BlocksSpec)

/-- 'affiantlaw06.Sha1Long', WHERE WHAT IT READS IS OF BULK AT MOST 1048576: true; the input reads as it did. -/
def sha1LongUptoRow : OpenClaim := { program := "ytdddalcjcgeocaa", sum := "bc6d7f120cdd1a016e451189691f7e69fafc862cdb77c0b4519fba54cfb964fc", func := "affiant/affiantlaw06.Sha1Long", spec := "sha1Long", apart := false, narrowed := true }
def Sha1LongUptoSaid : Prop := sha1LongUptoRow.holds Try.pinned (OpenSpec.upto sha1LongSpec)

end Rows
end Go.Proofs.Ytdddalcjcgeocaa
