/-
  No cell of these rows narrows 'for every input' (looked for: loops, veiled, ifaces, maps, wideKeys, modest, calm, conditions, laid).
  DERIVED. THE GIVEN ROWS OF THIS SEAT. 4 by the template 'for every input the law returns true; each argument reads behind the call as it read before'; 0 by the template 'total and deterministic' (their statements: YtlcaobnojbkmbaaTotals.lean).
  GIVEN WITH THE SEED: the statements are not yours to turn. If you find one false, say at which input.
  Laid BY PROGRAM, IN A SANDBOX (cutbox-rows.mjs): the forced cells as the released guide's own fill.sh prints them over the translation 77a997516e5e0b0b… (all of the seat's roots in one cut). By AI agents, Wed Nov 11 2026. No macro, syntax, notation, axiom, sorry.
-/
import Derived.Test.YtlcaobnojbkmbaaChecked
import GoSem.Claim
import GoSem.ClaimJoined
import GoSem.ClaimMapViews
import Derived.JoinedTies
import Derived.KernelRfl
namespace Go.Proofs.Ytlcaobnojbkmbaa
/- THE CELL 'sum', in the pinned program and in every row, IS THE sha256 OF THE DUMP (.gsa) THAT YtlcaobnojbkmbaaProg.lean LOADS. Nothing in Lean hashes anything: it is a label: what it is worth is what the hold of that sum in a sandbox is worth. -/
noncomputable def Try.pinned : Pinned := { name := "ytlcaobnojbkmbaa", sum := "77a997516e5e0b0b0a8dc363e9d772474f41fc636f9024d1658fa5cf30e3d04c", checked := Try.checked }
namespace Rows
def none {H : Type} : Left H := { results := [], args := [] }

/-- 'affiantlaw09.HashSum': WHATEVER THE INPUT: true; the input reads as it did. -/
def hashSumSpec : ChangeSpec := { name := "hashSum", fn := fun _ => fun
  | [d1, d2] => { results := [.lit (.bool true)], args := [d1, d2] }
  | _ => none }
def hashSumRow : OpenClaim := { program := "ytlcaobnojbkmbaa", sum := "77a997516e5e0b0b0a8dc363e9d772474f41fc636f9024d1658fa5cf30e3d04c", func := "affiant/affiantlaw09.HashSum", spec := "hashSum", unfollowed := true, recurses := true, apart := false }
def HashSumSaid : Prop := hashSumRow.holds Try.pinned (OpenSpec.ofChange hashSumSpec)

/-- ITS FALSE NEIGHBOUR: 'it returns false'. Refute it at one input. -/
def hashSumWrong : ChangeSpec := { name := "hashSum", fn := fun _ => fun
  | [d1, d2] => { results := [.lit (.bool false)], args := [d1, d2] }
  | _ => none }
def HashSumWrongFalsely : Prop := hashSumRow.holds Try.pinned (OpenSpec.ofChange hashSumWrong)

/-- 'affiantlaw09.HashNew': WHATEVER THE INPUT: true; the input reads as it did. -/
def hashNewSpec : ChangeSpec := { name := "hashNew", fn := fun _ => fun
  | [d] => { results := [.lit (.bool true)], args := [d] }
  | _ => none }
def hashNewRow : OpenClaim := { program := "ytlcaobnojbkmbaa", sum := "77a997516e5e0b0b0a8dc363e9d772474f41fc636f9024d1658fa5cf30e3d04c", func := "affiant/affiantlaw09.HashNew", spec := "hashNew", unfollowed := true, recurses := true, apart := false }
def HashNewSaid : Prop := hashNewRow.holds Try.pinned (OpenSpec.ofChange hashNewSpec)

/-- ITS FALSE NEIGHBOUR: 'it returns false'. Refute it at one input. -/
def hashNewWrong : ChangeSpec := { name := "hashNew", fn := fun _ => fun
  | [d] => { results := [.lit (.bool false)], args := [d] }
  | _ => none }
def HashNewWrongFalsely : Prop := hashNewRow.holds Try.pinned (OpenSpec.ofChange hashNewWrong)

/-- 'affiantlaw09.HashPieces': WHATEVER THE INPUT: true; the input reads as it did. -/
def hashPiecesSpec : ChangeSpec := { name := "hashPieces", fn := fun _ => fun
  | [d1, d2] => { results := [.lit (.bool true)], args := [d1, d2] }
  | _ => none }
def hashPiecesRow : OpenClaim := { program := "ytlcaobnojbkmbaa", sum := "77a997516e5e0b0b0a8dc363e9d772474f41fc636f9024d1658fa5cf30e3d04c", func := "affiant/affiantlaw09.HashPieces", spec := "hashPieces", unfollowed := true, recurses := true, apart := false }
def HashPiecesSaid : Prop := hashPiecesRow.holds Try.pinned (OpenSpec.ofChange hashPiecesSpec)

/-- ITS FALSE NEIGHBOUR: 'it returns false'. Refute it at one input. -/
def hashPiecesWrong : ChangeSpec := { name := "hashPieces", fn := fun _ => fun
  | [d1, d2] => { results := [.lit (.bool false)], args := [d1, d2] }
  | _ => none }
def HashPiecesWrongFalsely : Prop := hashPiecesRow.holds Try.pinned (OpenSpec.ofChange hashPiecesWrong)

/-- 'affiantlaw09.HashNil': WHATEVER THE INPUT: true; the input reads as it did. -/
def hashNilSpec : ChangeSpec := { name := "hashNil", fn := fun _ => fun
  | [d] => { results := [.lit (.bool true)], args := [d] }
  | _ => none }
def hashNilRow : OpenClaim := { program := "ytlcaobnojbkmbaa", sum := "77a997516e5e0b0b0a8dc363e9d772474f41fc636f9024d1658fa5cf30e3d04c", func := "affiant/affiantlaw09.HashNil", spec := "hashNil", unfollowed := true, recurses := true, apart := false }
def HashNilSaid : Prop := hashNilRow.holds Try.pinned (OpenSpec.ofChange hashNilSpec)

/-- ITS FALSE NEIGHBOUR: 'it returns false'. Refute it at one input. -/
def hashNilWrong : ChangeSpec := { name := "hashNil", fn := fun _ => fun
  | [d] => { results := [.lit (.bool false)], args := [d] }
  | _ => none }
def HashNilWrongFalsely : Prop := hashNilRow.holds Try.pinned (OpenSpec.ofChange hashNilWrong)

/- THE SECOND FORM. 'bulk': how many values and letters a reading holds, each counted each time it is reached (what is shared counts as often as it is met; a slice's spare places count too). A statement '..UptoSaid' is the law's where the arguments, and the package variables that the reading takes, are together of bulk at most 1048576: NARROWER than '..Said'. Prove '..Said' where nothing that the law and all that it calls make is longer than what came in: it says more and counts as full. Else prove '..UptoSaid'. A law counts once. -/
mutual
def uptoBulk {H : Type} : DataW H → Nat
  | .lit (.string bytes) => bytes.length + 1
  | .lit _ => 1
  | .nil => 1
  | .ptr d => uptoBulk d + 1
  | .slice elems spare => uptoBulkAll elems + uptoBulkAll spare + 1
  | .agg parts => uptoBulkAll parts + 1
  | .iface _ d => uptoBulk d + 1
  | .map entries => uptoBulkEntries entries + 1
  | .held _ => 1
def uptoBulkAll {H : Type} : List (DataW H) → Nat
  | [] => 0
  | d :: r => uptoBulk d + uptoBulkAll r
def uptoBulkEntries {H : Type} : List (Lit × DataW H) → Nat
  | [] => 0
  | x :: r => uptoBulkEntry x + uptoBulkEntries r
def uptoBulkEntry {H : Type} : Lit × DataW H → Nat
  | (.string bytes, d) => bytes.length + uptoBulk d + 1
  | (_, d) => uptoBulk d + 1
 end
def uptoSmall : (H : Type) → List (DataW H) → Bool := fun _ ds => decide (uptoBulkAll ds ≤ 1048576)
def OpenSpec.upto (s : _root_.Go.ChangeSpec) : _root_.Go.OpenSpec := { _root_.Go.OpenSpec.ofChange s with cond := some uptoSmall }

/-- 'affiantlaw09.HashSum', WHERE WHAT IT READS IS OF BULK AT MOST 1048576: true; the input reads as it did. -/
def hashSumUptoRow : OpenClaim := { program := "ytlcaobnojbkmbaa", sum := "77a997516e5e0b0b0a8dc363e9d772474f41fc636f9024d1658fa5cf30e3d04c", func := "affiant/affiantlaw09.HashSum", spec := "hashSum", unfollowed := true, recurses := true, apart := false, narrowed := true }
def HashSumUptoSaid : Prop := hashSumUptoRow.holds Try.pinned (OpenSpec.upto hashSumSpec)

/-- 'affiantlaw09.HashNew', WHERE WHAT IT READS IS OF BULK AT MOST 1048576: true; the input reads as it did. -/
def hashNewUptoRow : OpenClaim := { program := "ytlcaobnojbkmbaa", sum := "77a997516e5e0b0b0a8dc363e9d772474f41fc636f9024d1658fa5cf30e3d04c", func := "affiant/affiantlaw09.HashNew", spec := "hashNew", unfollowed := true, recurses := true, apart := false, narrowed := true }
def HashNewUptoSaid : Prop := hashNewUptoRow.holds Try.pinned (OpenSpec.upto hashNewSpec)

/-- 'affiantlaw09.HashPieces', WHERE WHAT IT READS IS OF BULK AT MOST 1048576: true; the input reads as it did. -/
def hashPiecesUptoRow : OpenClaim := { program := "ytlcaobnojbkmbaa", sum := "77a997516e5e0b0b0a8dc363e9d772474f41fc636f9024d1658fa5cf30e3d04c", func := "affiant/affiantlaw09.HashPieces", spec := "hashPieces", unfollowed := true, recurses := true, apart := false, narrowed := true }
def HashPiecesUptoSaid : Prop := hashPiecesUptoRow.holds Try.pinned (OpenSpec.upto hashPiecesSpec)

/-- 'affiantlaw09.HashNil', WHERE WHAT IT READS IS OF BULK AT MOST 1048576: true; the input reads as it did. -/
def hashNilUptoRow : OpenClaim := { program := "ytlcaobnojbkmbaa", sum := "77a997516e5e0b0b0a8dc363e9d772474f41fc636f9024d1658fa5cf30e3d04c", func := "affiant/affiantlaw09.HashNil", spec := "hashNil", unfollowed := true, recurses := true, apart := false, narrowed := true }
def HashNilUptoSaid : Prop := hashNilUptoRow.holds Try.pinned (OpenSpec.upto hashNilSpec)

end Rows
end Go.Proofs.Ytlcaobnojbkmbaa
