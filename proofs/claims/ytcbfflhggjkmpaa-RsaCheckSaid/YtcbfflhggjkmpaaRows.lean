/-
  No cell of these rows narrows 'for every input' (looked for: loops, veiled, ifaces, maps, wideKeys, modest, calm, conditions, laid).
  DERIVED. THE GIVEN ROWS OF THIS SEAT. 6 by the template 'for every input the law returns true; each argument reads behind the call as it read before'; 0 by the template 'total and deterministic' (their statements: YtcbfflhggjkmpaaTotals.lean).
  GIVEN WITH THE SEED: the statements are not yours to turn. If you find one false, say at which input.
  Laid BY PROGRAM, IN A SANDBOX (cutbox-rows.mjs): the forced cells as the released guide's own fill.sh prints them over the translation 411b0d45f7b1fb1b… (all of the seat's roots in one cut). By AI agents, Wed Nov 11 2026. No macro, syntax, notation, axiom, sorry.
-/
import Derived.Test.YtcbfflhggjkmpaaChecked
import GoSem.Claim
import GoSem.ClaimJoined
import GoSem.ClaimMapViews
import Derived.JoinedTies
import Derived.KernelRfl
namespace Go.Proofs.Ytcbfflhggjkmpaa
/- THE CELL 'sum', in the pinned program and in every row, IS THE sha256 OF THE DUMP (.gsa) THAT YtcbfflhggjkmpaaProg.lean LOADS. Nothing in Lean hashes anything: it is a label: what it is worth is what the hold of that sum in a sandbox is worth. -/
noncomputable def Try.pinned : Pinned := { name := "ytcbfflhggjkmpaa", sum := "411b0d45f7b1fb1bd0b95302847dff7f3ae7dbce879b8a99d4e67596b3ad57a6", checked := Try.checked }
namespace Rows
def none {H : Type} : Left H := { results := [], args := [] }

/-- 'affiantlaw10.RsaCheck': WHATEVER THE INPUT: true; the input reads as it did. -/
def rsaCheckSpec : ChangeSpec := { name := "rsaCheck", fn := fun _ => fun
  | [d1, d2] => { results := [.lit (.bool true)], args := [d1, d2] }
  | _ => none }
def rsaCheckRow : OpenClaim := { program := "ytcbfflhggjkmpaa", sum := "411b0d45f7b1fb1bd0b95302847dff7f3ae7dbce879b8a99d4e67596b3ad57a6", func := "affiant/affiantlaw10.RsaCheck", spec := "rsaCheck", unfollowed := true, recurses := true, apart := false }
def RsaCheckSaid : Prop := rsaCheckRow.holds Try.pinned (OpenSpec.ofChange rsaCheckSpec)

/-- ITS FALSE NEIGHBOUR: 'it returns false'. Refute it at one input. -/
def rsaCheckWrong : ChangeSpec := { name := "rsaCheck", fn := fun _ => fun
  | [d1, d2] => { results := [.lit (.bool false)], args := [d1, d2] }
  | _ => none }
def RsaCheckWrongFalsely : Prop := rsaCheckRow.holds Try.pinned (OpenSpec.ofChange rsaCheckWrong)

/-- 'affiantlaw10.RsaMessage': WHATEVER THE INPUT: true; the input reads as it did. -/
def rsaMessageSpec : ChangeSpec := { name := "rsaMessage", fn := fun _ => fun
  | [d1, d2, d3] => { results := [.lit (.bool true)], args := [d1, d2, d3] }
  | _ => none }
def rsaMessageRow : OpenClaim := { program := "ytcbfflhggjkmpaa", sum := "411b0d45f7b1fb1bd0b95302847dff7f3ae7dbce879b8a99d4e67596b3ad57a6", func := "affiant/affiantlaw10.RsaMessage", spec := "rsaMessage", inPlace := ["internal/bytealg.MakeNoZero"], unfollowed := true, recurses := true, apart := false }
def RsaMessageSaid : Prop := rsaMessageRow.holds Try.pinned (OpenSpec.ofChange rsaMessageSpec)

/-- ITS FALSE NEIGHBOUR: 'it returns false'. Refute it at one input. -/
def rsaMessageWrong : ChangeSpec := { name := "rsaMessage", fn := fun _ => fun
  | [d1, d2, d3] => { results := [.lit (.bool false)], args := [d1, d2, d3] }
  | _ => none }
def RsaMessageWrongFalsely : Prop := rsaMessageRow.holds Try.pinned (OpenSpec.ofChange rsaMessageWrong)

/-- 'affiantlaw10.RsaVerify': WHATEVER THE INPUT: true; the input reads as it did. -/
def rsaVerifySpec : ChangeSpec := { name := "rsaVerify", fn := fun _ => fun
  | [d1, d2, d3] => { results := [.lit (.bool true)], args := [d1, d2, d3] }
  | _ => none }
def rsaVerifyRow : OpenClaim := { program := "ytcbfflhggjkmpaa", sum := "411b0d45f7b1fb1bd0b95302847dff7f3ae7dbce879b8a99d4e67596b3ad57a6", func := "affiant/affiantlaw10.RsaVerify", spec := "rsaVerify", inPlace := ["internal/bytealg.MakeNoZero"], unfollowed := true, recurses := true, named := ["math/bits.overflowError"], apart := false }
def RsaVerifySaid : Prop := rsaVerifyRow.holds Try.pinned (OpenSpec.ofChange rsaVerifySpec)

/-- ITS FALSE NEIGHBOUR: 'it returns false'. Refute it at one input. -/
def rsaVerifyWrong : ChangeSpec := { name := "rsaVerify", fn := fun _ => fun
  | [d1, d2, d3] => { results := [.lit (.bool false)], args := [d1, d2, d3] }
  | _ => none }
def RsaVerifyWrongFalsely : Prop := rsaVerifyRow.holds Try.pinned (OpenSpec.ofChange rsaVerifyWrong)

/-- 'affiantlaw10.RsaSign': WHATEVER THE INPUT: true; the input reads as it did. -/
def rsaSignSpec : ChangeSpec := { name := "rsaSign", fn := fun _ => fun
  | [d1, d2] => { results := [.lit (.bool true)], args := [d1, d2] }
  | _ => none }
def rsaSignRow : OpenClaim := { program := "ytcbfflhggjkmpaa", sum := "411b0d45f7b1fb1bd0b95302847dff7f3ae7dbce879b8a99d4e67596b3ad57a6", func := "affiant/affiantlaw10.RsaSign", spec := "rsaSign", inPlace := ["internal/bytealg.MakeNoZero"], unfollowed := true, recurses := true, named := ["math/bits.overflowError"], apart := false }
def RsaSignSaid : Prop := rsaSignRow.holds Try.pinned (OpenSpec.ofChange rsaSignSpec)

/-- ITS FALSE NEIGHBOUR: 'it returns false'. Refute it at one input. -/
def rsaSignWrong : ChangeSpec := { name := "rsaSign", fn := fun _ => fun
  | [d1, d2] => { results := [.lit (.bool false)], args := [d1, d2] }
  | _ => none }
def RsaSignWrongFalsely : Prop := rsaSignRow.holds Try.pinned (OpenSpec.ofChange rsaSignWrong)

/-- 'affiantlaw10.RsaSigns': WHATEVER THE INPUT: true; the input reads as it did. -/
def rsaSignsSpec : ChangeSpec := { name := "rsaSigns", fn := fun _ => fun
  | [d1, d2, d3] => { results := [.lit (.bool true)], args := [d1, d2, d3] }
  | _ => none }
def rsaSignsRow : OpenClaim := { program := "ytcbfflhggjkmpaa", sum := "411b0d45f7b1fb1bd0b95302847dff7f3ae7dbce879b8a99d4e67596b3ad57a6", func := "affiant/affiantlaw10.RsaSigns", spec := "rsaSigns", inPlace := ["internal/bytealg.MakeNoZero"], unfollowed := true, recurses := true, named := ["math/bits.overflowError"], apart := false }
def RsaSignsSaid : Prop := rsaSignsRow.holds Try.pinned (OpenSpec.ofChange rsaSignsSpec)

/-- ITS FALSE NEIGHBOUR: 'it returns false'. Refute it at one input. -/
def rsaSignsWrong : ChangeSpec := { name := "rsaSigns", fn := fun _ => fun
  | [d1, d2, d3] => { results := [.lit (.bool false)], args := [d1, d2, d3] }
  | _ => none }
def RsaSignsWrongFalsely : Prop := rsaSignsRow.holds Try.pinned (OpenSpec.ofChange rsaSignsWrong)

/-- 'affiantlaw10.RsaOne': WHATEVER THE INPUT: true; the input reads as it did. -/
def rsaOneSpec : ChangeSpec := { name := "rsaOne", fn := fun _ => fun
  | [d1, d2] => { results := [.lit (.bool true)], args := [d1, d2] }
  | _ => none }
def rsaOneRow : OpenClaim := { program := "ytcbfflhggjkmpaa", sum := "411b0d45f7b1fb1bd0b95302847dff7f3ae7dbce879b8a99d4e67596b3ad57a6", func := "affiant/affiantlaw10.RsaOne", spec := "rsaOne", inPlace := ["internal/bytealg.MakeNoZero"], unfollowed := true, recurses := true, named := ["math/bits.overflowError"], apart := false }
def RsaOneSaid : Prop := rsaOneRow.holds Try.pinned (OpenSpec.ofChange rsaOneSpec)

/-- ITS FALSE NEIGHBOUR: 'it returns false'. Refute it at one input. -/
def rsaOneWrong : ChangeSpec := { name := "rsaOne", fn := fun _ => fun
  | [d1, d2] => { results := [.lit (.bool false)], args := [d1, d2] }
  | _ => none }
def RsaOneWrongFalsely : Prop := rsaOneRow.holds Try.pinned (OpenSpec.ofChange rsaOneWrong)

/- THE SECOND FORM. 'bulk': how many values and letters a reading holds, each counted each time it is reached (what is shared counts as often as it is met; a slice's spare places count too). A statement '..UptoSaid' is the law's where the arguments, and the package variables that the reading takes, are together of bulk at most 1048576: NARROWER than '..Said'. Prove '..Said' where nothing that the law and all that it calls make is longer than what came in: it says more and counts as full. Else prove '..UptoSaid'. A law counts once. -/
mutual
def uptoBulk {H : Type} : DataW H → Nat
  | .lit (.string bytes) => bytes.length + 1
  | .lit _ => 1
  | .nil => 1
  | .ptr d => uptoBulk d + 1
  | .slice elems spare => uptoBulkAll elems + uptoBulkAll spare + 1
  | .agg parts => uptoBulkAll parts + 1
  | .iface _ d => uptoBulk d + 1
  | .map entries => uptoBulkEntries entries + 1
  | .held _ => 1
def uptoBulkAll {H : Type} : List (DataW H) → Nat
  | [] => 0
  | d :: r => uptoBulk d + uptoBulkAll r
def uptoBulkEntries {H : Type} : List (Lit × DataW H) → Nat
  | [] => 0
  | x :: r => uptoBulkEntry x + uptoBulkEntries r
def uptoBulkEntry {H : Type} : Lit × DataW H → Nat
  | (.string bytes, d) => bytes.length + uptoBulk d + 1
  | (_, d) => uptoBulk d + 1
 end
def uptoSmall : (H : Type) → List (DataW H) → Bool := fun _ ds => decide (uptoBulkAll ds ≤ 1048576)
def OpenSpec.upto (s : _root_.Go.ChangeSpec) : _root_.Go.OpenSpec := { _root_.Go.OpenSpec.ofChange s with cond := some uptoSmall }

/-- 'affiantlaw10.RsaCheck', WHERE WHAT IT READS IS OF BULK AT MOST 1048576: true; the input reads as it did. -/
def rsaCheckUptoRow : OpenClaim := { program := "ytcbfflhggjkmpaa", sum := "411b0d45f7b1fb1bd0b95302847dff7f3ae7dbce879b8a99d4e67596b3ad57a6", func := "affiant/affiantlaw10.RsaCheck", spec := "rsaCheck", unfollowed := true, recurses := true, apart := false, narrowed := true }
def RsaCheckUptoSaid : Prop := rsaCheckUptoRow.holds Try.pinned (OpenSpec.upto rsaCheckSpec)

/-- 'affiantlaw10.RsaMessage', WHERE WHAT IT READS IS OF BULK AT MOST 1048576: true; the input reads as it did. -/
def rsaMessageUptoRow : OpenClaim := { program := "ytcbfflhggjkmpaa", sum := "411b0d45f7b1fb1bd0b95302847dff7f3ae7dbce879b8a99d4e67596b3ad57a6", func := "affiant/affiantlaw10.RsaMessage", spec := "rsaMessage", inPlace := ["internal/bytealg.MakeNoZero"], unfollowed := true, recurses := true, apart := false, narrowed := true }
def RsaMessageUptoSaid : Prop := rsaMessageUptoRow.holds Try.pinned (OpenSpec.upto rsaMessageSpec)

/-- 'affiantlaw10.RsaVerify', WHERE WHAT IT READS IS OF BULK AT MOST 1048576: true; the input reads as it did. -/
def rsaVerifyUptoRow : OpenClaim := { program := "ytcbfflhggjkmpaa", sum := "411b0d45f7b1fb1bd0b95302847dff7f3ae7dbce879b8a99d4e67596b3ad57a6", func := "affiant/affiantlaw10.RsaVerify", spec := "rsaVerify", inPlace := ["internal/bytealg.MakeNoZero"], unfollowed := true, recurses := true, named := ["math/bits.overflowError"], apart := false, narrowed := true }
def RsaVerifyUptoSaid : Prop := rsaVerifyUptoRow.holds Try.pinned (OpenSpec.upto rsaVerifySpec)

/-- 'affiantlaw10.RsaSign', WHERE WHAT IT READS IS OF BULK AT MOST 1048576: true; the input reads as it did. -/
def rsaSignUptoRow : OpenClaim := { program := "ytcbfflhggjkmpaa", sum := "411b0d45f7b1fb1bd0b95302847dff7f3ae7dbce879b8a99d4e67596b3ad57a6", func := "affiant/affiantlaw10.RsaSign", spec := "rsaSign", inPlace := ["internal/bytealg.MakeNoZero"], unfollowed := true, recurses := true, named := ["math/bits.overflowError"], apart := false, narrowed := true }
def RsaSignUptoSaid : Prop := rsaSignUptoRow.holds Try.pinned (OpenSpec.upto rsaSignSpec)

/-- 'affiantlaw10.RsaSigns', WHERE WHAT IT READS IS OF BULK AT MOST 1048576: true; the input reads as it did. -/
def rsaSignsUptoRow : OpenClaim := { program := "ytcbfflhggjkmpaa", sum := "411b0d45f7b1fb1bd0b95302847dff7f3ae7dbce879b8a99d4e67596b3ad57a6", func := "affiant/affiantlaw10.RsaSigns", spec := "rsaSigns", inPlace := ["internal/bytealg.MakeNoZero"], unfollowed := true, recurses := true, named := ["math/bits.overflowError"], apart := false, narrowed := true }
def RsaSignsUptoSaid : Prop := rsaSignsUptoRow.holds Try.pinned (OpenSpec.upto rsaSignsSpec)

/-- 'affiantlaw10.RsaOne', WHERE WHAT IT READS IS OF BULK AT MOST 1048576: true; the input reads as it did. -/
def rsaOneUptoRow : OpenClaim := { program := "ytcbfflhggjkmpaa", sum := "411b0d45f7b1fb1bd0b95302847dff7f3ae7dbce879b8a99d4e67596b3ad57a6", func := "affiant/affiantlaw10.RsaOne", spec := "rsaOne", inPlace := ["internal/bytealg.MakeNoZero"], unfollowed := true, recurses := true, named := ["math/bits.overflowError"], apart := false, narrowed := true }
def RsaOneUptoSaid : Prop := rsaOneUptoRow.holds Try.pinned (OpenSpec.upto rsaOneSpec)

end Rows
end Go.Proofs.Ytcbfflhggjkmpaa
