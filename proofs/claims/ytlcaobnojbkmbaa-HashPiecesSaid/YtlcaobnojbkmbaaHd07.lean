/- The padded bytes and the hash, by the engine. -/
import Derived.Test.YtlcaobnojbkmbaaHc07
namespace Go.Proofs.Ytlcaobnojbkmbaa.H7
open Go Go.RowKit
set_option linter.unusedVariables false
set_option linter.unusedSimpArgs false

theorem zc_step (L j : Nat) (h : j ≤ zc L) : ((L + j) % 64 = 56) = (j = zc L) := by
  unfold zc at *
  apply propext
  omega
theorem zc_lt (L : Nat) : zc L < 64 := by unfold zc; omega
theorem mlen (L : Nat) : BitVec.ofInt 64 (L : Int) * 8#64 = BitVec.ofNat 64 (L * 8) := by
  rw [BitVec.ofInt_natCast]
  apply BitVec.eq_of_toNat_eq
  simp [BitVec.toNat_mul]
def lenP (M : U64) (k : Nat) : List U8 := lenB M k
def cPadded : CT := fun cas K => match cas with
  | [.s (.c8 bs)] => bs.length ≤ 1000000 ∧ K (.one (.s (.c8 (padF bs))))
  | _ => False
def h4 : CTab := fun F => match F with
  | _ => .fn noCT
theorem h4_ok : CTok Try.prog h4 := by
  intro F
  unfold h4
  split
  · exact sound_none _ _

theorem blocks_zero (h : V8) (p : List U8) : blocksF 0 h p = h := rfl
def cSum : CT := fun cas K => match cas with
  | [.s (.c8 bs), .v (.bool b)] => bs.length ≤ 1000000 ∧ K (.one (.v (.a8 (sumF b bs))))
  | _ => False
def SumI (T : V8) (s : Nat × V8 × List U8 × Option Addr × Nat) : Prop := s.2.2.1.length = 64 * s.1 ∧ s.2.2.1.length ≤ 2000000 ∧ blocksF s.1 s.2.1 s.2.2.1 = T
def h5 : CTab := fun F => match F with
  | 37 => .fn cStart
  | 39 => .fn cBlock
  | _ => .fn noCT
theorem h5_ok : CTok Try.prog h5 := by
  intro F
  unfold h5
  split
  · exact sStart
  · exact sBlock
  · exact sound_none _ _
end Go.Proofs.Ytlcaobnojbkmbaa.H7
