/- The document's differences, products and shifts up, by the engine. -/
import Derived.Test.YtpononlbfealjaaN2r
namespace Go.Proofs.Ytpononlbfealjaa
open Go Go.RowKit
set_option linter.unusedVariables false
set_option linter.unusedSimpArgs false

def cLess : CT := fun cas K => match cas with
  | [.s (.c64 x), .s (.c64 y)] => (D16 x ∧ D16 y ∧ x.length ≤ 50000 ∧ y.length ≤ 50000 ∧ nv16 y ≤ nv16 x) ∧ ∀ e, Can16 e → nv16 e = nv16 x - nv16 y → e.length ≤ x.length → K (.one (.al (.c64 e)))
  | _ => False
def cSubR : CT := fun cas K => match cas with
  | [.s (.c32 a), .s (.c32 b)] => (a.length ≤ 10000 ∧ b.length ≤ 10000) ∧ (nv32 a < nv32 b → K (.tup [.s (.c32 []), .v (.int 1)])) ∧ (nv32 b ≤ nv32 a → ∀ e, Can32 e → nv32 e = nv32 a - nv32 b → e.length ≤ 2 * a.length → K (.tup [.al (.c32 e), .v (.int 0)]))
  | _ => False
def cMulR : CT := fun cas K => match cas with
  | [.s (.c32 a), .s (.c32 b)] => (a.length ≤ 5000 ∧ b.length ≤ 5000) ∧ ∀ e, Can32 e → nv32 e = nv32 a * nv32 b → e.length ≤ 2 * a.length + 2 * b.length → K (.one (.al (.c32 e)))
  | _ => False
def cShlR : CT := fun cas K => match cas with
  | [.s (.c32 a), .v (.int n)] => a.length ≤ 10000 ∧ (¬ (0 ≤ n ∧ n ≤ 16384) → K (.tup [.s (.c32 []), .v (.int 1)])) ∧ (0 ≤ n ∧ n ≤ 16384 → ∀ e, Can32 e → nv32 e = nv32 a * 2 ^ n.toNat → e.length ≤ 2 * a.length + 1100 → K (.tup [.al (.c32 e), .v (.int 0)]))
  | _ => False
def n4 : CTab := fun F => match F with
  | 39 => .fn cTrim
  | 37 => .fn cDigit
  | 34 => .fn cDigits
  | 36 => .fn cWhole
  | 38 => .fn cCompare
  | 33 => .fn cCmp
  | 35 => .fn cTimes
  | _ => .fn noCT
theorem n4_ok : CTok Try.prog n4 := by
  intro F
  unfold n4
  split
  · exact sTrim
  · exact sDigit
  · exact sDigits
  · exact sWhole
  · exact sCompare
  · exact sCmpR
  · exact sTimes
  · exact sound_none _ _
def n5 : CTab := fun F => match F with
  | 39 => .fn cTrim
  | 37 => .fn cDigit
  | 34 => .fn cDigits
  | 36 => .fn cWhole
  | 38 => .fn cCompare
  | 33 => .fn cCmp
  | 35 => .fn cTimes
  | _ => .fn noCT
theorem n5_ok : CTok Try.prog n5 := by
  intro F
  unfold n5
  split
  · exact sTrim
  · exact sDigit
  · exact sDigits
  · exact sWhole
  · exact sCompare
  · exact sCmpR
  · exact sTimes
  · exact sound_none _ _
end Go.Proofs.Ytpononlbfealjaa
