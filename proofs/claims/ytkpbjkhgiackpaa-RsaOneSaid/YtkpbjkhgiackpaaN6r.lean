/- The document's shifts down, by the engine. -/
import Derived.Test.YtkpbjkhgiackpaaN4r
import Derived.Test.YtkpbjkhgiackpaaNs
namespace Go.Proofs.Ytkpbjkhgiackpaa
open Go Go.RowKit
set_option linter.unusedVariables false
set_option linter.unusedSimpArgs false

def cShrR : CT := fun cas K => match cas with
  | [.s (.c32 a), .v (.int n)] => (a.length ≤ 10000 ∧ intIn n) ∧ ∀ e, Can32 e → nv32 e = nv32 a / 2 ^ n.toNat → e.length ≤ 2 * a.length → (e = [] → K (.one (.s (.c32 e)))) ∧ K (.one (.al (.c32 e)))
  | _ => False
def n8 : CTab := fun F => match F with
  | 127 => .fn cTrim
  | 132 => .fn cDigit
  | 92 => .fn cDigits
  | 91 => .fn cWhole
  | 113 => .fn cCompare
  | 66 => .fn cCmp
  | 130 => .fn cTimes
  | 129 => .fn cLess
  | _ => .fn noCT
theorem n8_ok : CTok Try.prog n8 := by
  intro F
  unfold n8
  split
  · exact sTrim
  · exact sDigit
  · exact sDigits
  · exact sWhole
  · exact sCompare
  · exact sCmpR
  · exact sTimes
  · exact sLess
  · exact sound_none _ _
end Go.Proofs.Ytkpbjkhgiackpaa
