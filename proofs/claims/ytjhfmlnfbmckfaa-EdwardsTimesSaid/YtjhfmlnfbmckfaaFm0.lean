/- Powers in the curve's prime field, square by square. No program in sight. -/
import Derived.Test.YtjhfmlnfbmckfaaFr3
namespace Go.Proofs.Ytjhfmlnfbmckfaa
open Go Go.RowKit
set_option linter.unusedVariables false
/-- A power, square by square. -/
def pwm : Nat → Nat → Nat → Nat
  | 0, _, _ => 1
  | f + 1, a, n => if n = 0 then 1 else if n % 2 = 1 then pwm f (a * a % PP) (n / 2) * a % PP else pwm f (a * a % PP) (n / 2)
theorem pwm_ok : ∀ (f a n : Nat), n < 2 ^ f → pwm f a n = powP a n
  | 0, a, n, h => by
    have : n = 0 := by simpa using h
    subst this; rw [powP_zero]; rfl
  | f + 1, a, n, h => by
    unfold pwm
    have hh : n / 2 < 2 ^ f := by rw [Nat.pow_succ] at h; omega
    have hsq : powP (a * a % PP) (n / 2) = powP a (n / 2 + n / 2) := by
      rw [powP_base]
      simp only [powP]
      rw [← Nat.pow_two, ← Nat.pow_mul]
      congr 2; omega
    split
    · rename_i h0; subst h0; rw [powP_zero]
    · rw [pwm_ok f _ _ hh, hsq]
      split
      · rename_i hb
        have e1 := powP_mul a (n / 2 + n / 2) 1
        rw [powP_one, Nat.mul_mod, Nat.mod_mod] at e1
        rw [Nat.mul_mod, e1]; congr 1; omega
      · congr 1; omega
theorem four_E8 : powP 4 7237005577332262213973186563042994240829374041602535252466099000494570602494 = pwm 256 4 7237005577332262213973186563042994240829374041602535252466099000494570602494 := (pwm_ok 256 4 _ (by decide)).symm
theorem two_Q4 : powP 2 14474011154664524427946373126085988481658748083205070504932198000989141204987 = pwm 256 2 14474011154664524427946373126085988481658748083205070504932198000989141204987 := (pwm_ok 256 2 _ (by decide)).symm
end Go.Proofs.Ytjhfmlnfbmckfaa
