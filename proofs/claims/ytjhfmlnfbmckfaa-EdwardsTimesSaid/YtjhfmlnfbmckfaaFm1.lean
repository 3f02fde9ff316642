/- The field's laws in plain numbers: the prime is prime; inverses and roots. No program in sight. -/
import Derived.Test.YtjhfmlnfbmckfaaFm0
import Derived.Test.YtjhfmlnfbmckfaaPrim
namespace Go.Proofs.Ytjhfmlnfbmckfaa
open Go Go.RowKit
set_option linter.unusedVariables false
theorem PP_pr : Pr PP := pr_P
theorem Pr.euclidZ {r : Nat} {a b : Int} (h : Pr r) (hd : (r : Int) ∣ a * b) : (r : Int) ∣ a ∨ (r : Int) ∣ b := by
  rw [Int.ofNat_dvd_left, Int.natAbs_mul] at hd
  rw [Int.ofNat_dvd_left, Int.ofNat_dvd_left]
  exact h.euclid hd
theorem modZ {p a b : Nat} : a % p = b % p ↔ (p : Int) ∣ (a : Int) - (b : Int) := by
  constructor
  · intro h
    have h1 := Nat.div_add_mod a p
    have h2 := Nat.div_add_mod b p
    refine ⟨(a / p : Nat) - (b / p : Nat), ?_⟩
    rw [Int.mul_sub, ← Int.natCast_mul, ← Int.natCast_mul]
    omega
  · intro h
    have h1 := Int.emod_eq_emod_iff_emod_sub_eq_zero.2 (Int.emod_eq_zero_of_dvd h)
    rw [← Int.natCast_emod, ← Int.natCast_emod] at h1
    exact Int.ofNat.inj h1
theorem mod0Z {p a : Nat} : a % p = 0 ↔ (p : Int) ∣ (a : Int) := by
  have := @modZ p a 0
  simpa using this
/-- Two numbers with one square. -/
theorem sq_pm {x y : Nat} (hx : x < PP) (hy : y < PP) (h : x * x % PP = y * y % PP) : x = y ∨ x = (PP - y) % PP := by
  have h1 : (PP : Int) ∣ ((x : Int) - y) * ((x : Int) + y) := by
    have := modZ.1 h
    rw [Int.natCast_mul, Int.natCast_mul] at this
    have e : ((x : Int) - y) * ((x : Int) + y) = (x : Int) * x - (y : Int) * y := by grind
    rwa [e]
  have hP : 0 < PP := PP_pos
  rcases PP_pr.euclidZ h1 with h2 | h2
  · left
    have := modZ.2 h2
    rwa [Nat.mod_eq_of_lt hx, Nat.mod_eq_of_lt hy] at this
  · right
    obtain ⟨k, hk⟩ := h2
    generalize PP = P at *
    by_cases hk0 : k = 0
    · subst hk0
      have : y = 0 := by omega
      subst this
      have : x = 0 := by omega
      subst this
      simp
    · by_cases hk1 : k = 1
      · subst hk1
        rw [Nat.mod_eq_of_lt (by omega)]
        omega
      · exfalso
        rcases (by omega : k ≤ -1 ∨ 2 ≤ k) with hk2 | hk2
        · have := Int.mul_le_mul_of_nonneg_left hk2 (show (0 : Int) ≤ P by omega)
          omega
        · have := Int.mul_le_mul_of_nonneg_left hk2 (show (0 : Int) ≤ P by omega)
          omega
theorem not_dvd {a : Nat} (h : ¬ a % PP = 0) : ¬ PP ∣ a := fun hd => h (Nat.mod_eq_zero_of_dvd hd)
theorem powP_add (a m n : Nat) : powP a (m + n) = powP a m * powP a n % PP := (powP_mul a m n).symm
theorem powP_pred (a n : Nat) (hn : n + 1 = PP) (h : ¬ a % PP = 0) : powP a n = 1 := by
  have h1 := PP_pr.fermat (not_dvd h)
  unfold powP
  rwa [show PP - 1 = n by omega] at h1
theorem powP_ferm {a : Nat} (h : ¬ a % PP = 0) : powP a 57896044618658097711785492504343953926634992332820282019728792003956564819948 = 1 := powP_pred a _ (by decide) h
/-- A power of a square. -/
theorem powP_sq (a n : Nat) : powP (a * a % PP) n = powP a (2 * n) := by
  rw [powP_base]
  simp only [powP]
  rw [← Nat.pow_two, ← Nat.pow_mul]
theorem inv_mul {a : Nat} (h : ¬ a % PP = 0) : a * powP a 57896044618658097711785492504343953926634992332820282019728792003956564819947 % PP = 1 := by
  have h1 := powP_ferm h
  have h2 := powP_mul a 1 57896044618658097711785492504343953926634992332820282019728792003956564819947
  rw [powP_one, Nat.mod_mul_mod] at h2
  rw [h2]; exact h1
theorem inv_zero {a : Nat} (h : a % PP = 0) : powP a 57896044618658097711785492504343953926634992332820282019728792003956564819947 = 0 := by
  have h1 := powP_mul a 1 57896044618658097711785492504343953926634992332820282019728792003956564819946
  rw [powP_one, h, Nat.zero_mul, Nat.zero_mod] at h1
  exact h1.symm
theorem half_pm {a : Nat} (h : ¬ a % PP = 0) : powP a 28948022309329048855892746252171976963317496166410141009864396001978282409974 = 1 ∨ powP a 28948022309329048855892746252171976963317496166410141009864396001978282409974 = PP - 1 := by
  have h1 := powP_mul a 28948022309329048855892746252171976963317496166410141009864396001978282409974 28948022309329048855892746252171976963317496166410141009864396001978282409974
  have h2 : powP a (28948022309329048855892746252171976963317496166410141009864396001978282409974 + 28948022309329048855892746252171976963317496166410141009864396001978282409974) = 1 := powP_ferm h
  rw [h2] at h1
  have hP : 1 < PP := PP_pr.1
  rcases sq_pm (powP_lt a 28948022309329048855892746252171976963317496166410141009864396001978282409974) hP (by rw [h1, Nat.mul_one, Nat.mod_eq_of_lt hP]) with h3 | h3
  · exact .inl h3
  · right
    rw [h3]
    exact Nat.mod_eq_of_lt (by omega)
theorem two_half : powP 2 14474011154664524427946373126085988481658748083205070504932198000989141204987 * powP 2 14474011154664524427946373126085988481658748083205070504932198000989141204987 % PP = PP - 1 := by
  rw [two_Q4]
  decide +kernel
theorem neg_neg_sq {a c t h : Nat} (hc : c * c % PP = a * a % PP * h % PP) (hh : h = PP - 1) (ht : t * t % PP = PP - 1) : c * t % PP * (c * t % PP) % PP = a * a % PP := by
  have e : c * t % PP * (c * t % PP) % PP = c * c % PP * (t * t % PP) % PP := by
    rw [← Nat.mul_mod, ← Nat.mul_mod]
    congr 1
    grind
  rw [e, hc, ht, hh, Nat.mod_mul_mod, Nat.mul_assoc]
  have e2 : (PP - 1) * (PP - 1) % PP = 1 := by decide
  rw [Nat.mul_mod, e2, Nat.mul_one, Nat.mod_mod, Nat.mod_mod]
theorem cand_sq (a : Nat) : powP (a * a % PP) 7237005577332262213973186563042994240829374041602535252466099000494570602494 * powP (a * a % PP) 7237005577332262213973186563042994240829374041602535252466099000494570602494 % PP = a * a % PP * powP a 28948022309329048855892746252171976963317496166410141009864396001978282409974 % PP := by
  rw [powP_mul, powP_sq]
  have e : a * a % PP = powP a 2 := by simp only [powP, Nat.pow_two]
  rw [e, powP_mul]
theorem root_sq {a : Nat} (h : ¬ a % PP = 0) : ∃ r, (rootF (a * a % PP)).1 = r ∧ (rootF (a * a % PP)).2 = true ∧ (r = a % PP ∨ r = (PP - a % PP) % PP) := by
  obtain ⟨s, hs⟩ : ∃ s, rootR (a * a % PP) = s := ⟨_, rfl⟩
  have hP : 0 < PP := PP_pos
  have hlt : s < PP := hs ▸ rootR_lt _
  have hsq : s * s % PP = a * a % PP % PP := by
    rw [Nat.mod_mod, ← hs]
    by_cases hc : powP (a * a % PP) 7237005577332262213973186563042994240829374041602535252466099000494570602494 * powP (a * a % PP) 7237005577332262213973186563042994240829374041602535252466099000494570602494 % PP = a * a % PP % PP
    · rw [rootR_one hc, hc, Nat.mod_mod]
    · rw [rootR_two hc]
      rcases half_pm h with h1 | h1
      · exfalso
        apply hc
        rw [cand_sq, h1, Nat.mul_one]
      · exact neg_neg_sq (cand_sq a) h1 two_half
  have hpm : s = a % PP ∨ s = (PP - a % PP) % PP := sq_pm hlt (Nat.mod_lt _ hP) (by rw [hsq, Nat.mod_mod, ← Nat.mul_mod])
  by_cases h2 : s % 2 = 0
  · obtain ⟨e1, e2⟩ := root_even2 hs hsq h2
    exact ⟨s, e1, e2, hpm⟩
  · obtain ⟨e1, e2⟩ := root_odd2 hs hsq h2
    refine ⟨_, e1, e2, ?_⟩
    have hA : 0 < a % PP := Nat.pos_of_ne_zero h
    have hA2 := Nat.mod_lt a hP
    generalize a % PP = A at *
    clear hs e1 e2 hsq
    generalize PP = P at *
    rcases hpm with rfl | rfl
    · exact .inr rfl
    · left
      rw [Nat.mod_eq_of_lt (a := P - A) (by omega)]
      rw [Nat.mod_eq_of_lt (by omega)]
      omega
/-- A root that is told. -/
theorem root_told {a : Nat} (h : (rootF a).2 = true) : (rootF a).1 * (rootF a).1 % PP = a % PP ∧ (rootF a).1 % 2 = 0 ∧ (rootF a).1 < PP := by
  obtain ⟨s, hs⟩ : ∃ s, rootR a = s := ⟨_, rfl⟩
  have hP : 0 < PP := PP_pos
  have hlt : s < PP := hs ▸ rootR_lt _
  by_cases hsq : s * s % PP = a % PP
  · by_cases h2 : s % 2 = 0
    · obtain ⟨e1, e2⟩ := root_even2 hs hsq h2
      rw [e1]
      exact ⟨hsq, h2, hlt⟩
    · obtain ⟨e1, e2⟩ := root_odd2 hs hsq h2
      rw [e1]
      have hs0 : 0 < s := by omega
      rw [Nat.mod_eq_of_lt (a := PP - s) (by omega)]
      refine ⟨?_, ?_, by omega⟩
      · rw [← hsq, modZ]
        refine ⟨(PP : Int) - 2 * s, ?_⟩
        have : ((PP - s : Nat) : Int) = (PP : Int) - s := by omega
        rw [Int.natCast_mul, Int.natCast_mul, this]
        grind
      · have : PP % 2 = 1 := by decide
        omega
  · obtain ⟨e1, e2⟩ := root_none2 hs hsq
    rw [e2] at h
    cases h
end Go.Proofs.Ytjhfmlnfbmckfaa
