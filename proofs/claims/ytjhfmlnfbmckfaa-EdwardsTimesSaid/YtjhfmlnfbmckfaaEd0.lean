/- The curve's points in plain numbers: sums of points are points, and the group's laws. No program in sight. -/
import Derived.Test.YtjhfmlnfbmckfaaFm1
import Derived.Test.YtjhfmlnfbmckfaaEdid
namespace Go.Proofs.Ytjhfmlnfbmckfaa
open Go Go.RowKit
set_option linter.unusedVariables false
def MM : Int := 57896044618658097711785492504343953926634992332820282019728792003956564819949
theorem MM_PP : (PP : Int) = MM := rfl
def DD : Nat := 37095705934669439343138083508754565189542113879843219016388785533085940283555
def fM (a b : Nat) : Nat := a * b % PP
def fA (a b : Nat) : Nat := (a + b) % PP
def fS (a b : Nat) : Nat := (a % PP + PP - b % PP) % PP
def fI (a : Nat) : Nat := powP a 57896044618658097711785492504343953926634992332820282019728792003956564819947
theorem fM_lt (a b : Nat) : fM a b < PP := Nat.mod_lt _ PP_pos
theorem fA_lt (a b : Nat) : fA a b < PP := Nat.mod_lt _ PP_pos
theorem fS_lt (a b : Nat) : fS a b < PP := Nat.mod_lt _ PP_pos
theorem fI_lt (a : Nat) : fI a < PP := powP_lt _ _
/-- The number a is what is left of x. -/
def Cg (a : Nat) (x : Int) : Prop := MM ∣ (a : Int) - x
theorem dl {x : Int} (h : MM ∣ x) (y : Int) : MM ∣ x * y := Int.dvd_trans h ⟨y, rfl⟩
theorem dr {y : Int} (x : Int) (h : MM ∣ y) : MM ∣ x * y := Int.dvd_trans h ⟨x, Int.mul_comm _ _⟩
theorem Cg.self (a : Nat) : Cg a a := ⟨0, by simp⟩
theorem Cg.to {a : Nat} {x y : Int} (h : Cg a x) (e : MM ∣ x - y) : Cg a y := by
  have := Int.dvd_add h e
  unfold Cg
  rwa [show (a : Int) - x + (x - y) = a - y by omega] at this
theorem Cg.eqv {a : Nat} {x y : Int} (h : Cg a x) (h2 : Cg a y) : MM ∣ x - y := by
  have := Int.dvd_sub h2 h
  rwa [show (a : Int) - y - (a - x) = x - y by omega] at this
theorem cg_mod (a : Nat) : Cg (a % PP) a := by
  refine ⟨-((a / PP : Nat) : Int), ?_⟩
  have := Nat.div_add_mod a PP
  rw [← MM_PP, Int.mul_neg, ← Int.natCast_mul]
  omega
theorem mul_dvd {x y a b : Int} (h : MM ∣ x - a) (h2 : MM ∣ y - b) : MM ∣ x * y - a * b := by
  have := Int.dvd_add (dl h (y)) (dr (a) h2)
  rwa [show (x - a) * y + a * (y - b) = x * y - a * b by grind] at this
theorem Cg.M {a b : Nat} {x y : Int} (h : Cg a x) (h2 : Cg b y) : Cg (fM a b) (x * y) :=
  (cg_mod (a * b)).to (by rw [Int.natCast_mul]; exact mul_dvd h h2)
theorem Cg.A {a b : Nat} {x y : Int} (h : Cg a x) (h2 : Cg b y) : Cg (fA a b) (x + y) :=
  (cg_mod (a + b)).to (by
    have := Int.dvd_add h h2
    rwa [show (a : Int) - x + (b - y) = (a + b : Nat) - (x + y) by omega] at this)
theorem Cg.S {a b : Nat} {x y : Int} (h : Cg a x) (h2 : Cg b y) : Cg (fS a b) (x - y) := by
  have hb : b % PP ≤ PP := Nat.le_of_lt (Nat.mod_lt _ PP_pos)
  refine (cg_mod (a % PP + PP - b % PP)).to ?_
  have h3 : MM ∣ ((a % PP : Nat) : Int) - x := (cg_mod a).to h
  have h4 : MM ∣ ((b % PP : Nat) : Int) - y := (cg_mod b).to h2
  have h5 := Int.dvd_add (Int.dvd_sub h3 h4) (Int.dvd_refl MM)
  rw [← MM_PP] at h5 ⊢
  generalize a % PP = u at *
  generalize b % PP = v at *
  generalize PP = P at *
  rwa [show ((u : Int) - x - (v - y) + P) = ((u + P - v : Nat) : Int) - (x - y) by omega] at h5
theorem Cg.uniq {a b : Nat} {x : Int} (ha : a < PP) (hb : b < PP) (h : Cg a x) (h2 : Cg b x) : a = b := by
  have h3 := Int.dvd_sub h h2
  rw [show (a : Int) - x - (b - x) = a - b by omega, ← MM_PP] at h3
  have := modZ.2 h3
  rwa [Nat.mod_eq_of_lt ha, Nat.mod_eq_of_lt hb] at this
theorem nz_mul {x y : Int} (hx : ¬ MM ∣ x) (hy : ¬ MM ∣ y) : ¬ MM ∣ x * y := fun h => (PP_pr.euclidZ h).elim hx hy
theorem zz {x y : Int} (hx : ¬ MM ∣ x) (h : MM ∣ x * y) : MM ∣ y := (PP_pr.euclidZ h).elim (fun h => absurd h hx) id
theorem not_one : ¬ MM ∣ 1 := by decide
theorem not_two : ¬ MM ∣ 2 := by decide
theorem Cg.I {a : Nat} {x : Int} (h : Cg a x) (hx : ¬ MM ∣ x) : MM ∣ x * (fI a : Int) - 1 := by
  have ha : ¬ a % PP = 0 := fun h0 => hx (by
    have h1 := mod0Z.1 h0
    have := Int.dvd_sub h1 h
    rwa [show (a : Int) - (a - x) = x by omega] at this)
  have h1 := inv_mul ha
  have h2 : MM ∣ ((a * fI a : Nat) : Int) - 1 := by
    have hP : 1 % PP = 1 := by decide
    exact modZ.1 (h1.trans hP.symm)
  have h3 := Int.dvd_sub h2 (dl h ((fI a : Int)))
  rw [Int.natCast_mul] at h3
  rwa [show (a : Int) * (fI a : Int) - 1 - (a - x) * (fI a : Int) = x * (fI a : Int) - 1 by grind] at h3
/-- What is divided is such a number. -/
theorem Cg.div {a b : Nat} {x y z : Int} (ha : Cg a x) (hb : Cg b y) (hy : ¬ MM ∣ y) (h : MM ∣ x - z * y) : Cg (fM a (fI b)) z := by
  have h1 := (ha.M (Cg.self (fI b)))
  have h2 := hb.I hy
  refine h1.to ?_
  have h3 := Int.dvd_add (dl h ((fI b : Int))) (dr (z) h2)
  rwa [show (x - z * y) * (fI b : Int) + z * (y * (fI b : Int) - 1) = x * (fI b : Int) - z by grind] at h3
/-- What is divided, times what it is divided by. -/
theorem Cg.back {a b : Nat} {x y : Int} (ha : Cg a x) (hb : Cg b y) (hy : ¬ MM ∣ y) : MM ∣ (fM a (fI b) : Int) * y - x := by
  have h1 := (ha.M (Cg.self (fI b)))
  have h2 := hb.I hy
  have h3 := Int.dvd_add (dl h1 (y)) (dr (x) h2)
  rwa [show ((fM a (fI b) : Int) - x * (fI b : Int)) * y + x * (y * (fI b : Int) - 1) = (fM a (fI b) : Int) * y - x by grind] at h3
/-! ### No root of the curve's number -/
theorem DD_half : powP DD 28948022309329048855892746252171976963317496166410141009864396001978282409974 = PP - 1 := by
  rw [← pwm_ok 256 DD _ (by decide)]
  decide +kernel
theorem powP_prod (a b n : Nat) : powP (a * b) n = powP a n * powP b n % PP := by
  simp only [powP, Nat.mul_pow]
  rw [Nat.mul_mod]
theorem powP_modb {a b n : Nat} (h : a % PP = b % PP) : powP a n = powP b n := by rw [← powP_base, h, powP_base]
theorem powP_half2 {b : Nat} (hb : ¬ b % PP = 0) : powP (b * b) 28948022309329048855892746252171976963317496166410141009864396001978282409974 = 1 := by
  rw [powP_prod, powP_mul]
  exact powP_ferm hb
theorem d_nsqN {a b : Nat} (h : a * a % PP = DD * (b * b) % PP) : b % PP = 0 := by
  by_cases hb : b % PP = 0
  · exact hb
  · exfalso
    have h1 := powP_modb (n := 28948022309329048855892746252171976963317496166410141009864396001978282409974) h
    rw [powP_prod DD, powP_half2 hb, DD_half, Nat.mul_one] at h1
    by_cases ha : a % PP = 0
    · have h2 : DD * (b * b) % PP = 0 := by rw [← h, Nat.mul_mod, ha]; simp
      have h3 := Nat.dvd_of_mod_eq_zero h2
      rcases PP_pr.euclid h3 with h4 | h4
      · exact absurd h4 (by decide)
      · rcases PP_pr.euclid h4 with h5 | h5 <;> exact hb (Nat.mod_eq_zero_of_dvd h5)
    · rw [powP_half2 ha] at h1
      exact absurd h1 (by decide)
theorem natOf (x : Int) : ∃ a : Nat, a < PP ∧ Cg a x := by
  have hM : (0 : Int) < MM := by decide
  have h0 := Int.emod_nonneg x (show MM ≠ 0 by decide)
  have h1 := Int.emod_lt_of_pos x hM
  refine ⟨(x % MM).toNat, ?_, ?_⟩
  · have e : (PP : Int) = MM := rfl
    omega
  · unfold Cg
    rw [Int.toNat_of_nonneg h0]
    refine ⟨-(x / MM), ?_⟩
    have := Int.emod_add_mul_ediv x MM
    rw [Int.mul_neg]; omega
theorem d_nsq {x y : Int} (h : MM ∣ x * x - DD * (y * y)) : MM ∣ y := by
  obtain ⟨a, _, ha⟩ := natOf x
  obtain ⟨b, _, hb⟩ := natOf y
  have h1 : a * a % PP = DD * (b * b) % PP := by
    refine modZ.2 ?_
    rw [Int.natCast_mul, Int.natCast_mul, Int.natCast_mul]
    have e1 := mul_dvd ha ha
    have e2 := dr ((DD : Int)) (mul_dvd hb hb)
    have := Int.dvd_sub (Int.dvd_add e1 h) e2
    rwa [show (a : Int) * a - x * x + (x * x - DD * (y * y)) - DD * ((b : Int) * b - y * y) = a * a - DD * ((b : Int) * b) by grind] at this
  have h2 := mod0Z.1 (d_nsqN h1)
  have := Int.dvd_sub h2 hb
  rwa [show (b : Int) - (b - y) = y by omega] at this
/-! ### No exceptions -/
theorem II_ex : ∃ i : Nat, i * i % PP = PP - 1 := ⟨_, two_half⟩
noncomputable def II : Nat := Classical.choose II_ex
theorem II_sq : MM ∣ (II : Int) * II + 1 := by
  have h : II * II % PP = PP - 1 := Classical.choose_spec II_ex
  have h2 := cg_mod (II * II)
  rw [h] at h2
  have e : ((PP - 1 : Nat) : Int) = MM - 1 := by decide
  unfold Cg at h2
  rw [e, Int.natCast_mul] at h2
  have := Int.dvd_sub (Int.dvd_refl MM) h2
  rwa [show MM - (MM - 1 - (II : Int) * II) = (II : Int) * II + 1 by omega] at this
theorem II_nz : ¬ MM ∣ (II : Int) := fun h => not_one (by
  have := Int.dvd_sub II_sq (dl h ((II : Int)))
  rwa [show (II : Int) * II + 1 - II * II = 1 by omega] at this)
theorem comp_one {e x1 y1 x2 y2 : Int} (he : e * e = 1) (h1 : MM ∣ EE DD x1 y1) (h2 : MM ∣ EE DD x2 y2) (ht : MM ∣ e - tt4 DD x1 y1 x2 y2) : MM ∣ (II : Int) * (II * x1) * y1 * (II * x2 + y2) := by
  refine d_nsq (x := II * x1 + e * y1) ?_
  have id := complete_id II e x1 y1 x2 y2 DD
  rw [id, he]
  have a1 : MM ∣ 2 * II * x1 * y1 * (e - tt4 DD x1 y1 x2 y2) := dr _ ht
  have a2 : MM ∣ (tt4 DD x1 y1 x2 y2 - e) * (tt4 DD x1 y1 x2 y2 + e) := dl (by
    have := Int.dvd_neg.2 ht
    rwa [show -(e - tt4 DD x1 y1 x2 y2) = tt4 DD x1 y1 x2 y2 - e by omega] at this) _
  have a3 : MM ∣ DD * x1 * x1 * y1 * y1 * EE DD x2 y2 := dr _ h2
  have a4 : MM ∣ ((II : Int) * II + 1) * (x1 * x1 - DD * x1 * x1 * y1 * y1 * ((II * II - 1) * (II * II * x2 * x2 + 2 * II * x2 * y2 + y2 * y2) + x2 * x2)) := dl II_sq _
  have := Int.dvd_add (Int.dvd_sub (Int.dvd_sub (Int.dvd_add h1 a1) a2) a3) a4
  simpa using this
theorem comp_pm {e x1 y1 x2 y2 : Int} (he : e * e = 1) (h1 : MM ∣ EE DD x1 y1) (h2 : MM ∣ EE DD x2 y2) : ¬ MM ∣ e - tt4 DD x1 y1 x2 y2 := fun ht => by
  have hen : ¬ MM ∣ e := fun hd => not_one (by rw [← he]; exact dl hd _)
  have htn : ¬ MM ∣ tt4 DD x1 y1 x2 y2 := fun hd => hen (by
    have := Int.dvd_add ht hd
    rwa [show e - tt4 DD x1 y1 x2 y2 + tt4 DD x1 y1 x2 y2 = e by omega] at this)
  have hx1 : ¬ MM ∣ x1 := fun hd => htn (by
    unfold tt4; exact dl (dl (dl (dr _ hd) _) _) _)
  have hx2 : ¬ MM ∣ x2 := fun hd => htn (by
    unfold tt4; exact dl (dl (dr _ hd) _) _)
  have hy1 : ¬ MM ∣ y1 := fun hd => htn (by
    unfold tt4; exact dl (dr _ hd) _)
  have hy2 : ¬ MM ∣ y2 := fun hd => htn (by
    unfold tt4; exact dr _ hd)
  have key : ∀ {u1 u2 w2 : Int}, ¬ MM ∣ u1 → MM ∣ (II : Int) * (II * x1) * u1 * w2 → MM ∣ w2 := fun hu h => zz (nz_mul (nz_mul II_nz (nz_mul II_nz hx1)) hu) h
  have k1 := key (u2 := 0) hy1 (comp_one he h1 h2 ht)
  have k2 : MM ∣ (II : Int) * x2 + -y2 := by
    refine key (u1 := -y1) (u2 := 0) (fun h => hy1 (Int.dvd_neg.1 h)) (comp_one (e := e) (x1 := x1) (y1 := -y1) (x2 := x2) (y2 := -y2) he ?_ ?_ ?_)
    · rwa [show EE DD x1 (-y1) = EE DD x1 y1 by unfold EE; grind]
    · rwa [show EE DD x2 (-y2) = EE DD x2 y2 by unfold EE; grind]
    · rwa [show tt4 DD x1 (-y1) x2 (-y2) = tt4 DD x1 y1 x2 y2 by unfold tt4; grind]
  have k3 := Int.dvd_sub k1 k2
  rw [show (II : Int) * x2 + y2 - (II * x2 + -y2) = 2 * y2 by omega] at k3
  exact hy2 (zz not_two k3)
theorem comp_add {x1 y1 x2 y2 : Int} (h1 : MM ∣ EE DD x1 y1) (h2 : MM ∣ EE DD x2 y2) : ¬ MM ∣ 1 + tt4 DD x1 y1 x2 y2 := fun h => comp_pm (e := -1) (by decide) h1 h2 (by
  have := Int.dvd_neg.2 h
  rwa [show -(1 + tt4 DD x1 y1 x2 y2) = -1 - tt4 DD x1 y1 x2 y2 by omega] at this)
theorem comp_sub {x1 y1 x2 y2 : Int} (h1 : MM ∣ EE DD x1 y1) (h2 : MM ∣ EE DD x2 y2) : ¬ MM ∣ 1 - tt4 DD x1 y1 x2 y2 := comp_pm (e := 1) (by decide) h1 h2
end Go.Proofs.Ytjhfmlnfbmckfaa
