/- How many points the curve has: any point, the order's number of times, eightfold, is zero. No program in sight. -/
import Derived.Test.YtjhfmlnfbmckfaaEd6
namespace Go.Proofs.Ytjhfmlnfbmckfaa
open Go Go.RowKit
set_option linter.unusedVariables false
/-! ### Multiples, reckoned -/
def forceN {α : Type} (n : Nat) (k : Nat → α) : α := Nat.rec (k 0) (fun m _ => k (m + 1)) n
theorem forceN_eq {α : Type} (n : Nat) (k : Nat → α) : forceN n k = k n := by cases n <;> rfl
def forceE (e : E4) (k : E4 → E4) : E4 := forceN e.1 fun a => forceN e.2.1 fun b => forceN e.2.2.1 fun c => forceN e.2.2.2 fun d => k (a, b, c, d)
theorem forceE_eq (e : E4) (k : E4 → E4) : forceE e k = k e := by simp only [forceE, forceN_eq]
def fourF (e f g h : Nat) : E4 := forceN e fun e => forceN f fun f => forceN g fun g => forceN h fun h => fourE e f g h
theorem fourF_eq (e f g h : Nat) : fourF e f g h = fourE e f g h := by simp only [fourF, forceN_eq]
def plusK (p q : E4) : E4 :=
  forceN (fM (fS p.2.1 p.1) (fS q.2.1 q.1)) fun a => forceN (fM (fA p.2.1 p.1) (fA q.2.1 q.1)) fun b => forceN (fM (fM p.2.2.2 q.2.2.2) (fA DD DD)) fun c => forceN (fM p.2.2.1 q.2.2.1) fun zz =>
    forceN (fA zz zz) fun d => fourF (fS b a) (fS d c) (fA d c) (fA b a)
theorem plusK_eq (p q : E4) : plusK p q = plusE p q := by simp only [plusK, forceN_eq, fourF_eq, plusE]
def dblK (p : E4) : E4 :=
  forceN (fM p.1 p.1) fun a => forceN (fM p.2.1 p.2.1) fun b => forceN (fM p.2.2.1 p.2.2.1) fun zz => forceN (fA zz zz) fun c => forceN (fA a b) fun h =>
    forceN (fS h (fM (fA p.1 p.2.1) (fA p.1 p.2.1))) fun e => forceN (fS a b) fun g => forceN (fA c g) fun f => fourF e f g h
theorem dblK_eq (p : E4) : dblK p = dblE p := by simp only [dblK, forceN_eq, fourF_eq, dblE]
def mulK (q : E4) : Nat → Nat → E4
  | 0, _ => (0, 1, 1, 0)
  | f + 1, n => forceE (mulK q f (n / 2)) fun r => forceE (dblK r) fun s => if n % 2 = 1 then plusK s q else s
theorem rep_mulK {e : E4} {q : Pt} (he : Rep e q) : ∀ f n, n < 2 ^ f → Rep (mulK e f n) (nsm q n)
  | 0, n, h => by
    have : n = 0 := by simpa using h
    subst this
    exact rep_ext onP_zero
  | f + 1, n, h => by
    have hh : n / 2 < 2 ^ f := by rw [Nat.pow_succ] at h; omega
    have ih := rep_mulK he f (n / 2) hh
    have hd := rep_dbl ih
    rw [← nsm_two he.on] at hd
    unfold mulK
    rw [forceE_eq, forceE_eq, dblK_eq]
    split
    · rename_i hb
      rw [plusK_eq]
      have := rep_plus hd he
      rwa [show n = 2 * (n / 2) + 1 by omega, nsm, show (2 * (n / 2) + 1) / 2 = n / 2 by omega]
    · rename_i hb
      rwa [show 2 * (n / 2) = n by omega] at hd
theorem rep_zero {e : E4} {p : Pt} (h : Rep e p) : (e.1 = 0 ∧ e.2.1 = e.2.2.1) ↔ p = zeroP := by
  constructor
  · rintro ⟨h1, h2⟩
    have hx := h.x
    have hy := h.y
    rw [h1] at hx
    rw [h2] at hy
    refine Prod.ext (Eq_.nat h.on.1 (by decide) (Eq_.cancel h.nz ?_)) (Eq_.nat h.on.2.1 (by decide) (Eq_.cancel h.nz ?_))
    · refine Eq_.trans (Eq_.of (Int.mul_comm _ _)) (hx.symm.trans (Eq_.of ?_))
      show ((0 : Nat) : Int) = (e.2.2.1 : Int) * ((0 : Nat) : Int)
      simp
    · refine Eq_.trans (Eq_.of (Int.mul_comm _ _)) (hy.symm.trans (Eq_.of ?_))
      show (e.2.2.1 : Int) = (e.2.2.1 : Int) * ((1 : Nat) : Int)
      simp
  · rintro rfl
    have hx := h.x
    have hy := h.y
    refine ⟨Eq_.nat h.l1 (by decide) (hx.trans (Eq_.of ?_)), Eq_.nat h.l2 h.l3 (hy.trans (Eq_.of ?_))⟩
    · show ((0 : Nat) : Int) * (e.2.2.1 : Int) = ((0 : Nat) : Int)
      simp
    · show ((1 : Nat) : Int) * (e.2.2.1 : Int) = (e.2.2.1 : Int)
      simp
/-- A point whose multiples are most of them. -/
def genP : Pt := (47490639360184182837601875270316946735278442122217188244898328344323804759522, 3)
set_option maxRecDepth 100000 in
theorem onP_gen : onP genP := onP_of (by decide) (by decide) (by decide +kernel)
set_option maxRecDepth 100000 in
theorem gen_all : nsm genP 57896044618658097711785492504343953926856930875039260848015607506283634007912 = zeroP := (rep_zero (rep_mulK (rep_ext onP_gen) 256 57896044618658097711785492504343953926856930875039260848015607506283634007912 (by decide))).1 (by decide +kernel)
set_option maxRecDepth 100000 in
theorem gen_half : nsm genP 28948022309329048855892746252171976963428465437519630424007803753141817003956 ≠ zeroP := fun h => absurd ((rep_zero (rep_mulK (rep_ext onP_gen) 256 28948022309329048855892746252171976963428465437519630424007803753141817003956 (by decide))).2 h) (by decide +kernel)
set_option maxRecDepth 100000 in
theorem gen_eight : nsm genP 8 ≠ zeroP := fun h => absurd ((rep_zero (rep_mulK (rep_ext onP_gen) 256 8 (by decide))).2 h) (by decide +kernel)
set_option maxRecDepth 100000 in
theorem base_order : nsm baseP 7237005577332262213973186563042994240857116359379907606001950938285454250989 = zeroP := (rep_zero (rep_mulK (rep_ext onP_base) 256 7237005577332262213973186563042994240857116359379907606001950938285454250989 (by decide))).1 (by decide +kernel)
/-! ### How many points -/
theorem nsm_gcd {q : Pt} (hq : onP q) : ∀ (m n : Nat), nsm q m = zeroP → nsm q n = zeroP → nsm q (Nat.gcd m n) = zeroP := by
  intro m n
  induction m, n using Nat.gcd.induction with
  | H0 n => intro _ h; rwa [Nat.gcd_zero_left]
  | H1 m n hm ih =>
    intro h1 h2
    rw [Nat.gcd_rec]
    refine ih ?_ h1
    have e := Nat.div_add_mod n m
    rw [← e, nsm_add hq, nsm_mul hq, h1, nsm_zero, addP_zero (onP_nsm hq _)] at h2
    exact h2
theorem nsm_dvd {q : Pt} (hq : onP q) {m n : Nat} (h : m ∣ n) (hm : nsm q m = zeroP) : nsm q n = zeroP := by
  obtain ⟨k, rfl⟩ := h
  rw [nsm_mul hq, hm, nsm_zero]
theorem gen_min {m : Nat} (h0 : 0 < m) (h1 : m < 57896044618658097711785492504343953926856930875039260848015607506283634007912) : nsm genP m ≠ zeroP := fun hm => by
  have hg := nsm_gcd onP_gen m 57896044618658097711785492504343953926856930875039260848015607506283634007912 hm gen_all
  obtain ⟨g, hgd⟩ : ∃ g, Nat.gcd m 57896044618658097711785492504343953926856930875039260848015607506283634007912 = g := ⟨_, rfl⟩
  have d1 := Nat.gcd_dvd_left m 57896044618658097711785492504343953926856930875039260848015607506283634007912
  have d2 := Nat.gcd_dvd_right m 57896044618658097711785492504343953926856930875039260848015607506283634007912
  rw [hgd] at hg d1 d2
  have gpos : 0 < g := Nat.pos_of_dvd_of_pos d1 h0
  have gle := Nat.le_of_dvd h0 d1
  by_cases hL : 7237005577332262213973186563042994240857116359379907606001950938285454250989 ∣ g
  · obtain ⟨k, rfl⟩ := hL
    have hk : k ∣ 8 := by
      have : 7237005577332262213973186563042994240857116359379907606001950938285454250989 * k ∣ 7237005577332262213973186563042994240857116359379907606001950938285454250989 * 8 := d2
      exact Nat.dvd_of_mul_dvd_mul_left (by decide) this
    have hk8 : k < 8 := by omega
    have hk4 : k ∣ 4 := by
      have : k = 1 ∨ k = 2 ∨ k = 4 := by
        clear hgd hg d1 d2 gpos gle
        rcases (by omega : k = 0 ∨ k = 1 ∨ k = 2 ∨ k = 3 ∨ k = 4 ∨ k = 5 ∨ k = 6 ∨ k = 7) with rfl | rfl | rfl | rfl | rfl | rfl | rfl | rfl
        · exact absurd hk (by decide)
        · exact .inl rfl
        · exact .inr (.inl rfl)
        · exact absurd hk (by decide)
        · exact .inr (.inr rfl)
        · exact absurd hk (by decide)
        · exact absurd hk (by decide)
        · exact absurd hk (by decide)
      rcases this with rfl | rfl | rfl
      · exact ⟨4, rfl⟩
      · exact ⟨2, rfl⟩
      · exact ⟨1, rfl⟩
    exact gen_half (nsm_dvd onP_gen (show 7237005577332262213973186563042994240857116359379907606001950938285454250989 * k ∣ 28948022309329048855892746252171976963428465437519630424007803753141817003956 from Nat.mul_dvd_mul_left 7237005577332262213973186563042994240857116359379907606001950938285454250989 hk4) hg)
  · have hc := pr_L.cop hL
    have : g ∣ 8 := by
      refine Nat.Coprime.dvd_of_dvd_mul_left (Nat.Coprime.symm hc) (?_ : g ∣ 7237005577332262213973186563042994240857116359379907606001950938285454250989 * 8)
      exact d2
    exact gen_eight (nsm_dvd onP_gen this hg)
theorem addP_cancel {a b c : Pt} (ha : onP a) (hb : onP b) (hc : onP c) (h : addP a c = addP b c) : a = b := by
  have h2 := congrArg (fun x => addP x (negP c)) h
  (try dsimp only at h2)
  rwa [addP_assoc ha hc (onP_neg hc), addP_assoc hb hc (onP_neg hc), addP_neg hc, addP_zero' ha, addP_zero' hb] at h2
theorem gen_inj {i j : Nat} (hi : i < 57896044618658097711785492504343953926856930875039260848015607506283634007912) (hj : j < 57896044618658097711785492504343953926856930875039260848015607506283634007912) (h : nsm genP i = nsm genP j) : i = j := by
  have key : ∀ i j, i < j → j < 57896044618658097711785492504343953926856930875039260848015607506283634007912 → nsm genP i = nsm genP j → False := fun i j hij hj h => by
    refine gen_min (m := j - i) (by omega) (by omega) ?_
    rw [show j = (j - i) + i by omega, nsm_add onP_gen] at h
    have h2 : addP zeroP (nsm genP i) = addP (nsm genP (j - i)) (nsm genP i) := by rw [addP_zero (onP_nsm onP_gen _)]; exact h
    exact (addP_cancel onP_zero (onP_nsm onP_gen _) (onP_nsm onP_gen _) h2).symm
  rcases Nat.lt_trichotomy i j with h1 | h1 | h1
  · exact (key i j h1 hj h).elim
  · exact h1
  · exact (key j i h1 hi h.symm).elim
/-- No more pigeons than holes. -/
theorem holes : ∀ (m n : Nat) (f : Nat → Nat), (∀ i, i < n → f i < m) → (∀ i j, i < n → j < n → f i = f j → i = j) → n ≤ m
  | 0, n, f, h1, _ => by
    rcases Nat.eq_zero_or_pos n with h | h
    · omega
    · exact absurd (h1 0 h) (by omega)
  | m + 1, 0, _, _, _ => Nat.zero_le _
  | m + 1, n + 1, f, h1, h2 => by
    have hg := holes m n (fun i => if f i = m then f n else f i) (fun i hi => by
      (try dsimp only)
      split
      · rename_i h
        have hn : f n ≠ m := fun e => by have := h2 i n (by omega) (by omega) (h.trans e.symm); omega
        have := h1 n (by omega)
        omega
      · have := h1 i (by omega)
        omega) (fun i j hi hj he => by
      (try dsimp only at he)
      split at he
      · rename_i h3
        split at he
        · rename_i h4; exact h2 i j (by omega) (by omega) (h3.trans h4.symm)
        · have := h2 n j (by omega) (by omega) he; omega
      · split at he
        · have := h2 i n (by omega) (by omega) he; omega
        · exact h2 i j (by omega) (by omega) he)
    omega
/-- A point is told by its Y and whether its X is odd. -/
def codeP (p : Pt) : Nat := 2 * p.2 + p.1 % 2
theorem code_lt {p : Pt} (h : onP p) : codeP p < 115792089237316195423570985008687907853269984665640564039457584007913129639898 := by
  have h1 : p.2 < 57896044618658097711785492504343953926634992332820282019728792003956564819949 := h.2.1
  unfold codeP; omega
theorem code_inj {p q : Pt} (hp : onP p) (hq : onP q) (h : codeP p = codeP q) : p = q := by
  obtain ⟨x, y⟩ := p
  obtain ⟨x', y'⟩ := q
  unfold codeP at h
  (try dsimp only at h)
  have hy : y = y' := by omega
  have hx : x % 2 = x' % 2 := by omega
  subst hy
  have h1 := unS_of hp
  have h2 := unS_of hq
  rw [h1] at h2
  have hP : PP % 2 = 1 := by decide
  have l1 : x < PP := hp.1
  have l2 : x' < PP := hq.1
  refine Prod.ext ?_ rfl
  (try dsimp only)
  rcases sq_pm l1 l2 h2 with h3 | h3
  · exact h3
  · by_cases h0 : x' = 0
    · subst h0; rw [Nat.sub_zero, Nat.mod_self] at h3; exact h3
    · rw [Nat.mod_eq_of_lt (by omega)] at h3
      omega
/-- Any point, so many times, is zero. -/
theorem all_order {p : Pt} (hp : onP p) : nsm p 57896044618658097711785492504343953926856930875039260848015607506283634007912 = zeroP := by
  by_cases hh : ∃ i, i < 57896044618658097711785492504343953926856930875039260848015607506283634007912 ∧ nsm genP i = p
  · obtain ⟨i, _, rfl⟩ := hh
    rw [← nsm_mul onP_gen, Nat.mul_comm, nsm_mul onP_gen, gen_all, nsm_zero]
  · exfalso
    have hnot : ∀ i, i < 57896044618658097711785492504343953926856930875039260848015607506283634007912 → nsm genP i ≠ p := fun i hi e => hh ⟨i, hi, e⟩
    have oF : ∀ i, onP (if i < 57896044618658097711785492504343953926856930875039260848015607506283634007912 then nsm genP i else addP p (nsm genP (i - 57896044618658097711785492504343953926856930875039260848015607506283634007912))) := fun i => by
      split
      · exact onP_nsm onP_gen _
      · exact onP_add hp (onP_nsm onP_gen _)
    have cross : ∀ i j, i < 57896044618658097711785492504343953926856930875039260848015607506283634007912 → j < 57896044618658097711785492504343953926856930875039260848015607506283634007912 → nsm genP i ≠ addP p (nsm genP j) := fun i j hi hj e => by
      -- p is the difference
      have h2 := congrArg (fun x => addP x (nsm genP (57896044618658097711785492504343953926856930875039260848015607506283634007912 - j))) e
      (try dsimp only at h2)
      rw [addP_assoc hp (onP_nsm onP_gen _) (onP_nsm onP_gen _), ← nsm_add onP_gen, ← nsm_add onP_gen, show j + (57896044618658097711785492504343953926856930875039260848015607506283634007912 - j) = 57896044618658097711785492504343953926856930875039260848015607506283634007912 by omega, gen_all, addP_zero' hp] at h2
      have hm := Nat.mod_lt (i + (57896044618658097711785492504343953926856930875039260848015607506283634007912 - j)) (show 0 < 57896044618658097711785492504343953926856930875039260848015607506283634007912 by decide)
      refine hnot ((i + (57896044618658097711785492504343953926856930875039260848015607506283634007912 - j)) % 57896044618658097711785492504343953926856930875039260848015607506283634007912) hm ?_
      rw [← h2]
      have e3 := Nat.div_add_mod (i + (57896044618658097711785492504343953926856930875039260848015607506283634007912 - j)) 57896044618658097711785492504343953926856930875039260848015607506283634007912
      conv => rhs; rw [← e3]
      rw [nsm_add onP_gen, nsm_mul onP_gen, gen_all, nsm_zero, addP_zero (onP_nsm onP_gen _)]
    have := holes 115792089237316195423570985008687907853269984665640564039457584007913129639898 115792089237316195423570985008687907853713861750078521696031215012567268015824 (fun i => codeP (if i < 57896044618658097711785492504343953926856930875039260848015607506283634007912 then nsm genP i else addP p (nsm genP (i - 57896044618658097711785492504343953926856930875039260848015607506283634007912)))) (fun i _ => code_lt (oF i)) (fun i j hi hj he => by
      have he := code_inj (oF i) (oF j) he
      split at he
      · split at he
        · exact gen_inj (by assumption) (by assumption) he
        · exact (cross _ _ (by assumption) (by omega) he).elim
      · split at he
        · exact (cross _ _ (by assumption) (by omega) he.symm).elim
        · rw [addP_comm p, addP_comm p] at he
          have := gen_inj (by omega) (by omega) (addP_cancel (onP_nsm onP_gen _) (onP_nsm onP_gen _) hp he)
          omega)
    exact absurd this (by decide)
end Go.Proofs.Ytjhfmlnfbmckfaa
