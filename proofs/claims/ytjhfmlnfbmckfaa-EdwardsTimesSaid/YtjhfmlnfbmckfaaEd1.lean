/- The curve's points are a group. No program in sight. -/
import Derived.Test.YtjhfmlnfbmckfaaEd0
namespace Go.Proofs.Ytjhfmlnfbmckfaa
open Go Go.RowKit
set_option linter.unusedVariables false
/-- Alike, but for multiples of the prime. -/
def Eq_ (x y : Int) : Prop := MM ∣ x - y
theorem Eq_.refl (x : Int) : Eq_ x x := ⟨0, by simp⟩
theorem Eq_.of {x y : Int} (h : x = y) : Eq_ x y := h ▸ Eq_.refl x
theorem Eq_.symm {x y : Int} (h : Eq_ x y) : Eq_ y x := by
  have := Int.dvd_neg.2 h
  unfold Eq_
  rwa [show -(x - y) = y - x by omega] at this
theorem Eq_.trans {x y z : Int} (h : Eq_ x y) (h2 : Eq_ y z) : Eq_ x z := by
  have := Int.dvd_add h h2
  unfold Eq_
  rwa [show x - y + (y - z) = x - z by omega] at this
theorem Eq_.mul {x y a b : Int} (h : Eq_ x a) (h2 : Eq_ y b) : Eq_ (x * y) (a * b) := mul_dvd h h2
theorem Eq_.add {x y a b : Int} (h : Eq_ x a) (h2 : Eq_ y b) : Eq_ (x + y) (a + b) := by
  have := Int.dvd_add h h2
  unfold Eq_
  rwa [show x - a + (y - b) = x + y - (a + b) by omega] at this
theorem Eq_.sub {x y a b : Int} (h : Eq_ x a) (h2 : Eq_ y b) : Eq_ (x - y) (a - b) := by
  have := Int.dvd_sub h h2
  unfold Eq_
  rwa [show x - a - (y - b) = x - y - (a - b) by omega] at this
theorem Eq_.l {x a : Int} (y : Int) (h : Eq_ x a) : Eq_ (x * y) (a * y) := h.mul (Eq_.refl y)
theorem Eq_.r {y a : Int} (x : Int) (h : Eq_ y a) : Eq_ (x * y) (x * a) := (Eq_.refl x).mul h
theorem Eq_.nz {x y : Int} (h : Eq_ x y) (hx : ¬ MM ∣ x) : ¬ MM ∣ y := fun h2 => hx (by
  have := Int.dvd_add h h2
  rwa [show x - y + y = x by omega] at this)
theorem Eq_.cancel {x a b : Int} (hx : ¬ MM ∣ x) (h : Eq_ (x * a) (x * b)) : Eq_ a b := by
  refine zz hx ?_
  rw [Int.mul_sub]; exact h
theorem Eq_.nat {a b : Nat} (ha : a < PP) (hb : b < PP) (h : Eq_ a b) : a = b := Cg.uniq ha hb (x := b) h (Cg.self b)
theorem Eq_.toE {a b : Nat} {x : Int} (h : Cg a x) (h2 : Cg b x) : Eq_ a b := by
  have := Int.dvd_sub h h2
  unfold Eq_
  rwa [show (a : Int) - x - (b - x) = a - b by omega] at this
abbrev Pt := Nat × Nat
def onP (p : Pt) : Prop := p.1 < PP ∧ p.2 < PP ∧ fS (fM p.2 p.2) (fM p.1 p.1) = fA 1 (fM DD (fM (fM p.1 p.1) (fM p.2 p.2)))
instance (p : Pt) : Decidable (onP p) := inferInstanceAs (Decidable (_ ∧ _))
def dT (p q : Pt) : Nat := fM DD (fM (fM p.1 q.1) (fM p.2 q.2))
def addP (p q : Pt) : Pt := (fM (fA (fM p.1 q.2) (fM q.1 p.2)) (fI (fA 1 (dT p q))), fM (fA (fM p.2 q.2) (fM p.1 q.1)) (fI (fS 1 (dT p q))))
def negP (p : Pt) : Pt := (fS 0 p.1, p.2)
def zeroP : Pt := (0, 1)
theorem onP_E {p : Pt} (h : onP p) : MM ∣ EE DD p.1 p.2 := by
  obtain ⟨_, _, h⟩ := h
  have h1 := ((Cg.self p.2).M (Cg.self p.2)).S ((Cg.self p.1).M (Cg.self p.1))
  have h2 := (Cg.self 1).A ((Cg.self DD).M (((Cg.self p.1).M (Cg.self p.1)).M ((Cg.self p.2).M (Cg.self p.2))))
  rw [h] at h1
  have := h1.eqv h2
  unfold EE
  rwa [show ((p.2 : Int) * p.2 - p.1 * p.1 - ((1 : Nat) + DD * ((p.1 : Int) * p.1 * (p.2 * p.2)))) = (p.2 : Int) * p.2 - p.1 * p.1 - 1 - DD * ((p.1 : Int) * p.1 * (p.2 * p.2)) by omega] at this
theorem onP_of {p : Pt} (h1 : p.1 < PP) (h2 : p.2 < PP) (h : MM ∣ EE DD p.1 p.2) : onP p := by
  refine ⟨h1, h2, ?_⟩
  have h3 := ((Cg.self p.2).M (Cg.self p.2)).S ((Cg.self p.1).M (Cg.self p.1))
  have h4 := (Cg.self 1).A ((Cg.self DD).M (((Cg.self p.1).M (Cg.self p.1)).M ((Cg.self p.2).M (Cg.self p.2))))
  refine (h3.to ?_).uniq (fS_lt _ _) (fA_lt _ _) h4
  unfold EE at h
  rwa [show ((p.2 : Int) * p.2 - p.1 * p.1 - ((1 : Nat) + DD * ((p.1 : Int) * p.1 * (p.2 * p.2)))) = (p.2 : Int) * p.2 - p.1 * p.1 - 1 - DD * ((p.1 : Int) * p.1 * (p.2 * p.2)) by omega]
theorem onP_zero : onP zeroP := onP_of (by decide) (by decide) (by decide)
def Tt (p q : Pt) : Int := tt4 DD p.1 p.2 q.1 q.2
theorem dT_cg (p q : Pt) : Cg (dT p q) (Tt p q) := by
  have h := (Cg.self DD).M (((Cg.self p.1).M (Cg.self q.1)).M ((Cg.self p.2).M (Cg.self q.2)))
  refine h.to (Eq_.of ?_)
  unfold Tt tt4; grind
/-- What the sum is, without a division. -/
structure SumOf (p q : Pt) (x y : Nat) : Prop where
  x_lt : x < PP
  y_lt : y < PP
  x_eq : Eq_ (x * (1 + Tt p q)) (uu p.1 p.2 q.1 q.2)
  y_eq : Eq_ (y * (1 - Tt p q)) (vv p.1 p.2 q.1 q.2)
theorem nz_add {p q : Pt} (hp : onP p) (hq : onP q) : ¬ MM ∣ 1 + Tt p q := comp_add (onP_E hp) (onP_E hq)
theorem nz_sub {p q : Pt} (hp : onP p) (hq : onP q) : ¬ MM ∣ 1 - Tt p q := comp_sub (onP_E hp) (onP_E hq)
theorem addP_sum {p q : Pt} (hp : onP p) (hq : onP q) : SumOf p q (addP p q).1 (addP p q).2 := by
  have hT := dT_cg p q
  have a1 : Cg (fA 1 (dT p q)) (1 + Tt p q) := (Cg.self 1).A hT
  have a2 : Cg (fS 1 (dT p q)) (1 - Tt p q) := (Cg.self 1).S hT
  have b1 : Cg (fA (fM p.1 q.2) (fM q.1 p.2)) (uu p.1 p.2 q.1 q.2) := ((Cg.self p.1).M (Cg.self q.2)).A ((Cg.self q.1).M (Cg.self p.2))
  have b2 : Cg (fA (fM p.2 q.2) (fM p.1 q.1)) (vv p.1 p.2 q.1 q.2) := ((Cg.self p.2).M (Cg.self q.2)).A ((Cg.self p.1).M (Cg.self q.1))
  exact ⟨fM_lt _ _, fM_lt _ _, b1.back a1 (nz_add hp hq), b2.back a2 (nz_sub hp hq)⟩
theorem SumOf.uniq {p q : Pt} (hp : onP p) (hq : onP q) {x y x' y' : Nat} (h : SumOf p q x y) (h' : SumOf p q x' y') : x = x' ∧ y = y' := by
  refine ⟨Eq_.nat h.x_lt h'.x_lt (Eq_.cancel (nz_add hp hq) ?_), Eq_.nat h.y_lt h'.y_lt (Eq_.cancel (nz_sub hp hq) ?_)⟩
  · rw [Int.mul_comm _ (x : Int), Int.mul_comm _ (x' : Int)]; exact h.x_eq.trans h'.x_eq.symm
  · rw [Int.mul_comm _ (y : Int), Int.mul_comm _ (y' : Int)]; exact h.y_eq.trans h'.y_eq.symm
theorem addP_eq {p q : Pt} (hp : onP p) (hq : onP q) {x y : Nat} (h : SumOf p q x y) : addP p q = (x, y) := by
  obtain ⟨h1, h2⟩ := (addP_sum hp hq).uniq hp hq h
  exact Prod.ext h1 h2
theorem onP_add {p q : Pt} (hp : onP p) (hq : onP q) : onP (addP p q) := by
  have h := addP_sum hp hq
  obtain ⟨X, hX⟩ : ∃ X, (addP p q).1 = X := ⟨_, rfl⟩
  obtain ⟨Y, hY⟩ : ∃ Y, (addP p q).2 = Y := ⟨_, rfl⟩
  rw [hX, hY] at h
  refine onP_of (by rw [hX]; exact h.x_lt) (by rw [hY]; exact h.y_lt) ?_
  rw [hX, hY]
  have hid := on_sum p.1 p.2 q.1 q.2 DD
  have h1 := onP_E hp
  have h2 := onP_E hq
  have hz : MM ∣ (vv p.1 p.2 q.1 q.2)*(vv p.1 p.2 q.1 q.2)*((1+Tt p q)*(1+Tt p q)) - (uu p.1 p.2 q.1 q.2)*(uu p.1 p.2 q.1 q.2)*((1-Tt p q)*(1-Tt p q)) - (1-Tt p q*Tt p q)*(1-Tt p q*Tt p q) - DD*((uu p.1 p.2 q.1 q.2)*(uu p.1 p.2 q.1 q.2)*((vv p.1 p.2 q.1 q.2)*(vv p.1 p.2 q.1 q.2))) := by
    unfold Tt
    rw [hid]
    exact Int.dvd_add (dr _ h1) (dr _ h2)
  have hx := h.x_eq
  have hy := h.y_eq
  have na := nz_add hp hq
  have nb := nz_sub hp hq
  clear hid
  generalize uu p.1 p.2 q.1 q.2 = u at *
  generalize vv p.1 p.2 q.1 q.2 = v at *
  generalize Tt p q = t at *
  have s1 := hx.mul hx
  have s2 := hy.mul hy
  have s3 : Eq_ (Y * (1 - t) * (Y * (1 - t)) * ((1+t)*(1+t)) - X * (1 + t) * (X * (1 + t)) * ((1-t)*(1-t)) - (1-t*t)*(1-t*t) - DD * (X * (1 + t) * (X * (1 + t)) * (Y * (1 - t) * (Y * (1 - t))))) _ := (((s2.l ((1+t)*(1+t))).sub (s1.l ((1-t)*(1-t)))).sub (Eq_.refl ((1-t*t)*(1-t*t)))).sub ((s1.mul s2).r DD)
  have s4 : MM ∣ ((1 + t) * (1 - t)) * (((1 + t) * (1 - t)) * EE DD X Y) := by
    have := Int.dvd_add s3 hz
    rw [Int.sub_add_cancel] at this
    rwa [show Y * (1 - t) * (Y * (1 - t)) * ((1+t)*(1+t)) - X * (1 + t) * (X * (1 + t)) * ((1-t)*(1-t)) - (1-t*t)*(1-t*t) - DD * (X * (1 + t) * (X * (1 + t)) * (Y * (1 - t) * (Y * (1 - t)))) = ((1 + t) * (1 - t)) * (((1 + t) * (1 - t)) * EE DD X Y) by unfold EE; grind] at this
  exact zz (nz_mul na nb) (zz (nz_mul na nb) s4)
theorem addP_comm (p q : Pt) : addP p q = addP q p := by
  have h1 : dT p q = dT q p := by unfold dT fM; rw [Nat.mul_comm p.1, Nat.mul_comm p.2]
  have h2 : ∀ a b, fA a b = fA b a := fun a b => by unfold fA; rw [Nat.add_comm]
  have h3 : ∀ a b, fM a b = fM b a := fun a b => by unfold fM; rw [Nat.mul_comm]
  unfold addP
  rw [h1, h2 (fM p.1 q.2), h3 p.2 q.2, h3 p.1 q.1]
theorem Tt_zero (p : Pt) : Tt zeroP p = 0 := by unfold Tt tt4 zeroP; simp
theorem addP_zero {p : Pt} (hp : onP p) : addP zeroP p = p := by
  refine addP_eq onP_zero hp ⟨hp.1, hp.2.1, Eq_.of ?_, Eq_.of ?_⟩
  · rw [Tt_zero]; unfold uu zeroP; simp
  · rw [Tt_zero]; unfold vv zeroP; simp
theorem negP_cg (p : Pt) : Cg (negP p).1 (-(p.1 : Int)) := by
  have := (Cg.self 0).S (Cg.self p.1)
  have h2 : Cg (fS 0 p.1) (-(p.1 : Int)) := by simpa using this
  exact h2
theorem EE_eq {x y x' y' : Int} (hx : Eq_ x x') (hy : Eq_ y y') : Eq_ (EE DD x y) (EE DD x' y') := by
  unfold EE
  exact (((hy.mul hy).sub (hx.mul hx)).sub (Eq_.refl 1)).sub (((hx.mul hx).mul (hy.mul hy)).r DD)
theorem Eq_.dvd {x y : Int} (h : Eq_ x y) (hy : MM ∣ y) : MM ∣ x := by
  have := Int.dvd_add h hy
  rwa [Int.sub_add_cancel] at this
theorem onP_neg {p : Pt} (hp : onP p) : onP (negP p) := by
  refine onP_of (fS_lt _ _) hp.2.1 ?_
  have h1 : Eq_ (EE DD (negP p).1 (negP p).2) (EE DD (-(p.1 : Int)) p.2) := EE_eq (negP_cg p) (Eq_.refl _)
  refine h1.dvd ?_
  have := onP_E hp
  rwa [show EE DD (-(p.1 : Int)) p.2 = EE DD p.1 p.2 by unfold EE; grind]
theorem tt_eq {a b c d a' b' c' d' : Int} (h1 : Eq_ a a') (h2 : Eq_ b b') (h3 : Eq_ c c') (h4 : Eq_ d d') : Eq_ (tt4 DD a b c d) (tt4 DD a' b' c' d') := by
  unfold tt4
  exact (((h1.r DD).mul h3).mul h2).mul h4
theorem addP_neg {p : Pt} (hp : onP p) : addP p (negP p) = zeroP := by
  have hn := negP_cg p
  have hn : Eq_ (negP p).1 (-(p.1 : Int)) := hn
  have hE := onP_E hp
  refine addP_eq hp (onP_neg hp) ⟨by decide, by decide, ?_, ?_⟩
  · have : Eq_ (uu p.1 p.2 (negP p).1 (negP p).2) (uu p.1 p.2 (-(p.1 : Int)) p.2) := by
      unfold uu
      exact (Eq_.refl _).add (hn.l _)
    refine Eq_.trans (Eq_.of ?_) this.symm
    unfold uu; grind
  · have h1 : Eq_ (vv p.1 p.2 (negP p).1 (negP p).2) (vv p.1 p.2 (-(p.1 : Int)) p.2) := by
      unfold vv
      exact (Eq_.refl _).add (hn.r _)
    have h2 : Eq_ (Tt p (negP p)) (tt4 DD p.1 p.2 (-(p.1 : Int)) p.2) := tt_eq (Eq_.refl _) (Eq_.refl _) hn (Eq_.refl _)
    refine Eq_.trans ((((Eq_.refl 1).sub h2).r ((1 : Nat) : Int))) (Eq_.trans ?_ h1.symm)
    have h3 : Eq_ 0 (EE DD p.1 p.2) := by
      have := Int.dvd_neg.2 hE
      unfold Eq_
      rwa [Int.zero_sub]
    have h4 := (Eq_.refl (vv p.1 p.2 (-(p.1 : Int)) p.2)).sub h3
    refine Eq_.trans (Eq_.of ?_) (Eq_.trans h4.symm (Eq_.of ?_))
    · unfold vv tt4 EE; grind
    · omega
theorem asx {x1 y1 x2 y2 x3 y3 : Int} (e1 : MM ∣ EE DD x1 y1) (e2 : MM ∣ EE DD x2 y2) (e3 : MM ∣ EE DD x3 y3) :
    Eq_ (((uu x1 y1 x2 y2)*(1-tt4 DD x1 y1 x2 y2)*y3+(vv x1 y1 x2 y2)*(1+tt4 DD x1 y1 x2 y2)*x3)*((1-tt4 DD x2 y2 x3 y3*tt4 DD x2 y2 x3 y3)+DD*x1*y1*(uu x2 y2 x3 y3)*(vv x2 y2 x3 y3))) ((x1*(vv x2 y2 x3 y3)*(1+tt4 DD x2 y2 x3 y3)+y1*(uu x2 y2 x3 y3)*(1-tt4 DD x2 y2 x3 y3))*((1-tt4 DD x1 y1 x2 y2*tt4 DD x1 y1 x2 y2)+DD*(uu x1 y1 x2 y2)*(vv x1 y1 x2 y2)*x3*y3)) := by
  unfold Eq_
  rw [assoc_x]
  exact Int.dvd_add (Int.dvd_add (dr _ e1) (dr _ e2)) (dr _ e3)
theorem asy {x1 y1 x2 y2 x3 y3 : Int} (e1 : MM ∣ EE DD x1 y1) (e2 : MM ∣ EE DD x2 y2) (e3 : MM ∣ EE DD x3 y3) :
    Eq_ (((vv x1 y1 x2 y2)*(1+tt4 DD x1 y1 x2 y2)*y3+(uu x1 y1 x2 y2)*(1-tt4 DD x1 y1 x2 y2)*x3)*((1-tt4 DD x2 y2 x3 y3*tt4 DD x2 y2 x3 y3)-DD*x1*y1*(uu x2 y2 x3 y3)*(vv x2 y2 x3 y3))) ((y1*(vv x2 y2 x3 y3)*(1+tt4 DD x2 y2 x3 y3)+x1*(uu x2 y2 x3 y3)*(1-tt4 DD x2 y2 x3 y3))*((1-tt4 DD x1 y1 x2 y2*tt4 DD x1 y1 x2 y2)-DD*(uu x1 y1 x2 y2)*(vv x1 y1 x2 y2)*x3*y3)) := by
  unfold Eq_
  rw [assoc_y]
  exact Int.dvd_add (Int.dvd_add (dr _ e1) (dr _ e2)) (dr _ e3)
theorem fin4 {P1 P2 a b D1 D2 N1 N2 n1 n2 A C : Int} (h1 : Eq_ (P1 * a) D1) (h2 : Eq_ (P1 * n1) N1) (h3 : Eq_ (P2 * b) D2) (h4 : Eq_ (P2 * n2) N2) (hA : Eq_ (A * a) n1) (hC : Eq_ (C * b) n2) (id : Eq_ (N1 * D2) (N2 * D1))
    (z1 : ¬ MM ∣ P1) (z2 : ¬ MM ∣ P2) (za : ¬ MM ∣ a) (zb : ¬ MM ∣ b) : Eq_ A C := by
  have d1 : ¬ MM ∣ D1 := h1.nz (nz_mul z1 za)
  have d2 : ¬ MM ∣ D2 := h3.nz (nz_mul z2 zb)
  have e1 : Eq_ (A * D1) N1 := ((h1.symm.r A).trans (Eq_.of (by grind))).trans ((hA.r P1).trans h2)
  have e2 : Eq_ (C * D2) N2 := ((h3.symm.r C).trans (Eq_.of (by grind))).trans ((hC.r P2).trans h4)
  refine Eq_.cancel (nz_mul d1 d2) ?_
  refine (Eq_.of (show D1 * D2 * A = A * D1 * D2 by grind)).trans ((e1.l D2).trans (id.trans ((e2.symm.l D1).trans (Eq_.of (by grind)))))
theorem addP_assoc {p q r : Pt} (hp : onP p) (hq : onP q) (hr : onP r) : addP (addP p q) r = addP p (addP q r) := by
  obtain ⟨S, hS⟩ : ∃ S, addP p q = S := ⟨_, rfl⟩
  obtain ⟨R, hR⟩ : ∃ S, addP q r = S := ⟨_, rfl⟩
  have h1 := addP_sum hp hq
  have o1 := onP_add hp hq
  have h2 := addP_sum hq hr
  have o2 := onP_add hq hr
  rw [hS] at h1 o1 ⊢
  rw [hR] at h2 o2 ⊢
  have h3 := addP_sum o1 hr
  have h4 := addP_sum hp o2
  obtain ⟨A, hA⟩ : ∃ A, addP S r = A := ⟨_, rfl⟩
  obtain ⟨C, hC⟩ : ∃ C, addP p R = C := ⟨_, rfl⟩
  rw [hA] at h3 ⊢
  rw [hC] at h4 ⊢
  have n1 := nz_add hp hq
  have n2 := nz_sub hp hq
  have n3 := nz_add hq hr
  have n4 := nz_sub hq hr
  have hx1 := h1.x_eq
  have hy1 := h1.y_eq
  have hx2 := h2.x_eq
  have hy2 := h2.y_eq
  refine Prod.ext (Eq_.nat h3.x_lt h4.x_lt ?_) (Eq_.nat h3.y_lt h4.y_lt ?_)
  · have ix := asx (onP_E hp) (onP_E hq) (onP_E hr)
    refine fin4 (P1 := (1 - Tt p q) * (1 + Tt p q)) (P2 := (1 - Tt q r) * (1 + Tt q r)) ?_ ?_ ?_ ?_ h3.x_eq h4.x_eq ix (nz_mul n2 n1) (nz_mul n4 n3) (nz_add o1 hr) (nz_add hp o2)
    · refine Eq_.trans (Eq_.of ?_) ((Eq_.refl (1 - Tt p q * Tt p q)).add ((((hx1.mul hy1).r DD).l (r.1 : Int)).l (r.2 : Int))) |>.trans (Eq_.of ?_)
      · rw [show Tt S r = DD * S.1 * r.1 * S.2 * r.2 from rfl]; grind
      · unfold Tt; grind
    · refine Eq_.trans (Eq_.of ?_) (((hx1.l (1 - Tt p q)).l (r.2 : Int)).add ((hy1.l (1 + Tt p q)).l (r.1 : Int)))
      unfold uu; grind
    · refine Eq_.trans (Eq_.of ?_) ((Eq_.refl (1 - Tt q r * Tt q r)).add (((hx2.mul hy2).r (DD * p.1 * p.2 : Int)))) |>.trans (Eq_.of ?_)
      · rw [show Tt p R = DD * p.1 * R.1 * p.2 * R.2 from rfl]; grind
      · unfold Tt; grind
    · refine Eq_.trans (Eq_.of ?_) (((hy2.r (p.1 : Int)).l (1 + Tt q r)).add ((hx2.r (p.2 : Int)).l (1 - Tt q r)))
      unfold uu; grind
  · have iy := asy (onP_E hp) (onP_E hq) (onP_E hr)
    refine fin4 (P1 := (1 - Tt p q) * (1 + Tt p q)) (P2 := (1 - Tt q r) * (1 + Tt q r)) ?_ ?_ ?_ ?_ h3.y_eq h4.y_eq iy (nz_mul n2 n1) (nz_mul n4 n3) (nz_sub o1 hr) (nz_sub hp o2)
    · refine Eq_.trans (Eq_.of ?_) ((Eq_.refl (1 - Tt p q * Tt p q)).sub ((((hx1.mul hy1).r DD).l (r.1 : Int)).l (r.2 : Int))) |>.trans (Eq_.of ?_)
      · rw [show Tt S r = DD * S.1 * r.1 * S.2 * r.2 from rfl]; grind
      · unfold Tt; grind
    · refine Eq_.trans (Eq_.of ?_) (((hy1.l (1 + Tt p q)).l (r.2 : Int)).add ((hx1.l (1 - Tt p q)).l (r.1 : Int)))
      unfold vv; grind
    · refine Eq_.trans (Eq_.of ?_) ((Eq_.refl (1 - Tt q r * Tt q r)).sub (((hx2.mul hy2).r (DD * p.1 * p.2 : Int)))) |>.trans (Eq_.of ?_)
      · rw [show Tt p R = DD * p.1 * R.1 * p.2 * R.2 from rfl]; grind
      · unfold Tt; grind
    · refine Eq_.trans (Eq_.of ?_) (((hy2.r (p.2 : Int)).l (1 + Tt q r)).add ((hx2.r (p.1 : Int)).l (1 - Tt q r)))
      unfold vv; grind
/-! ### Multiples -/
def nsm (p : Pt) : Nat → Pt
  | 0 => zeroP
  | n + 1 => addP (nsm p n) p
theorem onP_nsm {p : Pt} (hp : onP p) : ∀ n, onP (nsm p n)
  | 0 => onP_zero
  | n + 1 => onP_add (onP_nsm hp n) hp
theorem addP_zero' {p : Pt} (hp : onP p) : addP p zeroP = p := by rw [addP_comm]; exact addP_zero hp
theorem nsm_add {p : Pt} (hp : onP p) (m : Nat) : ∀ n, nsm p (m + n) = addP (nsm p m) (nsm p n)
  | 0 => (addP_zero' (onP_nsm hp m)).symm
  | n + 1 => by
    rw [← Nat.add_assoc, nsm, nsm_add hp m n, nsm, addP_assoc (onP_nsm hp m) (onP_nsm hp n) hp]
theorem nsm_one {p : Pt} (hp : onP p) : nsm p 1 = p := addP_zero hp
theorem nsm_two {p : Pt} (hp : onP p) (n : Nat) : nsm p (2 * n) = addP (nsm p n) (nsm p n) := by rw [Nat.two_mul, nsm_add hp]
theorem nsm_zero (n : Nat) : nsm zeroP n = zeroP := by
  induction n with
  | zero => rfl
  | succ n ih => rw [nsm, ih]; exact addP_zero onP_zero
theorem nsm_mul {p : Pt} (hp : onP p) (m : Nat) : ∀ n, nsm p (m * n) = nsm (nsm p m) n
  | 0 => rfl
  | n + 1 => by rw [Nat.mul_succ, nsm_add hp, nsm_mul hp m n, nsm]
/-- Four, two by two. -/
theorem add_four {a b c d : Pt} (ha : onP a) (hb : onP b) (hc : onP c) (hd : onP d) : addP (addP a b) (addP c d) = addP (addP a c) (addP b d) := by
  rw [addP_assoc ha hb (onP_add hc hd), addP_assoc ha hc (onP_add hb hd), ← addP_assoc hb hc hd, ← addP_assoc hc hb hd, addP_comm b c]
theorem nsm_sum {p q : Pt} (hp : onP p) (hq : onP q) : ∀ n, nsm (addP p q) n = addP (nsm p n) (nsm q n)
  | 0 => (addP_zero onP_zero).symm
  | n + 1 => by rw [nsm, nsm_sum hp hq n, nsm, nsm, add_four (onP_nsm hp n) (onP_nsm hq n) hp hq]
end Go.Proofs.Ytjhfmlnfbmckfaa
