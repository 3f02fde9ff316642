/- The curve's points as they are laid for sums: the program's and the document's fractions are the sums. No program in sight. -/
import Derived.Test.YtjhfmlnfbmckfaaEd2
namespace Go.Proofs.Ytjhfmlnfbmckfaa
open Go Go.RowKit
set_option linter.unusedVariables false
structure Rep (e : E4) (p : Pt) : Prop where
  on : onP p
  l1 : e.1 < PP
  l2 : e.2.1 < PP
  l3 : e.2.2.1 < PP
  l4 : e.2.2.2 < PP
  nz : ¬ MM ∣ (e.2.2.1 : Int)
  x : Eq_ e.1 (p.1 * e.2.2.1)
  y : Eq_ e.2.1 (p.2 * e.2.2.1)
  t : Eq_ e.2.2.2 (p.1 * p.2 * e.2.2.1)
theorem Eq_.ofCg {a : Nat} {x : Int} (h : Cg a x) : Eq_ (a : Int) x := h
theorem rep_ext {p : Pt} (hp : onP p) : Rep (extE p) p where
  on := hp
  l1 := hp.1
  l2 := hp.2.1
  l3 := by show 1 < PP; decide
  l4 := fM_lt _ _
  nz := by show ¬ MM ∣ ((1 : Nat) : Int); decide
  x := Eq_.of (by show (p.1 : Int) = p.1 * ((1 : Nat) : Int); omega)
  y := Eq_.of (by show (p.2 : Int) = p.2 * ((1 : Nat) : Int); omega)
  t := by
    refine (Eq_.ofCg ((Cg.self p.1).M (Cg.self p.2))).trans (Eq_.of ?_)
    show (p.1 : Int) * p.2 = p.1 * p.2 * ((1 : Nat) : Int)
    grind
theorem rep_four {p : Pt} {u v T k m : Int} {E F G H : Nat} (hp : onP p) (hE : Cg E (k * u)) (hF : Cg F (m * (1 - T))) (hG : Cg G (k * (1 + T))) (hH : Cg H (m * v)) (hk : ¬ MM ∣ k) (hm : ¬ MM ∣ m) (ha : ¬ MM ∣ 1 + T) (hs : ¬ MM ∣ 1 - T) (hx : Eq_ (p.1 * (1 + T)) u) (hy : Eq_ (p.2 * (1 - T)) v) :
    Rep (fourE E F G H) p := by
  have x3 := Eq_.ofCg (hE.M hF)
  have y3 := Eq_.ofCg (hG.M hH)
  have z3 := Eq_.ofCg (hF.M hG)
  have t3 := Eq_.ofCg (hE.M hH)
  refine ⟨hp, fM_lt _ _, fM_lt _ _, fM_lt _ _, fM_lt _ _, z3.symm.nz (nz_mul (nz_mul hm hs) (nz_mul hk ha)), ?_, ?_, ?_⟩
  · show Eq_ (fM E F : Int) (p.1 * (fM F G : Int))
    refine x3.trans (Eq_.trans ?_ (z3.symm.r (p.1 : Int)))
    refine ((hx.symm.r k).l (m * (1 - T))).trans (Eq_.of ?_)
    grind
  · show Eq_ (fM G H : Int) (p.2 * (fM F G : Int))
    refine y3.trans (Eq_.trans ?_ (z3.symm.r (p.2 : Int)))
    refine ((hy.symm.r m).r (k * (1 + T))).trans (Eq_.of ?_)
    grind
  · show Eq_ (fM E H : Int) (p.1 * p.2 * (fM F G : Int))
    refine t3.trans (Eq_.trans ?_ (z3.symm.r ((p.1 : Int) * p.2)))
    refine ((hx.symm.r k).mul (hy.symm.r m)).trans (Eq_.of ?_)
    grind
theorem rep_plus {e f : E4} {p q : Pt} (he : Rep e p) (hf : Rep f q) : Rep (plusE e f) (addP p q) := by
  have hs := addP_sum he.on hf.on
  have nz1 := he.nz
  have nz2 := hf.nz
  have ex := he.x
  have ey := he.y
  have et := he.t
  have fx := hf.x
  have fy := hf.y
  have ft := hf.t
  have a := ((Cg.self e.2.1).S (Cg.self e.1)).M ((Cg.self f.2.1).S (Cg.self f.1))
  have b := ((Cg.self e.2.1).A (Cg.self e.1)).M ((Cg.self f.2.1).A (Cg.self f.1))
  have c := ((Cg.self e.2.2.2).M (Cg.self f.2.2.2)).M ((Cg.self DD).A (Cg.self DD))
  have zz := (Cg.self e.2.2.1).M (Cg.self f.2.2.1)
  have d := zz.A zz
  refine rep_four (p := addP p q) (u := uu p.1 p.2 q.1 q.2) (v := vv p.1 p.2 q.1 q.2) (T := Tt p q) (k := 2 * (e.2.2.1 * f.2.2.1)) (m := 2 * (e.2.2.1 * f.2.2.1)) (onP_add he.on hf.on) ((b.S a).to ?_) ((d.S c).to ?_) ((d.A c).to ?_) ((b.A a).to ?_) (nz_mul not_two (nz_mul nz1 nz2)) (nz_mul not_two (nz_mul nz1 nz2)) (nz_add he.on hf.on) (nz_sub he.on hf.on) hs.x_eq hs.y_eq
  · have h1 := ((ey.mul fx).add (ex.mul fy)).r 2
    refine Eq_.trans (Eq_.of ?_) (h1.trans (Eq_.of ?_))
    · grind
    · unfold uu; grind
  · have h1 := (Eq_.refl (2 * ((e.2.2.1 : Int) * f.2.2.1))).sub ((et.mul ft).l ((DD : Int) + DD))
    refine Eq_.trans (Eq_.of ?_) (h1.trans (Eq_.of ?_))
    · grind
    · unfold Tt tt4; grind
  · have h1 := (Eq_.refl (2 * ((e.2.2.1 : Int) * f.2.2.1))).add ((et.mul ft).l ((DD : Int) + DD))
    refine Eq_.trans (Eq_.of ?_) (h1.trans (Eq_.of ?_))
    · grind
    · unfold Tt tt4; grind
  · have h1 := ((ey.mul fy).add (ex.mul fx)).r 2
    refine Eq_.trans (Eq_.of ?_) (h1.trans (Eq_.of ?_))
    · grind
    · unfold vv; grind
theorem onP_sq {p : Pt} (hp : onP p) : Eq_ ((p.2 : Int) * p.2 - p.1 * p.1) (1 + Tt p p) := by
  have := onP_E hp
  unfold Eq_
  rwa [show (p.2 : Int) * p.2 - p.1 * p.1 - (1 + Tt p p) = EE DD p.1 p.2 by unfold EE Tt tt4; grind]
theorem rep_dbl {e : E4} {p : Pt} (he : Rep e p) : Rep (dblE e) (addP p p) := by
  have hs := addP_sum he.on he.on
  have nz1 := he.nz
  have ex := he.x
  have ey := he.y
  have hq := onP_sq he.on
  have a := (Cg.self e.1).M (Cg.self e.1)
  have b := (Cg.self e.2.1).M (Cg.self e.2.1)
  have zz := (Cg.self e.2.2.1).M (Cg.self e.2.2.1)
  have c := zz.A zz
  have h := a.A b
  have s := ((Cg.self e.1).A (Cg.self e.2.1)).M ((Cg.self e.1).A (Cg.self e.2.1))
  have g := a.S b
  have hZ : ¬ MM ∣ (e.2.2.1 : Int) * e.2.2.1 := nz_mul nz1 nz1
  have hG : Eq_ ((e.1 : Int) * e.1 - e.2.1 * e.2.1) (-((e.2.2.1 : Int) * e.2.2.1) * (1 + Tt p p)) := by
    have h1 := ((ex.mul ex).sub (ey.mul ey))
    refine h1.trans (Eq_.trans (Eq_.of ?_) (hq.r (-((e.2.2.1 : Int) * e.2.2.1))))
    grind
  refine rep_four (p := addP p p) (u := uu p.1 p.2 p.1 p.2) (v := vv p.1 p.2 p.1 p.2) (T := Tt p p) (k := -((e.2.2.1 : Int) * e.2.2.1)) (m := e.2.2.1 * e.2.2.1) (onP_add he.on he.on) ((h.S s).to ?_) ((c.A g).to ?_) (g.to hG) (h.to ?_) (fun h => hZ (Int.dvd_neg.1 h)) hZ (nz_add he.on he.on) (nz_sub he.on he.on) hs.x_eq hs.y_eq
  · have h1 := (ex.mul ey).r (-2)
    refine Eq_.trans (Eq_.of ?_) (h1.trans (Eq_.of ?_))
    · grind
    · unfold uu; grind
  · have h1 := (Eq_.refl (2 * ((e.2.2.1 : Int) * e.2.2.1))).add hG
    refine Eq_.trans (Eq_.of ?_) (h1.trans (Eq_.of ?_))
    · grind
    · grind
  · have h1 := (ex.mul ex).add (ey.mul ey)
    refine h1.trans (Eq_.of ?_)
    unfold vv; grind
theorem Cg.divz {a b : Nat} {z : Nat} (hz : z < PP) (hb : ¬ MM ∣ (b : Int)) (h : Eq_ a (z * b)) : fM a (fI b) = z :=
  ((Cg.self a).div (Cg.self b) hb h).uniq (fM_lt _ _) hz (Cg.self z)
theorem rep_plain {e : E4} {p : Pt} (he : Rep e p) : plainE e = p :=
  Prod.ext (Cg.divz he.on.1 he.nz he.x) (Cg.divz he.on.2.1 he.nz he.y)
theorem q_val {a : Nat} (ha : a < PP) : val (words 4 a) = a := val4_of (PP_lt ha)
theorem ee_mkE' {a b c d : Nat} (h1 : a < PP) (h2 : b < PP) (h3 : c < PP) (h4 : d < PP) : ee (words 4 a ++ (words 4 b ++ (words 4 c ++ words 4 d))) = (a, b, c, d) := by
  simp only [ee, q0, q1, q2, q3, tk4, dp4, dp8, dp12, tkw, q_val h1, q_val h2, q_val h3, q_val h4]
theorem ee_rep {e : E4} {p : Pt} (he : Rep e p) : ee (mkE e) = e := ee_mkE' he.l1 he.l2 he.l3 he.l4
theorem pp_mkP {a : Pt} (h1 : a.1 < PP) (h2 : a.2 < PP) : pp (mkP a) = a := by
  simp only [pp, mkP, q0, q1, tk4, dp4, tkw, q_val h1, q_val h2]
theorem onP_tk (p : Pt) : onP (tk p) := by
  unfold tk
  split
  · assumption
  · exact onP_zero
theorem pp_on {a : Pt} (h : onP a) : pp (mkP a) = a := pp_mkP h.1 h.2.1
theorem tk_on {a : Pt} (h : onP a) : tk a = a := if_pos h
theorem tk_not {a : Pt} (h : ¬ onP a) : tk a = zeroP := if_neg h
/-- A point of 8 words, as it is laid. -/
theorem mk_pp {p : List U64} (hp : p.length = 8) : mkP (pp p) = p := by
  have e0 := part4 (p := p) (k := 0) (by omega)
  have e1 := part4 (p := p) (k := 4) (by omega)
  rw [List.drop_zero] at e0
  show words 4 (val (List.take 4 p)) ++ words 4 (val (List.take 4 (List.drop 4 p))) = p
  rw [← e0, ← e1, List.take_of_length_le (l := List.drop 4 p) (by rw [List.length_drop]; omega), List.take_append_drop]
/-! ### The document's fractions -/
abbrev F3 := Nat × Nat × Nat
def plusF (p q : F3) : F3 :=
  let a := fM p.2.2 q.2.2
  let b := fM a a
  let c := fM p.1 q.1
  let d := fM p.2.1 q.2.1
  let e := fM DD (fM c d)
  let f := fS b e
  let g := fA b e
  let cross := fA (fM p.1 q.2.1) (fM q.1 p.2.1)
  (fM a (fM f cross), fM a (fM g (fA c d)), fM f g)
structure RepF (e : F3) (p : Pt) : Prop where
  on : onP p
  l1 : e.1 < PP
  l2 : e.2.1 < PP
  l3 : e.2.2 < PP
  nz : ¬ MM ∣ (e.2.2 : Int)
  x : Eq_ e.1 (p.1 * e.2.2)
  y : Eq_ e.2.1 (p.2 * e.2.2)
theorem repF_one {p : Pt} (hp : onP p) : RepF (p.1, p.2, 1) p where
  on := hp
  l1 := hp.1
  l2 := hp.2.1
  l3 := by show 1 < PP; decide
  nz := by show ¬ MM ∣ ((1 : Nat) : Int); decide
  x := Eq_.of (by show (p.1 : Int) = p.1 * ((1 : Nat) : Int); omega)
  y := Eq_.of (by show (p.2 : Int) = p.2 * ((1 : Nat) : Int); omega)
theorem repF_plus {e f : F3} {p q : Pt} (he : RepF e p) (hf : RepF f q) : RepF (plusF e f) (addP p q) := by
  have hs := addP_sum he.on hf.on
  have nz1 := he.nz
  have nz2 := hf.nz
  have ex := he.x
  have ey := he.y
  have fx := hf.x
  have fy := hf.y
  have na := nz_add he.on hf.on
  have ns := nz_sub he.on hf.on
  have sx := hs.x_eq
  have sy := hs.y_eq
  obtain ⟨Z, hZ⟩ : ∃ Z : Int, (e.2.2 : Int) * f.2.2 = Z := ⟨_, rfl⟩
  have hZn : ¬ MM ∣ Z := by rw [← hZ]; exact nz_mul nz1 nz2
  have a : Cg (fM e.2.2 f.2.2) Z := by rw [← hZ]; exact (Cg.self _).M (Cg.self _)
  have b := a.M a
  have c : Cg (fM e.1 f.1) (p.1 * q.1 * Z) := ((Cg.self e.1).M (Cg.self f.1)).to ((ex.mul fx).trans (Eq_.of (by rw [← hZ]; grind)))
  have d : Cg (fM e.2.1 f.2.1) (p.2 * q.2 * Z) := ((Cg.self e.2.1).M (Cg.self f.2.1)).to ((ey.mul fy).trans (Eq_.of (by rw [← hZ]; grind)))
  have t := (Cg.self DD).M (c.M d)
  have hf' := (b.S t).to (y := Z * Z * (1 - Tt p q)) (Eq_.of (by unfold Tt tt4; grind))
  have hg' := (b.A t).to (y := Z * Z * (1 + Tt p q)) (Eq_.of (by unfold Tt tt4; grind))
  have cr : Cg (fA (fM e.1 f.2.1) (fM f.1 e.2.1)) (uu p.1 p.2 q.1 q.2 * Z) :=
    (((Cg.self e.1).M (Cg.self f.2.1)).A ((Cg.self f.1).M (Cg.self e.2.1))).to (((ex.mul fy).add (fx.mul ey)).trans (Eq_.of (by rw [← hZ]; unfold uu; grind)))
  have sm : Cg (fA (fM e.1 f.1) (fM e.2.1 f.2.1)) (vv p.1 p.2 q.1 q.2 * Z) := (c.A d).to (Eq_.of (by unfold vv; grind))
  have z3 := Eq_.ofCg (hf'.M hg')
  have x3 := Eq_.ofCg (a.M (hf'.M cr))
  have y3 := Eq_.ofCg (a.M (hg'.M sm))
  refine ⟨onP_add he.on hf.on, fM_lt _ _, fM_lt _ _, fM_lt _ _, z3.symm.nz (nz_mul (nz_mul (nz_mul hZn hZn) ns) (nz_mul (nz_mul hZn hZn) na)), ?_, ?_⟩
  · refine x3.trans (Eq_.trans ?_ (z3.symm.r ((addP p q).1 : Int)))
    have h1 := (sx.symm.l (Z * Z * (Z * Z) * (1 - Tt p q)))
    refine (Eq_.of ?_).trans (h1.trans (Eq_.of ?_)) <;> grind
  · refine y3.trans (Eq_.trans ?_ (z3.symm.r ((addP p q).2 : Int)))
    have h1 := (sy.symm.l (Z * Z * (Z * Z) * (1 + Tt p q)))
    refine (Eq_.of ?_).trans (h1.trans (Eq_.of ?_)) <;> grind
theorem repF_plain {e : F3} {p : Pt} (he : RepF e p) : (fM e.1 (fI e.2.2), fM e.2.1 (fI e.2.2)) = p :=
  Prod.ext (Cg.divz he.on.1 he.nz he.x) (Cg.divz he.on.2.1 he.nz he.y)
/-! ### Multiples, bit by bit -/
theorem half_up (a k : Nat) : a / 2 ^ k = 2 * (a / 2 ^ (k + 1)) + a / 2 ^ k % 2 := by
  have e : a / 2 ^ (k + 1) = a / 2 ^ k / 2 := by rw [Nat.pow_succ, Nat.div_div_eq_div_mul]
  rw [e]; omega
theorem nsm_bit1 {p : Pt} (hp : onP p) {a k : Nat} (h : a / 2 ^ k % 2 = 1) : nsm p (a / 2 ^ k) = addP (addP (nsm p (a / 2 ^ (k + 1))) (nsm p (a / 2 ^ (k + 1)))) p := by
  rw [half_up a k, h, nsm, nsm_two hp]
theorem nsm_bit0 {p : Pt} (hp : onP p) {a k : Nat} (h : ¬ a / 2 ^ k % 2 = 1) : nsm p (a / 2 ^ k) = addP (nsm p (a / 2 ^ (k + 1))) (nsm p (a / 2 ^ (k + 1))) := by
  rw [half_up a k, show a / 2 ^ k % 2 = 0 by omega, Nat.add_zero, nsm_two hp]
theorem add_mid {a b c : Pt} (ha : onP a) (hb : onP b) (hc : onP c) : addP (addP a b) c = addP (addP a c) b := by
  rw [addP_assoc ha hb hc, addP_comm b c, ← addP_assoc ha hc hb]
/-- Two multiples, added, and one bit more of each. -/
theorem both_step {p q : Pt} (hp : onP p) (hq : onP q) (a b k : Nat) : addP (nsm p (a / 2 ^ k)) (nsm q (b / 2 ^ k)) =
    (let r := addP (nsm p (a / 2 ^ (k + 1))) (nsm q (b / 2 ^ (k + 1)))
     let d := addP r r
     if a / 2 ^ k % 2 = 1 then (if b / 2 ^ k % 2 = 1 then addP d (addP p q) else addP d p) else (if b / 2 ^ k % 2 = 1 then addP d q else d)) := by
  have hA := onP_nsm hp (a / 2 ^ (k + 1))
  have hB := onP_nsm hq (b / 2 ^ (k + 1))
  dsimp only
  rw [add_four hA hB hA hB]
  by_cases h1 : a / 2 ^ k % 2 = 1 <;> by_cases h2 : b / 2 ^ k % 2 = 1
  · rw [if_pos h1, if_pos h2, nsm_bit1 hp h1, nsm_bit1 hq h2, add_four (onP_add hA hA) (onP_add hB hB) hp hq]
  · rw [if_pos h1, if_neg h2, nsm_bit1 hp h1, nsm_bit0 hq h2, add_mid (onP_add hA hA) (onP_add hB hB) hp]
  · rw [if_neg h1, if_pos h2, nsm_bit0 hp h1, nsm_bit1 hq h2, addP_assoc (onP_add hA hA) (onP_add hB hB) hq]
  · rw [if_neg h1, if_neg h2, nsm_bit0 hp h1, nsm_bit0 hq h2]
end Go.Proofs.Ytjhfmlnfbmckfaa
