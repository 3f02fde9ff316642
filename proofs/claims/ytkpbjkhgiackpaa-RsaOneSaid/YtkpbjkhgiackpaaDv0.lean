/- Division word by word. No program in sight. -/
import Derived.Test.YtkpbjkhgiackpaaQw
import Derived.Test.YtkpbjkhgiackpaaQu0
namespace Go.Proofs.Ytkpbjkhgiackpaa
open Go Go.RowKit
set_option linter.unusedVariables false
set_option linter.unusedSimpArgs false
theorem dv_split (r : List U32) (i m : Nat) (h : i + m ≤ r.length) : nv32 r = nv32 (r.take i) + 4294967296 ^ i * (nv32 ((r.drop i).take m) + 4294967296 ^ m * nv32 (r.drop (i + m))) := by
  rw [nv32_take_drop r i (by omega), nv32_take_drop (r.drop i) m (by rw [List.length_drop]; omega), List.drop_drop]
theorem dv_join (r zs : List U32) (i m : Nat) (h : i + m ≤ r.length) (hz : zs.length = m) : nv32 (r.take i ++ (zs ++ r.drop (i + m))) = nv32 (r.take i) + 4294967296 ^ i * (nv32 zs + 4294967296 ^ m * nv32 (r.drop (i + m))) := by
  rw [nv32_app, nv32_app, hz, List.length_take, Nat.min_eq_left (by omega)]
/-- The guess is the word, or one above it. -/
theorem dv_x {V W T D P x : Nat} (hP : 0 < P) (hT : T = W / P) (hD : D = V / P) (h1 : x * D ≤ T) (h2 : 4294967296 ≤ x + 1 ∨ T < (x + 1) * D) (h3 : W < V * 4294967296) (hx : x < 4294967296) (hV : 4294967296 * P ≤ V) : W / V ≤ x ∧ x ≤ W / V + 1 := by
  have hVp : 0 < V := Nat.lt_of_lt_of_le (Nat.mul_pos (by decide) hP) hV
  have w1 : T * P ≤ W := by rw [hT]; exact Nat.div_mul_le_self W P
  have w2 : W < (T + 1) * P := by rw [hT]; exact (Nat.div_lt_iff_lt_mul hP).1 (Nat.lt_succ_self _)
  have v1 : D * P ≤ V := by rw [hD]; exact Nat.div_mul_le_self V P
  have v2 : V < (D + 1) * P := by rw [hD]; exact (Nat.div_lt_iff_lt_mul hP).1 (Nat.lt_succ_self _)
  constructor
  · rcases h2 with h2 | h2
    · have : W / V < 4294967296 := (Nat.div_lt_iff_lt_mul hVp).2 (by rw [Nat.mul_comm]; exact h3)
      omega
    · have e1 : (T + 1) * P ≤ (x + 1) * D * P := Nat.mul_le_mul_right _ h2
      have e2 : (x + 1) * D * P ≤ (x + 1) * V := by rw [Nat.mul_assoc]; exact Nat.mul_le_mul_left _ v1
      have : W / V < x + 1 := (Nat.div_lt_iff_lt_mul hVp).2 (by omega)
      omega
  · have e1 : x * V ≤ x * ((D + 1) * P) := Nat.mul_le_mul_left _ (Nat.le_of_lt v2)
    have e2 : x * ((D + 1) * P) = x * D * P + x * P := by rw [Nat.add_mul, Nat.mul_add, Nat.one_mul, Nat.mul_assoc]
    have e3 : x * D * P ≤ T * P := Nat.mul_le_mul_right _ h1
    have e4 : x * P ≤ 4294967296 * P := Nat.mul_le_mul_right _ (by omega)
    have e5 : x * V ≤ W + V := by omega
    have e6 := Nat.div_add_mod W V
    have e7 := Nat.mod_lt W hVp
    refine Nat.le_of_not_lt fun hc => ?_
    have e8 : (W / V + 2) * V ≤ x * V := Nat.mul_le_mul_right _ hc
    rw [Nat.add_mul, Nat.mul_comm (W / V)] at e8
    omega
/-- Where a word of the quotient is looked for. -/
structure DvC (d r : List U32) (i n : Nat) (W : Nat) : Prop where
  hw : nv32 ((r.drop i).take (n + 1)) = W
  hz : nv32 (r.drop (i + (n + 1))) = 0
  hr : nv32 r = nv32 (r.take i) + 4294967296 ^ i * W
  hlt : W < nv32 d * 4294967296
  hT : gsT (g32 r (i + n)) (g32 r (i + n - 1)) (g32 r (i + n - 2)) = W / 4294967296 ^ (n - 2)
  hD : gsD (g32 d (n - 1)) (g32 d (n - 2)) = nv32 d / 4294967296 ^ (n - 2)
  h2 : (g32 r (i + n)).toNat ≤ (g32 d (n - 1)).toNat
  hV : 4294967296 * 4294967296 ^ (n - 2) ≤ nv32 d
theorem dv_ctx {d r : List U32} {i n : Nat} (hd : d.length = n) (hn : 2 ≤ n) (hd1 : 2147483648 ≤ (g32 d (n - 1)).toNat) (hi : i + (n + 1) ≤ r.length) (h : nv32 r < nv32 d * 4294967296 ^ (i + 1)) : ∃ W, DvC d r i n W := by
  have hdl := nv32_lt d
  rw [hd] at hdl
  have hz : nv32 (r.drop (i + (n + 1))) = 0 := by
    rw [← nv32_div, Nat.div_eq_of_lt]
    have e : nv32 d * 4294967296 ^ (i + 1) ≤ 4294967296 ^ n * 4294967296 ^ (i + 1) := Nat.mul_le_mul_right _ (Nat.le_of_lt hdl)
    rw [← Nat.pow_add, show n + (i + 1) = i + (n + 1) by omega] at e
    omega
  have hs := dv_split r i (n + 1) hi
  rw [hz, Nat.mul_zero, Nat.add_zero] at hs
  have hdi : nv32 (r.drop i) = nv32 ((r.drop i).take (n + 1)) := by
    have := nv32_take_drop (r.drop i) (n + 1) (by rw [List.length_drop]; omega)
    rw [List.drop_drop, hz, Nat.mul_zero, Nat.add_zero] at this
    exact this
  have hdt : nv32 (d.drop n) = 0 := by rw [List.drop_eq_nil_of_le (by omega)]; rfl
  have hd2 : nv32 (d.drop (n - 2)) = gsD (g32 d (n - 1)) (g32 d (n - 2)) := by
    rw [nv32_drop d (n - 2), show n - 2 + 1 = n - 1 by omega, nv32_drop d (n - 1), show n - 1 + 1 = n by omega, hdt]
    unfold gsD; omega
  have hd1v : nv32 (d.drop (n - 1)) = (g32 d (n - 1)).toNat := by
    rw [nv32_drop d (n - 1), show n - 1 + 1 = n by omega, hdt]; omega
  have hP : 0 < 4294967296 ^ (n - 2) := Nat.pow_pos (by decide)
  have hVup : nv32 d < ((g32 d (n - 1)).toNat + 1) * 4294967296 ^ (n - 1) := by
    rw [← hd1v, ← nv32_div]
    exact (Nat.div_lt_iff_lt_mul (Nat.pow_pos (by decide))).1 (Nat.lt_succ_self _)
  refine ⟨_, rfl, hz, hs, ?_, ?_, ?_, ?_, ?_⟩
  · rw [← hdi, ← nv32_div]
    refine (Nat.div_lt_iff_lt_mul (Nat.pow_pos (by decide))).2 ?_
    rw [Nat.pow_succ] at h
    rw [Nat.mul_assoc, Nat.mul_comm 4294967296]; exact h
  · rw [← hdi, nv32_div, List.drop_drop, nv32_drop r (i + (n - 2)), nv32_drop r (i + (n - 2) + 1), nv32_drop r (i + (n - 2) + 1 + 1), show i + (n - 2) + 1 + 1 + 1 = i + (n + 1) by omega, hz,
      show i + (n - 2) + 1 + 1 = i + n by omega, show i + (n - 2) + 1 = i + n - 1 by omega, show i + (n - 2) = i + n - 2 by omega]
    unfold gsT; omega
  · rw [nv32_div, hd2]
  · have e : nv32 (r.drop (i + n)) = (g32 r (i + n)).toNat := by
      rw [nv32_drop r (i + n), show i + n + 1 = i + (n + 1) by omega, hz]; omega
    rw [← e, ← nv32_div]
    have e2 : nv32 d * 4294967296 ^ (i + 1) < ((g32 d (n - 1)).toNat + 1) * 4294967296 ^ (n - 1) * 4294967296 ^ (i + 1) := Nat.mul_lt_mul_of_pos_right hVup (Nat.pow_pos (by decide))
    rw [Nat.mul_assoc, ← Nat.pow_add, show n - 1 + (i + 1) = i + n by omega] at e2
    have : nv32 r / 4294967296 ^ (i + n) < (g32 d (n - 1)).toNat + 1 := (Nat.div_lt_iff_lt_mul (Nat.pow_pos (by decide))).2 (by omega)
    omega
  · have e : 4294967296 * 4294967296 ^ (n - 2) = 4294967296 ^ (n - 1) := by rw [← Nat.pow_succ', show (n - 2).succ = n - 1 by omega]
    rw [e]
    have h2 := Nat.div_mul_le_self (nv32 d) (4294967296 ^ (n - 1))
    rw [nv32_div, hd1v] at h2
    have h3 : 1 * 4294967296 ^ (n - 1) ≤ (g32 d (n - 1)).toNat * 4294967296 ^ (n - 1) := Nat.mul_le_mul_right _ (by omega)
    omega
/-- What is left, with a word of the quotient taken away. -/
theorem dv_next {d r zs : List U32} {i n W : Nat} (hc : DvC d r i n W) (hi : i + (n + 1) ≤ r.length) (hz : zs.length = n + 1) (hv : nv32 zs = W % nv32 d) (hVp : 0 < nv32 d) :
    nv32 (r.take i ++ (zs ++ r.drop (i + (n + 1)))) + 4294967296 ^ i * (W / nv32 d * nv32 d) = nv32 r ∧ nv32 (r.take i ++ (zs ++ r.drop (i + (n + 1)))) < nv32 d * 4294967296 ^ i := by
  have hj := dv_join r zs i (n + 1) hi hz
  simp only [hc.hz, Nat.mul_zero, Nat.add_zero, hv] at hj
  have hm := Nat.div_add_mod W (nv32 d)
  have hl := Nat.mod_lt W hVp
  have ht := nv32_lt (r.take i)
  rw [List.length_take, Nat.min_eq_left (by omega)] at ht
  refine ⟨?_, ?_⟩
  · rw [hj, hc.hr, Nat.add_assoc, ← Nat.mul_add]
    congr 2
    rw [Nat.mul_comm] ; omega
  · rw [hj]
    have h1 : 4294967296 ^ i * (W % nv32 d + 1) ≤ 4294967296 ^ i * nv32 d := Nat.mul_le_mul_left _ hl
    have h2 : 4294967296 ^ i * (W % nv32 d + 1) = 4294967296 ^ i * (W % nv32 d) + 4294967296 ^ i := Nat.mul_succ _ _
    rw [h2] at h1
    rw [Nat.mul_comm (nv32 d)]
    omega
def DvI (d : List U32) (U L m : Nat) (s : Nat × List U32 × List U32) : Prop := s.1 ≤ m ∧ s.2.1.length = L ∧ s.2.2.length = m ∧ nv32 s.2.1 < nv32 d * 4294967296 ^ s.1 ∧ nv32 s.2.1 + nv32 d * (4294967296 ^ s.1 * nv32 (s.2.2.drop s.1)) = U
theorem dv_step {d r q zs : List U32} {U L m i n W : Nat} {x : U32} (hVp : 0 < nv32 d) (hL : i + (n + 1) ≤ L) (hI : DvI d U L m (i + 1, r, q)) (hc : DvC d r i n W) (hz : zs.length = n + 1) (hv : nv32 zs = W % nv32 d) (hx : x.toNat = W / nv32 d) :
    DvI d U L m (i, r.take i ++ (zs ++ r.drop (i + (n + 1))), q.set i x) := by
  obtain ⟨h1, h2, h3, h4, h5⟩ := hI
  dsimp only at h1 h2 h3 h4 h5
  obtain ⟨e1, e2⟩ := dv_next hc (by omega) hz hv hVp
  refine ⟨by dsimp only; omega, ?_, by simp [h3], e2, ?_⟩
  · dsimp only
    rw [List.length_append, List.length_append, List.length_take, List.length_drop, hz]; omega
  · dsimp only
    rw [nv32_drop, g32_set_eq32 (by omega), List.drop_set_of_lt (by omega), hx, Nat.mul_add, Nat.mul_add]
    rw [← h5, ← e1]
    rw [Nat.pow_succ]
    have e3 : nv32 d * (4294967296 ^ i * (W / nv32 d)) = 4294967296 ^ i * (W / nv32 d * nv32 d) := by rw [Nat.mul_left_comm, Nat.mul_comm (nv32 d)]
    have e4 : nv32 d * (4294967296 ^ i * (4294967296 * nv32 (q.drop (i + 1)))) = nv32 d * (4294967296 ^ i * 4294967296 * nv32 (q.drop (i + 1))) := by rw [Nat.mul_assoc]
    rw [e3, e4]
    omega
/-- A round: what the guess, what is taken away and what is added back come to. -/
theorem dv_fin {d r q : List U32} {U L m i n W : Nat} {w : U64} (hn : d.length = n) (hVp : 0 < nv32 d) (hL : i + (n + 1) ≤ L) (hI : DvI d U L m (i + 1, r, q)) (hc : DvC d r i n W) (hwB : w.toNat < 4294967296)
    (hwD : w.toNat * gsD (g32 d (n - 1)) (g32 d (n - 2)) ≤ gsT (g32 r (i + n)) (g32 r (i + n - 1)) (g32 r (i + n - 2))) (hwG : 4294967296 ≤ w.toNat + 1 ∨ gsT (g32 r (i + n)) (g32 r (i + n - 1)) (g32 r (i + n - 2)) < (w.toNat + 1) * gsD (g32 d (n - 1)) (g32 d (n - 2))) :
    w.toNat * nv32 d < 4294967296 ^ (n + 1) ∧ ∀ zs : List U32, zs.length = n + 1 → nv32 zs + w.toNat * nv32 d = W + (if W < w.toNat * nv32 d then 4294967296 ^ (n + 1) else 0) →
      (W < w.toNat * nv32 d → ∀ (z2 : List U32) (k2 : Nat), z2.length = n + 1 → k2 ≤ 1 → nv32 z2 + 4294967296 ^ (n + 1) * k2 = nv32 zs + nv32 d → DvI d U L m (i, r.take i ++ (z2 ++ r.drop (i + (n + 1))), q.set i ((w - 1#64).setWidth 32))) ∧
      (¬ W < w.toNat * nv32 d → DvI d U L m (i, r.take i ++ (zs ++ r.drop (i + (n + 1))), q.set i (w.setWidth 32))) := by
  have hVn := nv32_lt d
  rw [hn] at hVn
  have hdm := Nat.div_add_mod W (nv32 d)
  rw [Nat.mul_comm] at hdm
  have hml := Nat.mod_lt W hVp
  obtain ⟨x1, x2⟩ := dv_x (P := 4294967296 ^ (n - 2)) (x := w.toNat) (Nat.pow_pos (by decide)) hc.hT hc.hD hwD hwG hc.hlt hwB hc.hV
  have hwV : w.toNat * nv32 d < 4294967296 ^ (n + 1) := by
    have g1 : w.toNat * nv32 d ≤ 4294967296 * nv32 d := Nat.mul_le_mul_right _ (Nat.le_of_lt hwB)
    have g2 : 4294967296 ^ (n + 1) = 4294967296 * 4294967296 ^ n := Nat.pow_succ'
    omega
  have hcase : (w.toNat = W / nv32 d ∧ w.toNat * nv32 d = W / nv32 d * nv32 d) ∨ (w.toNat = W / nv32 d + 1 ∧ w.toNat * nv32 d = W / nv32 d * nv32 d + nv32 d) := by
    rcases (by omega : w.toNat = W / nv32 d ∨ w.toNat = W / nv32 d + 1) with e | e
    · exact .inl ⟨e, by rw [e]⟩
    · exact .inr ⟨e, by rw [e, Nat.add_mul, Nat.one_mul]⟩
  clear hwD hwG x1 x2
  refine ⟨hwV, fun zs hzl hzv => ⟨fun hneg z2 k2 hz2l hk2 hz2v => ?_, fun hpos => ?_⟩⟩
  · rw [if_pos hneg] at hzv
    have hz2n := nv32_lt z2
    rw [hz2l] at hz2n
    obtain ⟨c1, c2⟩ := hcase.resolve_left (fun h => by have := h.2; omega)
    have hval : nv32 z2 = W % nv32 d := by
      clear c1 hcase hI hc hwB
      generalize W / nv32 d * nv32 d = QV at *
      generalize W % nv32 d = M at *
      generalize w.toNat * nv32 d = WV at *
      generalize 4294967296 ^ (n + 1) = P at *
      rcases (by omega : k2 = 0 ∨ k2 = 1) with e | e
      · rw [e, Nat.mul_zero] at hz2v; omega
      · rw [e, Nat.mul_one] at hz2v; omega
    have hs := sub_one (q := w) (by rw [c1]; exact Nat.succ_pos _)
    have hq : W / nv32 d + 1 < 2 ^ 32 := by rw [← c1]; exact hwB
    exact dv_step hVp hL hI hc hz2l hval (by rw [BitVec.toNat_setWidth, hs, c1, Nat.add_sub_cancel, Nat.mod_eq_of_lt (Nat.lt_of_succ_lt hq)])
  · rw [if_neg hpos, Nat.add_zero] at hzv
    obtain ⟨c1, c2⟩ := hcase.resolve_right (fun h => by have := h.2; omega)
    have hval : nv32 zs = W % nv32 d := by
      clear c1 hcase hI hc hwB
      generalize W / nv32 d * nv32 d = QV at *
      generalize W % nv32 d = M at *
      generalize w.toNat * nv32 d = WV at *
      omega
    exact dv_step hVp hL hI hc hzl hval (by rw [BitVec.toNat_setWidth, ← c1]; exact Nat.mod_eq_of_lt hwB)
theorem dv_end {d r q : List U32} {U L m : Nat} (hVp : 0 < nv32 d) (hI : DvI d U L m (0, r, q)) : nv32 q = U / nv32 d ∧ nv32 r = U % nv32 d := by
  obtain ⟨h1, h2, h3, h4, h5⟩ := hI
  dsimp only at h4 h5
  rw [Nat.pow_zero, Nat.mul_one] at h4
  rw [Nat.pow_zero, Nat.one_mul, List.drop_zero] at h5
  rw [← h5]
  exact ⟨by rw [Nat.add_mul_div_left _ _ hVp, Nat.div_eq_of_lt h4, Nat.zero_add], by rw [Nat.add_mul_mod_self_left, Nat.mod_eq_of_lt h4]⟩
end Go.Proofs.Ytkpbjkhgiackpaa
