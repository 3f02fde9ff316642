/- Natural numbers as digits of 16 bits and as words of 32 bits, the lowest first. No program in sight. -/
import Derived.Test.YtkpbjkhgiackpaaEng3
namespace Go.Proofs.Ytkpbjkhgiackpaa
open Go Go.RowKit
set_option linter.unusedVariables false
set_option linter.unusedSimpArgs false

/-! ### Base 65536 -/
def nv16 : List U64 → Nat
  | [] => 0
  | x :: r => x.toNat + 65536 * nv16 r
def D16 (l : List U64) : Prop := ∀ x ∈ l, x.toNat < 65536
theorem D16.nil : D16 [] := fun _ h => by cases h
theorem D16.head {x : U64} {r : List U64} (h : D16 (x :: r)) : x.toNat < 65536 := h x (List.mem_cons_self ..)
theorem D16.tail {x : U64} {r : List U64} (h : D16 (x :: r)) : D16 r := fun y hy => h y (List.mem_cons_of_mem _ hy)
theorem D16.app {l m : List U64} (h1 : D16 l) (h2 : D16 m) : D16 (l ++ m) := fun x hx => (List.mem_append.1 hx).elim (h1 x) (h2 x)
theorem D16.one {x : U64} (h : x.toNat < 65536) : D16 [x] := fun y hy => by simp at hy; subst hy; exact h
theorem D16.take {l : List U64} (h : D16 l) (n : Nat) : D16 (l.take n) := fun x hx => h x (List.mem_of_mem_take hx)
theorem D16.drop {l : List U64} (h : D16 l) (n : Nat) : D16 (l.drop n) := fun x hx => h x (List.mem_of_mem_drop hx)
theorem D16.get {l : List U64} (h : D16 l) (i : Nat) : (g64 l i).toNat < 65536 := by
  unfold g64
  rw [List.getD_eq_getElem?_getD]
  cases hx : l[i]? with
  | none => simp
  | some x => exact h x (List.mem_of_getElem? hx)
theorem D16.set {l : List U64} (h : D16 l) (i : Nat) {v : U64} (hv : v.toNat < 65536) : D16 (l.set i v) := fun x hx => by
  rcases List.mem_or_eq_of_mem_set hx with h1 | h1
  · exact h x h1
  · subst h1; exact hv
theorem D16.zeros (n : Nat) : D16 (List.replicate n 0) := fun x hx => by rw [(List.mem_replicate.1 hx).2]; decide
/-- No nought at the end. -/
def Can16 : List U64 → Prop
  | [] => True
  | x :: r => x.toNat < 65536 ∧ Can16 r ∧ (r = [] → x ≠ 0)
theorem nv16_app : ∀ l m : List U64, nv16 (l ++ m) = nv16 l + 65536 ^ l.length * nv16 m
  | [], m => by simp [nv16]
  | x :: r, m => by
    simp only [List.cons_append, nv16, nv16_app r m, List.length_cons, Nat.pow_succ]
    rw [Nat.mul_add, ← Nat.mul_assoc, Nat.mul_comm 65536 (65536 ^ r.length)]
    omega
theorem nv16_one (x : U64) : nv16 [x] = x.toNat := by simp [nv16]
theorem nv16_zeros : ∀ n, nv16 (List.replicate n 0) = 0
  | 0 => rfl
  | n + 1 => by rw [List.replicate_succ, nv16, nv16_zeros n]; simp
theorem nv16_lt : ∀ l : List U64, D16 l → nv16 l < 65536 ^ l.length
  | [], _ => by simp [nv16]
  | x :: r, h => by
    have h1 := nv16_lt r h.tail
    have h2 : x.toNat < 65536 := h.head
    simp only [nv16, List.length_cons, Nat.pow_succ]
    omega
theorem nv16_take_drop (l : List U64) (n : Nat) (h : n ≤ l.length) : nv16 l = nv16 (l.take n) + 65536 ^ n * nv16 (l.drop n) := by
  conv => lhs; rw [← List.take_append_drop n l, nv16_app, List.length_take, Nat.min_eq_left h]
theorem nv16_drop : ∀ (l : List U64) (n : Nat), nv16 (l.drop n) = (g64 l n).toNat + 65536 * nv16 (l.drop (n + 1))
  | [], n => by simp [nv16, g64]
  | x :: r, 0 => by simp [nv16, g64]
  | x :: r, n + 1 => by
    have := nv16_drop r n
    have hg : g64 (x :: r) (n + 1) = g64 r n := rfl
    simpa [hg] using this
theorem nv16_take_succ (l : List U64) (k : Nat) : nv16 (l.take (k + 1)) = nv16 (l.take k) + 65536 ^ k * (g64 l k).toNat := by
  rcases Nat.lt_or_ge k l.length with h | h
  · rw [List.take_succ_eq_append_getElem h, nv16_app, nv16_one, List.length_take, Nat.min_eq_left (by omega)]
    simp [g64, h]
  · rw [List.take_of_length_le h, List.take_of_length_le (by omega)]
    have : g64 l k = 0 := by simp [g64, List.getD_eq_getElem?_getD, h]
    rw [this]; simp
theorem g64_over16 {l : List U64} {i : Nat} (h : l.length ≤ i) : g64 l i = 0 := by simp [g64, List.getD_eq_getElem?_getD, h]
theorem nv16_set : ∀ (l : List U64) (j : Nat) (v : U64), j < l.length → nv16 (l.set j v) + 65536 ^ j * (g64 l j).toNat = nv16 l + 65536 ^ j * v.toNat
  | [], _, _, h => by simp at h
  | x :: r, 0, v, h => by simp [nv16, g64]; omega
  | x :: r, j + 1, v, h => by
    have ih := nv16_set r j v (by simpa using h)
    have hg : g64 (x :: r) (j + 1) = g64 r j := rfl
    simp only [List.set_cons_succ, nv16, hg, Nat.pow_succ]
    have h3 : 65536 * (nv16 (r.set j v) + 65536 ^ j * (g64 r j).toNat) = 65536 * (nv16 r + 65536 ^ j * v.toNat) := by rw [ih]
    rw [Nat.mul_add, Nat.mul_add, ← Nat.mul_assoc, ← Nat.mul_assoc] at h3
    rw [Nat.mul_comm (65536 ^ j) 65536]
    omega
theorem g64_set_ne16 {l : List U64} {i j : Nat} {v : U64} (h : i ≠ j) : g64 (l.set i v) j = g64 l j := by
  simp [g64, List.getD_eq_getElem?_getD, List.getElem?_set, h]
theorem g64_set_eq16 {l : List U64} {i : Nat} {v : U64} (h : i < l.length) : g64 (l.set i v) i = v := by
  simp [g64, List.getD_eq_getElem?_getD, List.getElem?_set, h]
theorem toNat_ne16 {x : U64} (h : x ≠ 0) : 0 < x.toNat := by
  rcases Nat.eq_zero_or_pos x.toNat with e | e
  · exact absurd (BitVec.eq_of_toNat_eq (by rw [e]; rfl)) h
  · exact e
theorem Can16.dig : ∀ {l : List U64}, Can16 l → D16 l
  | [], _ => D16.nil
  | x :: r, h => fun y hy => by
    rcases List.mem_cons.1 hy with e | e
    · subst e; exact h.1
    · exact Can16.dig h.2.1 y e
theorem Can16.ge : ∀ {l : List U64}, Can16 l → l ≠ [] → 65536 ^ (l.length - 1) ≤ nv16 l
  | [], _, h => absurd rfl h
  | x :: r, hc, _ => by
    obtain ⟨h1, h2, h3⟩ := hc
    cases r with
    | nil =>
      have := toNat_ne16 (h3 rfl)
      simp [nv16]
      omega
    | cons y t =>
      have ih := Can16.ge h2 (by simp)
      simp only [nv16, List.length_cons, Nat.add_sub_cancel] at ih ⊢
      rw [Nat.pow_succ]
      omega
theorem Can16.pos {l : List U64} (h : Can16 l) (hn : l ≠ []) : 0 < nv16 l := Nat.lt_of_lt_of_le (Nat.pow_pos (by decide)) (h.ge hn)
theorem Can16.nil_iff {l : List U64} (h : Can16 l) : l = [] ↔ nv16 l = 0 := by
  constructor
  · rintro rfl; rfl
  · intro h0
    exact Classical.byContradiction fun hn => by have := h.pos hn; omega
theorem Can16.inj : ∀ {l m : List U64}, Can16 l → Can16 m → nv16 l = nv16 m → l = m
  | [], m, _, hm, h => ((hm.nil_iff).2 h.symm).symm
  | x :: r, [], hl, _, h => (hl.nil_iff).2 h
  | x :: r, y :: t, hl, hm, h => by
    obtain ⟨h1, h2, h3⟩ := hl
    obtain ⟨k1, k2, k3⟩ := hm
    have a1 : x.toNat < 65536 := h1
    have a2 : y.toNat < 65536 := k1
    simp only [nv16] at h
    have e1 : x.toNat = y.toNat := by omega
    have e2 : nv16 r = nv16 t := by omega
    rw [BitVec.eq_of_toNat_eq e1, Can16.inj h2 k2 e2]
theorem Can16.last : ∀ {l : List U64}, Can16 l → l ≠ [] → g64 l (l.length - 1) ≠ 0
  | [], _, h => absurd rfl h
  | x :: r, hc, _ => by
    obtain ⟨h1, h2, h3⟩ := hc
    cases r with
    | nil => exact h3 rfl
    | cons y t =>
      have ih := Can16.last h2 (by simp)
      have hg : g64 (x :: y :: t) ((x :: y :: t).length - 1) = g64 (y :: t) ((y :: t).length - 1) := rfl
      rw [hg]; exact ih
theorem can16_take : ∀ (l : List U64) (n : Nat), D16 l → n ≤ l.length → (n = 0 ∨ g64 l (n - 1) ≠ 0) → Can16 (l.take n)
  | l, 0, _, _, _ => by simp [Can16]
  | [], n + 1, _, h, _ => by simp at h
  | x :: r, n + 1, hd, h, hz => by
    have hz : g64 (x :: r) n ≠ 0 := by simpa using hz
    rw [List.take_succ_cons]
    refine ⟨hd.head, can16_take r n hd.tail (by simpa using h) ?_, fun he => ?_⟩
    · cases n with
      | zero => exact .inl rfl
      | succ n => exact .inr hz
    · have hn : n = 0 := by
        have h1 := congrArg List.length he
        rw [List.length_take, List.length_nil] at h1
        rw [List.length_cons] at h
        omega
      subst hn
      exact hz
theorem nv16_trim (l : List U64) (n : Nat) (h : ∀ j, n ≤ j → g64 l j = 0) (hn : n ≤ l.length) : nv16 (l.take n) = nv16 l := by
  rw [nv16_take_drop l n hn]
  have : ∀ k m, n ≤ m → l.length ≤ m + k → nv16 (l.drop m) = 0 := by
    intro k
    induction k with
    | zero => intro m hm hl; rw [List.drop_eq_nil_of_le (by omega)]; rfl
    | succ k ih => intro m hm hl; rw [nv16_drop, h m hm, ih (m + 1) (by omega) (by omega)]; rfl
  rw [this l.length n (Nat.le_refl _) (by omega)]
  simp

/-! ### Base 4294967296 -/
def nv32 : List U32 → Nat
  | [] => 0
  | x :: r => x.toNat + 4294967296 * nv32 r
/-- No nought at the end. -/
def Can32 : List U32 → Prop
  | [] => True
  | x :: r => Can32 r ∧ (r = [] → x ≠ 0)
theorem nv32_app : ∀ l m : List U32, nv32 (l ++ m) = nv32 l + 4294967296 ^ l.length * nv32 m
  | [], m => by simp [nv32]
  | x :: r, m => by
    simp only [List.cons_append, nv32, nv32_app r m, List.length_cons, Nat.pow_succ]
    rw [Nat.mul_add, ← Nat.mul_assoc, Nat.mul_comm 4294967296 (4294967296 ^ r.length)]
    omega
theorem nv32_one (x : U32) : nv32 [x] = x.toNat := by simp [nv32]
theorem nv32_zeros : ∀ n, nv32 (List.replicate n 0) = 0
  | 0 => rfl
  | n + 1 => by rw [List.replicate_succ, nv32, nv32_zeros n]; simp
theorem nv32_lt : ∀ l : List U32, nv32 l < 4294967296 ^ l.length
  | [] => by simp [nv32]
  | x :: r => by
    have h1 := nv32_lt r
    have h2 : x.toNat < 4294967296 := x.isLt
    simp only [nv32, List.length_cons, Nat.pow_succ]
    omega
theorem nv32_take_drop (l : List U32) (n : Nat) (h : n ≤ l.length) : nv32 l = nv32 (l.take n) + 4294967296 ^ n * nv32 (l.drop n) := by
  conv => lhs; rw [← List.take_append_drop n l, nv32_app, List.length_take, Nat.min_eq_left h]
theorem nv32_drop : ∀ (l : List U32) (n : Nat), nv32 (l.drop n) = (g32 l n).toNat + 4294967296 * nv32 (l.drop (n + 1))
  | [], n => by simp [nv32, g32]
  | x :: r, 0 => by simp [nv32, g32]
  | x :: r, n + 1 => by
    have := nv32_drop r n
    have hg : g32 (x :: r) (n + 1) = g32 r n := rfl
    simpa [hg] using this
theorem nv32_take_succ (l : List U32) (k : Nat) : nv32 (l.take (k + 1)) = nv32 (l.take k) + 4294967296 ^ k * (g32 l k).toNat := by
  rcases Nat.lt_or_ge k l.length with h | h
  · rw [List.take_succ_eq_append_getElem h, nv32_app, nv32_one, List.length_take, Nat.min_eq_left (by omega)]
    simp [g32, h]
  · rw [List.take_of_length_le h, List.take_of_length_le (by omega)]
    have : g32 l k = 0 := by simp [g32, List.getD_eq_getElem?_getD, h]
    rw [this]; simp
theorem g32_over32 {l : List U32} {i : Nat} (h : l.length ≤ i) : g32 l i = 0 := by simp [g32, List.getD_eq_getElem?_getD, h]
theorem nv32_set : ∀ (l : List U32) (j : Nat) (v : U32), j < l.length → nv32 (l.set j v) + 4294967296 ^ j * (g32 l j).toNat = nv32 l + 4294967296 ^ j * v.toNat
  | [], _, _, h => by simp at h
  | x :: r, 0, v, h => by simp [nv32, g32]; omega
  | x :: r, j + 1, v, h => by
    have ih := nv32_set r j v (by simpa using h)
    have hg : g32 (x :: r) (j + 1) = g32 r j := rfl
    simp only [List.set_cons_succ, nv32, hg, Nat.pow_succ]
    have h3 : 4294967296 * (nv32 (r.set j v) + 4294967296 ^ j * (g32 r j).toNat) = 4294967296 * (nv32 r + 4294967296 ^ j * v.toNat) := by rw [ih]
    rw [Nat.mul_add, Nat.mul_add, ← Nat.mul_assoc, ← Nat.mul_assoc] at h3
    rw [Nat.mul_comm (4294967296 ^ j) 4294967296]
    omega
theorem g32_set_ne32 {l : List U32} {i j : Nat} {v : U32} (h : i ≠ j) : g32 (l.set i v) j = g32 l j := by
  simp [g32, List.getD_eq_getElem?_getD, List.getElem?_set, h]
theorem g32_set_eq32 {l : List U32} {i : Nat} {v : U32} (h : i < l.length) : g32 (l.set i v) i = v := by
  simp [g32, List.getD_eq_getElem?_getD, List.getElem?_set, h]
theorem toNat_ne32 {x : U32} (h : x ≠ 0) : 0 < x.toNat := by
  rcases Nat.eq_zero_or_pos x.toNat with e | e
  · exact absurd (BitVec.eq_of_toNat_eq (by rw [e]; rfl)) h
  · exact e
theorem Can32.ge : ∀ {l : List U32}, Can32 l → l ≠ [] → 4294967296 ^ (l.length - 1) ≤ nv32 l
  | [], _, h => absurd rfl h
  | x :: r, hc, _ => by
    obtain ⟨h2, h3⟩ := hc
    cases r with
    | nil =>
      have := toNat_ne32 (h3 rfl)
      simp [nv32]
      omega
    | cons y t =>
      have ih := Can32.ge h2 (by simp)
      simp only [nv32, List.length_cons, Nat.add_sub_cancel] at ih ⊢
      rw [Nat.pow_succ]
      omega
theorem Can32.pos {l : List U32} (h : Can32 l) (hn : l ≠ []) : 0 < nv32 l := Nat.lt_of_lt_of_le (Nat.pow_pos (by decide)) (h.ge hn)
theorem Can32.nil_iff {l : List U32} (h : Can32 l) : l = [] ↔ nv32 l = 0 := by
  constructor
  · rintro rfl; rfl
  · intro h0
    exact Classical.byContradiction fun hn => by have := h.pos hn; omega
theorem Can32.inj : ∀ {l m : List U32}, Can32 l → Can32 m → nv32 l = nv32 m → l = m
  | [], m, _, hm, h => ((hm.nil_iff).2 h.symm).symm
  | x :: r, [], hl, _, h => (hl.nil_iff).2 h
  | x :: r, y :: t, hl, hm, h => by
    obtain ⟨h2, h3⟩ := hl
    obtain ⟨k2, k3⟩ := hm
    have a1 : x.toNat < 4294967296 := x.isLt
    have a2 : y.toNat < 4294967296 := y.isLt
    simp only [nv32] at h
    have e1 : x.toNat = y.toNat := by omega
    have e2 : nv32 r = nv32 t := by omega
    rw [BitVec.eq_of_toNat_eq e1, Can32.inj h2 k2 e2]
theorem Can32.last : ∀ {l : List U32}, Can32 l → l ≠ [] → g32 l (l.length - 1) ≠ 0
  | [], _, h => absurd rfl h
  | x :: r, hc, _ => by
    obtain ⟨h2, h3⟩ := hc
    cases r with
    | nil => exact h3 rfl
    | cons y t =>
      have ih := Can32.last h2 (by simp)
      have hg : g32 (x :: y :: t) ((x :: y :: t).length - 1) = g32 (y :: t) ((y :: t).length - 1) := rfl
      rw [hg]; exact ih
theorem can32_take : ∀ (l : List U32) (n : Nat), n ≤ l.length → (n = 0 ∨ g32 l (n - 1) ≠ 0) → Can32 (l.take n)
  | l, 0, _, _ => by simp [Can32]
  | [], n + 1, h, _ => by simp at h
  | x :: r, n + 1, h, hz => by
    have hz : g32 (x :: r) n ≠ 0 := by simpa using hz
    rw [List.take_succ_cons]
    refine ⟨can32_take r n (by simpa using h) ?_, fun he => ?_⟩
    · cases n with
      | zero => exact .inl rfl
      | succ n => exact .inr hz
    · have hn : n = 0 := by
        have h1 := congrArg List.length he
        rw [List.length_take, List.length_nil] at h1
        rw [List.length_cons] at h
        omega
      subst hn
      exact hz
theorem nv32_trim (l : List U32) (n : Nat) (h : ∀ j, n ≤ j → g32 l j = 0) (hn : n ≤ l.length) : nv32 (l.take n) = nv32 l := by
  rw [nv32_take_drop l n hn]
  have : ∀ k m, n ≤ m → l.length ≤ m + k → nv32 (l.drop m) = 0 := by
    intro k
    induction k with
    | zero => intro m hm hl; rw [List.drop_eq_nil_of_le (by omega)]; rfl
    | succ k ih => intro m hm hl; rw [nv32_drop, h m hm, ih (m + 1) (by omega) (by omega)]; rfl
  rw [this l.length n (Nat.le_refl _) (by omega)]
  simp

/-- Pairs of digits as words. -/
def lw : List U64 → List U32
  | [] => []
  | [x] => [x.setWidth 32]
  | x :: y :: r => (x + y * 65536#64).setWidth 32 :: lw r
theorem pair_nat {x y : U64} (hx : x.toNat < 65536) (hy : y.toNat < 65536) : ((x + y * 65536#64).setWidth 32).toNat = x.toNat + 65536 * y.toNat := by
  simp only [BitVec.toNat_setWidth, BitVec.toNat_add, BitVec.toNat_mul, BitVec.toNat_ofNat]
  omega
theorem one_nat {x : U64} (hx : x.toNat < 65536) : (x.setWidth 32).toNat = x.toNat := by
  simp only [BitVec.toNat_setWidth]
  omega
theorem lw_ok : ∀ l : List U64, Can16 l → Can32 (lw l) ∧ nv32 (lw l) = nv16 l ∧ (lw l = [] ↔ l = [])
  | [], _ => by simp [lw, Can32, nv32, nv16]
  | [x], h => by
    have e := one_nat h.1
    have hp := toNat_ne16 (h.2.2 rfl)
    refine ⟨⟨trivial, fun _ he => ?_⟩, ?_, by simp [lw]⟩
    · rw [he] at e; simp at e; omega
    · simp [lw, nv32, nv16, e]
  | x :: y :: r, h => by
    obtain ⟨h1, h2, h3⟩ := h
    obtain ⟨k1, k2, k3⟩ := h2
    obtain ⟨i1, i2, i3⟩ := lw_ok r k2
    have e := pair_nat h1 k1
    refine ⟨⟨i1, fun hn he => ?_⟩, ?_, by simp [lw]⟩
    · have hp := toNat_ne16 (k3 (i3.1 hn))
      rw [he] at e
      simp at e
      omega
    · simp only [lw, nv32, nv16, e, i2]
      omega
end Go.Proofs.Ytkpbjkhgiackpaa
