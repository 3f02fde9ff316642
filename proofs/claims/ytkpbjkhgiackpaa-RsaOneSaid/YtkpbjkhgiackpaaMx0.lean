/- Numbers on both sides by the same contracts; powers, divisors and inverses, plain. -/
import Derived.Test.YtkpbjkhgiackpaaEng3
import Derived.Test.YtkpbjkhgiackpaaDv1
import Derived.Test.YtkpbjkhgiackpaaNy
import Derived.Test.YtkpbjkhgiackpaaBy1
import Derived.Test.YtkpbjkhgiackpaaN6r
namespace Go.Proofs.Ytkpbjkhgiackpaa
open Go Go.RowKit
set_option linter.unusedVariables false
set_option linter.unusedSimpArgs false

theorem can_len {r : List U32} (h : Can32 r) {n : Nat} (hv : nv32 r < 4294967296 ^ n) : r.length ≤ n := by
  by_cases hn : r = []
  · subst hn; exact Nat.zero_le _
  · have h1 := Nat.lt_of_le_of_lt (h.ge hn) hv
    have h2 := (Nat.pow_lt_pow_iff_right (by decide : 1 < 4294967296)).1 h1
    omega
theorem can_len_lt {r m : List U32} (h : Can32 r) (hv : nv32 r < nv32 m) : r.length ≤ m.length := can_len h (Nat.lt_trans hv (nv32_lt m))
theorem can_len_mod {r m : List U32} {v : Nat} (h : Can32 r) (hm : nv32 m ≠ 0) (hv : nv32 r = v % nv32 m) : r.length ≤ m.length := can_len_lt h (by rw [hv]; exact Nat.mod_lt _ (by omega))
theorem mul_lt_len (a b : List U32) : nv32 a * nv32 b < 4294967296 ^ (a.length + b.length) := by
  rw [Nat.pow_add]; exact Nat.mul_lt_mul'' (nv32_lt a) (nv32_lt b)
theorem add_lt_len (a b : List U32) : nv32 a + nv32 b < 4294967296 ^ (a.length + b.length + 1) := by
  have h1 := nv32_lt a
  have h2 := nv32_lt b
  have h3 : (4294967296 : Nat) ^ a.length ≤ 4294967296 ^ (a.length + b.length) := Nat.pow_le_pow_right (by decide) (by omega)
  have h4 : (4294967296 : Nat) ^ b.length ≤ 4294967296 ^ (a.length + b.length) := Nat.pow_le_pow_right (by decide) (by omega)
  rw [Nat.pow_succ]; omega

/-! ### Both sides by one contract -/
def cDivM : CT := fun cas K => match cas with
  | [.s (.c32 a), .s (.c32 b)] => (a.length ≤ 3000 ∧ b.length ≤ 3000) ∧ (nv32 b = 0 → K (.tup [.al (.c32 []), .al (.c32 []), .v (.int 1)])) ∧
    (nv32 b ≠ 0 → ∀ q r, Can32 q → Can32 r → nv32 q = nv32 a / nv32 b → nv32 r = nv32 a % nv32 b → q.length ≤ a.length → r.length ≤ b.length → K (.tup [.al (.c32 q), .al (.c32 r), .v (.int 0)]))
  | _ => False
def cMulU : CT := fun cas K => match cas with
  | [.s (.c32 a), .s (.c32 b)] => (a.length ≤ 5000 ∧ b.length ≤ 5000) ∧ ∀ e, Can32 e → nv32 e = nv32 a * nv32 b → e.length ≤ a.length + b.length → K (.one (.al (.c32 e)))
  | _ => False
def cAddU : CT := fun cas K => match cas with
  | [.s (.c32 a), .s (.c32 b)] => (a.length ≤ 10000 ∧ b.length ≤ 10000) ∧ ∀ e, Can32 e → nv32 e = nv32 a + nv32 b → e.length ≤ a.length + b.length + 1 → K (.one (.al (.c32 e)))
  | _ => False
def cCmpU : CT := fun cas K => match cas with
  | [.s (.c32 a), .s (.c32 b)] => (a.length ≤ 10000 ∧ b.length ≤ 10000) ∧ K (.one (.v (.int (sgn (nv32 a) (nv32 b)))))
  | _ => False
theorem sDivU : Sound Try.prog 70 cDivM := sDivN.weak fun cas K h => by
  unfold cDivM at h
  unfold cDivN
  split at h
  · obtain ⟨⟨ha, hb⟩, h0, h1⟩ := h
    refine ⟨⟨by omega, by omega⟩, fun h => wkK.tup (rs' := [_, _, _]) ⟨CR1.le_al _, CR1.le_al _, CR1.le_refl _, trivial⟩ (h0 h), fun hn hlt e he hev hel => wkK.tup (rs' := [_, _, _]) ⟨CR1.le_al _, CR1.le_al _, CR1.le_refl _, trivial⟩ (h1 hn [] e trivial he ?_ ?_ (Nat.zero_le _) ?_), fun hn hle q r hq hr hqv hrv _ _ => wkK.same (h1 hn q r hq hr hqv hrv ?_ ?_)⟩
    · rw [Nat.div_eq_of_lt hlt]; rfl
    · rw [hev, Nat.mod_eq_of_lt hlt]
    · exact can_len_lt he (by omega)
    · refine can_len hq (Nat.lt_of_le_of_lt ?_ (nv32_lt _))
      rw [hqv]; exact Nat.div_le_self _ _
    · exact can_len_mod hr hn hrv
  · exact h.elim
theorem sDivV : Sound Try.prog 81 cDivM := sDivR.weak fun cas K h => by
  unfold cDivM at h
  unfold cDivR
  split at h
  · obtain ⟨⟨ha, hb⟩, h0, h1⟩ := h
    refine ⟨⟨by omega, by omega⟩, fun h => wkK.tup (rs' := [_, _, _]) ⟨CR1.le_al _, CR1.le_al _, CR1.le_refl _, trivial⟩ (h0 h), fun hn q r hq hr hqv hrv _ _ => wkK.same (h1 hn q r hq hr hqv hrv ?_ ?_)⟩
    · refine can_len hq (Nat.lt_of_le_of_lt ?_ (nv32_lt _))
      rw [hqv]; exact Nat.div_le_self _ _
    · exact can_len_mod hr hn hrv
  · exact h.elim
theorem sMulU : Sound Try.prog 33 cMulU := sMulN.weak fun cas K h => by
  unfold cMulU at h
  unfold cMulN
  split at h
  · exact ⟨⟨by omega, by omega⟩, fun e he hev hel => wkK.same (h.2 e he hev hel)⟩
  · exact h.elim
theorem sMulV : Sound Try.prog 80 cMulU := sMulR.weak fun cas K h => by
  unfold cMulU at h
  unfold cMulR
  split at h
  · exact ⟨⟨by omega, by omega⟩, fun e he hev hel => wkK.same (h.2 e he hev (can_len he (by rw [hev]; exact mul_lt_len _ _)))⟩
  · exact h.elim
theorem sAddU : Sound Try.prog 32 cAddU := sAddN.weak fun cas K h => by
  unfold cAddU at h
  unfold cAddN
  split at h
  · exact ⟨⟨by omega, by omega⟩, fun e he hev hel => wkK.same (h.2 e he hev hel)⟩
  · exact h.elim
theorem sAddV : Sound Try.prog 98 cAddU := sAddR.weak fun cas K h => by
  unfold cAddU at h
  unfold cAddR
  split at h
  · exact ⟨⟨by omega, by omega⟩, fun e he hev hel => wkK.same (h.2 e he hev (can_len he (by rw [hev]; exact add_lt_len _ _)))⟩
  · exact h.elim
theorem sCmpU : Sound Try.prog 30 cCmpU := sCmpN.weak fun cas K h => by
  unfold cCmpU at h
  unfold cCmpN
  split at h
  · exact ⟨⟨by omega, by omega⟩, wkK.same h.2⟩
  · exact h.elim
theorem sCmpV : Sound Try.prog 66 cCmpU := sCmpR.weak fun cas K h => by
  unfold cCmpU at h
  unfold cCmp
  split at h
  · exact ⟨⟨by omega, by omega⟩, wkK.same h.2⟩
  · exact h.elim
/-- Told again from its bytes. -/
theorem nb_layL2 (v : Nat) : ∀ n, nb (layL v n) = v % 256 ^ n
  | 0 => by simp [layL, nb, Nat.mod_one]
  | n + 1 => by
    have e : v % (256 ^ n * 256) = v % 256 ^ n + 256 ^ n * (v / 256 ^ n % 256) := Nat.mod_mul
    have e2 : layL v (n + 1) = BitVec.ofNat 8 (v / 256 ^ n) :: layL v n := by
      unfold layL
      rw [List.range_succ_eq_map, List.map_cons, List.map_map]
      refine List.cons_eq_cons.2 ⟨by rw [Nat.add_sub_cancel, Nat.sub_zero], List.map_congr_left fun j _ => ?_⟩
      simp only [Function.comp]
      rw [show n + 1 - 1 - j.succ = n - 1 - j by omega]
    rw [e2, nb, nb_layL2 v n, layL_len, BitVec.toNat_ofNat, show (256 : Nat) ^ (n + 1) = 256 ^ n * 256 from rfl, e, Nat.mul_comm (256 ^ n)]
    show v / 256 ^ n % 256 * 256 ^ n + v % 256 ^ n = _
    omega
theorem blN_lt (v : Nat) : v < 2 ^ blN v := by
  unfold blN
  split
  · rename_i h; rw [h]; decide
  · exact Nat.lt_log2_self
theorem nb_lay_lg (a : List U32) : nb (layL (nv32 a) (lgN a)) = nv32 a := by
  rw [nb_layL2, Nat.mod_eq_of_lt]
  refine Nat.lt_of_lt_of_le (blN_lt _) ?_
  rw [show (256 : Nat) = 2 ^ 8 from rfl, ← Nat.pow_mul]
  exact Nat.pow_le_pow_right (by decide) (by unfold lgN; omega)

/-! ### Powers -/
theorem bit_val (a : List U32) (i : Nat) : bitF a (i : Int) = ((nv32 a / 2 ^ i % 2 : Nat) : Int) := by
  have key : (g32 a (i / 32)).toNat / 2 ^ (i % 32) % 2 = nv32 a / 2 ^ i % 2 := by
    have h : i % 32 < 32 := Nat.mod_lt _ (by decide)
    have e1 : (2 : Nat) ^ i = 4294967296 ^ (i / 32) * 2 ^ (i % 32) := by
      rw [show (4294967296 : Nat) = 2 ^ 32 from rfl, ← Nat.pow_mul, ← Nat.pow_add, Nat.div_add_mod]
    rw [g32_val, e1, ← Nat.div_div_eq_div_mul]
    obtain ⟨x, hx⟩ : ∃ x, nv32 a / 4294967296 ^ (i / 32) = x := ⟨_, rfl⟩
    rw [hx]
    obtain ⟨k, hk⟩ : ∃ k, 32 = i % 32 + 1 + k := ⟨31 - i % 32, by omega⟩
    have e2 : (4294967296 : Nat) = 2 ^ (i % 32) * (2 * 2 ^ k) := by
      rw [show (4294967296 : Nat) = 2 ^ 32 from rfl]
      conv => lhs; rw [hk]
      rw [Nat.pow_add, Nat.pow_succ, Nat.mul_assoc]
    rw [e2, Nat.mod_mul_right_div_self, Nat.mod_mul_right_mod]
  unfold bitF
  have e1 : ((i : Int) / 32).toNat = i / 32 := by omega
  have e2 : ((i : Int) % 32).toNat = i % 32 := by omega
  rw [if_neg (by omega), e1, e2, key]
  split
  · rename_i hle
    rw [← key, g32_over32 (by omega)]
    simp
  · rfl
theorem exp_lo {a n m i out pw : Nat} (ho : out = a ^ (n % 2 ^ i) % m) (hp : pw = a ^ 2 ^ i % m) :
    (n / 2 ^ i % 2 ≠ 0 → out * pw % m = a ^ (n % 2 ^ (i + 1)) % m) ∧ (n / 2 ^ i % 2 = 0 → out = a ^ (n % 2 ^ (i + 1)) % m) ∧ pw * pw % m = a ^ 2 ^ (i + 1) % m := by
  have e : n % 2 ^ (i + 1) = n % 2 ^ i + 2 ^ i * (n / 2 ^ i % 2) := Nat.mod_pow_succ
  refine ⟨fun h => ?_, fun h => ?_, ?_⟩
  · rw [e, show n / 2 ^ i % 2 = 1 by omega, Nat.mul_one, Nat.pow_add, ho, hp, ← Nat.mul_mod]
  · rw [e, h, Nat.mul_zero, Nat.add_zero, ho]
  · rw [hp, ← Nat.mul_mod, ← Nat.pow_add, Nat.pow_succ 2 i, Nat.mul_two]
theorem exp_lo_end {a n m out : Nat} (ho : out = a ^ (n % 2 ^ blN n) % m) : out = a ^ n % m := by
  rw [ho, Nat.mod_eq_of_lt (blN_lt n)]
theorem exp_hi {a n m j out : Nat} (ho : out = a ^ (n / 2 ^ (j + 1)) % m) :
    (n / 2 ^ j % 2 = 1 → (out * out % m) * a % m = a ^ (n / 2 ^ j) % m) ∧ (n / 2 ^ j % 2 ≠ 1 → out * out % m = a ^ (n / 2 ^ j) % m) := by
  have e : n / 2 ^ (j + 1) = n / 2 ^ j / 2 := by rw [Nat.pow_succ, Nat.div_div_eq_div_mul]
  have e2 : out * out % m = a ^ (2 * (n / 2 ^ j / 2)) % m := by
    rw [ho, e, ← Nat.mul_mod, ← Nat.pow_add, Nat.two_mul]
  refine ⟨fun h => ?_, fun h => ?_⟩
  · have e3 : n / 2 ^ j = 2 * (n / 2 ^ j / 2) + 1 := by omega
    conv => rhs; rw [e3, Nat.pow_succ]
    rw [e2, Nat.mod_mul_mod]
  · have e3 : n / 2 ^ j = 2 * (n / 2 ^ j / 2) := by omega
    conv => rhs; rw [e3]
    exact e2
theorem exp_hi_start {a n m out : Nat} (ho : out = 1 % m) : out = a ^ (n / 2 ^ blN n) % m := by
  rw [Nat.div_eq_of_lt (blN_lt n), Nat.pow_zero, ho]

/-! ### Inverses -/
theorem inv_step {a m old now x y q k d e : Int} (h1 : m ∣ a * x - old) (h2 : m ∣ a * y - now) (hd : d = x - (q * y - m * k) + e * m) : m ∣ a * d - (old - q * now) := by
  obtain ⟨u, hu⟩ := h1
  obtain ⟨v, hv⟩ := h2
  refine ⟨u - q * v + a * k + a * e, ?_⟩
  subst hd
  grind
/-- The state of the search. -/
structure InvI (a m old now x y : Nat) : Prop where
  g : Nat.gcd old now = Nat.gcd a m
  hx : x < m
  hy : y < m ∨ now = 0
  cx : (m : Int) ∣ (a : Int) * x - old
  cy : (m : Int) ∣ (a : Int) * y - now
  on : old ≤ m ∧ now ≤ m
theorem inv_start {a m r : Nat} (hm : m ≠ 0) (hr : r = a % m) : InvI a m m r 0 1 where
  g := by rw [hr, Nat.gcd_comm m, Nat.gcd_comm a, Nat.gcd_rec m a]
  hx := by omega
  hy := by
    by_cases h : m = 1
    · right; rw [hr, h, Nat.mod_one]
    · left; omega
  cx := ⟨-1, by simp⟩
  cy := ⟨(a / m : Nat), by rw [hr]; have := Nat.div_add_mod a m; rw [show ((1 : Nat) : Int) = 1 from rfl, Int.mul_one, ← Int.natCast_mul]; omega⟩
  on := ⟨Nat.le_refl _, by rw [hr]; exact Nat.le_of_lt (Nat.mod_lt _ (by omega))⟩
theorem inv_next {a m old now x y st d : Nat} (h : InvI a m old now x y) (hn : 0 < now) (hst : st = old / now * y % m) (hd : d = if x < st then x + m - st else x - st) : InvI a m now (old % now) y d := by
  have hm : 0 < m := Nat.lt_of_le_of_lt (Nat.zero_le _) h.hx
  have hsl : st < m := by rw [hst]; exact Nat.mod_lt _ hm
  have hxm := h.hx
  have hdm : d < m := by rw [hd]; split <;> omega
  refine ⟨?_, h.hy.resolve_right (by omega), .inl hdm, h.cy, ?_, h.on.2, by have := Nat.mod_lt old hn; have := h.on; omega⟩
  · rw [Nat.gcd_comm, ← Nat.gcd_rec, Nat.gcd_comm]; exact h.g
  · have e1 : ((old % now : Nat) : Int) = (old : Int) - ((old / now : Nat) : Int) * (now : Int) := by
      have := Nat.div_add_mod old now
      rw [Nat.mul_comm] at this
      rw [← Int.natCast_mul]; omega
    rw [e1]
    refine inv_step (k := ((old / now * y / m : Nat) : Int)) (e := if x < st then 1 else 0) h.cx h.cy ?_
    have e2 : ((st : Nat) : Int) = ((old / now : Nat) : Int) * (y : Int) - (m : Int) * ((old / now * y / m : Nat) : Int) := by
      have := Nat.div_add_mod (old / now * y) m
      rw [← Int.natCast_mul, ← Int.natCast_mul, hst]; omega
    rw [← e2, hd]
    split <;> omega
theorem inv_end {a m old x y : Nat} (h : InvI a m old 0 x y) : old = Nat.gcd a m ∧ (Nat.gcd a m = 1 → a * x % m = 1 % m) := by
  have e : old = Nat.gcd a m := by have := h.g; rwa [Nat.gcd_zero_right] at this
  refine ⟨e, fun h1 => ?_⟩
  have hc := h.cx
  rw [e, h1] at hc
  have h2 := (Int.emod_eq_emod_iff_emod_sub_eq_zero (m := (a : Int) * x) (n := (m : Int)) (k := 1)).2 (Int.emod_eq_zero_of_dvd hc)
  rw [← Int.natCast_mul] at h2
  have h3 : ((a * x % m : Nat) : Int) = ((1 % m : Nat) : Int) := h2
  exact Int.ofNat_inj.1 h3
end Go.Proofs.Ytkpbjkhgiackpaa
