/- What is owed for each operation, told without a world: reckoning is told rightly. For any program. -/
import Derived.Test.YtjleiifcigojoaaVc
namespace Go.Proofs.Ytjleiifcigojoaa
open Go Go.RowKit
set_option linter.unusedVariables false
set_option linter.unusedSimpArgs false

theorem ofInt_i8 (x : U8) : BitVec.ofInt 8 (i8 x) = x := by simp [i8]
theorem ofInt_i32 (x : U32) : BitVec.ofInt 32 (i32 x) = x := by simp [i32]
theorem ofInt_i64 (x : U64) : BitVec.ofInt 64 (i64 x) = x := by simp [i64]
theorem wrap_i8 (n : Int) : IntKind.u8.wrap n = i8 (BitVec.ofInt 8 n) := by rw [IntKind.wrap_u8', i8, BitVec.toNat_ofInt]; simp; omega
theorem wrap_i32 (n : Int) : IntKind.u32.wrap n = i32 (BitVec.ofInt 32 n) := by rw [IntKind.wrap_u32', i32, BitVec.toNat_ofInt]; simp; omega
theorem wrap_i64 (n : Int) : IntKind.u64.wrap n = i64 (BitVec.ofInt 64 n) := by rw [IntKind.wrap_u64, i64, BitVec.toNat_ofInt]; simp; omega
theorem i8_wrap (x : U8) : IntKind.u8.wrap (i8 x) = i8 x := by rw [wrap_i8, ofInt_i8]
theorem i8_add (x y : U8) : IntKind.u8.wrap (i8 x + i8 y) = i8 (x + y) := by rw [wrap_i8, BitVec.ofInt_add, ofInt_i8, ofInt_i8]
theorem i8_sub (x y : U8) : IntKind.u8.wrap (i8 x - i8 y) = i8 (x - y) := by have h1 := x.isLt; have h2 := y.isLt; rw [IntKind.wrap_u8']; unfold i8; rw [BitVec.toNat_sub]; omega
theorem i32_sub (x y : U32) : IntKind.u32.wrap (i32 x - i32 y) = i32 (x - y) := by have h1 := x.isLt; have h2 := y.isLt; rw [IntKind.wrap_u32']; unfold i32; rw [BitVec.toNat_sub]; omega
theorem i64_sub (x y : U64) : IntKind.u64.wrap (i64 x - i64 y) = i64 (x - y) := by have h1 := x.isLt; have h2 := y.isLt; rw [IntKind.wrap_u64]; unfold i64; rw [BitVec.toNat_sub]; omega
theorem i8_mul (x y : U8) : IntKind.u8.wrap (i8 x * i8 y) = i8 (x * y) := by rw [wrap_i8, BitVec.ofInt_mul, ofInt_i8, ofInt_i8]
theorem i32_mul (x y : U32) : IntKind.u32.wrap (i32 x * i32 y) = i32 (x * y) := by rw [wrap_i32, BitVec.ofInt_mul, ofInt_i32, ofInt_i32]
theorem i64_mul (x y : U64) : IntKind.u64.wrap (i64 x * i64 y) = i64 (x * y) := by rw [wrap_i64, BitVec.ofInt_mul, ofInt_i64, ofInt_i64]
theorem i8_div (x y : U8) : IntKind.u8.wrap ((i8 x).tdiv (i8 y)) = i8 (x / y) := by
  rw [show (i8 x).tdiv (i8 y) = i8 (x / y) from by simp [i8, Int.ofNat_tdiv, BitVec.toNat_udiv], i8_wrap]
theorem i32_div (x y : U32) : IntKind.u32.wrap ((i32 x).tdiv (i32 y)) = i32 (x / y) := by
  rw [show (i32 x).tdiv (i32 y) = i32 (x / y) from by simp [i32, Int.ofNat_tdiv, BitVec.toNat_udiv], i32_wrap]
theorem i64_div (x y : U64) : IntKind.u64.wrap ((i64 x).tdiv (i64 y)) = i64 (x / y) := by
  rw [show (i64 x).tdiv (i64 y) = i64 (x / y) from by simp [i64, Int.ofNat_tdiv, BitVec.toNat_udiv], i64_wrap]
theorem i8_mod (x y : U8) : (i8 x).tmod (i8 y) = i8 (x % y) := by unfold i8; rw [BitVec.toNat_umod, Int.ofNat_tmod]
theorem i32_mod (x y : U32) : (i32 x).tmod (i32 y) = i32 (x % y) := by unfold i32; rw [BitVec.toNat_umod, Int.ofNat_tmod]
theorem i64_mod (x y : U64) : (i64 x).tmod (i64 y) = i64 (x % y) := by unfold i64; rw [BitVec.toNat_umod, Int.ofNat_tmod]
theorem i8_ne0 {y : U8} (h : y ≠ 0) : i8 y ≠ 0 := fun e => h (i8_inj.1 e)
theorem i32_ne0 {y : U32} (h : y ≠ 0) : i32 y ≠ 0 := fun e => h (i32_inj.1 e)
theorem i64_ne0 {y : U64} (h : y ≠ 0) : i64 y ≠ 0 := fun e => h (i64_inj.1 e)
theorem i8_shlA (x : U8) (n : Nat) : IntKind.u8.wrap (i8 x * 2 ^ (min n 8)) = i8 (x <<< n) := by
  rw [wrap_i8, BitVec.ofInt_mul, ofInt_i8]
  apply congrArg
  apply BitVec.eq_of_toNat_eq
  rw [cast_pow, BitVec.ofInt_natCast, BitVec.toNat_mul, BitVec.toNat_ofNat, BitVec.toNat_shiftLeft, Nat.shiftLeft_eq, Nat.mul_mod_mod]
  rcases Nat.le_total n 8 with h | h
  · rw [Nat.min_eq_left h]
  · rw [Nat.min_eq_right h, show n = 8 + (n - 8) by omega, Nat.pow_add]; simp [Nat.mul_mod_left, ← Nat.mul_assoc, Nat.mul_right_comm _ (2 ^ 8)]
theorem i32_shlA (x : U32) (n : Nat) : IntKind.u32.wrap (i32 x * 2 ^ (min n 32)) = i32 (x <<< n) := by
  rcases Nat.le_total n 32 with h | h
  · rw [Nat.min_eq_left h, i32_shl']
  · rw [Nat.min_eq_right h, i32_shl', BitVec.shiftLeft_eq_zero h, BitVec.shiftLeft_eq_zero (Nat.le_refl _)]
theorem i64_shlA (x : U64) (n : Nat) : IntKind.u64.wrap (i64 x * 2 ^ (min n 64)) = i64 (x <<< n) := by
  rcases Nat.le_total n 64 with h | h
  · rw [Nat.min_eq_left h, i64_shl']
  · rw [Nat.min_eq_right h, i64_shl', BitVec.shiftLeft_eq_zero h, BitVec.shiftLeft_eq_zero (Nat.le_refl _)]
theorem i8_shr' (x : U8) (n : Nat) : i8 x / 2 ^ n = i8 (x >>> n) := by
  unfold i8; rw [BitVec.toNat_ushiftRight, Nat.shiftRight_eq_div_pow, cast_pow, ← Int.natCast_ediv]
theorem i8_shrA (x : U8) (n : Nat) : i8 x / 2 ^ (min n 8) = i8 (x >>> n) := by
  rcases Nat.le_total n 8 with h | h
  · rw [Nat.min_eq_left h, i8_shr']
  · rw [Nat.min_eq_right h, i8_shr', BitVec.ushiftRight_eq_zero h, BitVec.ushiftRight_eq_zero (Nat.le_refl _)]
theorem i32_shrA (x : U32) (n : Nat) : i32 x / 2 ^ (min n 32) = i32 (x >>> n) := by
  rcases Nat.le_total n 32 with h | h
  · rw [Nat.min_eq_left h, i32_shr']
  · rw [Nat.min_eq_right h, i32_shr', BitVec.ushiftRight_eq_zero h, BitVec.ushiftRight_eq_zero (Nat.le_refl _)]
theorem i64_shrA (x : U64) (n : Nat) : i64 x / 2 ^ (min n 64) = i64 (x >>> n) := by
  rcases Nat.le_total n 64 with h | h
  · rw [Nat.min_eq_left h, i64_shr']
  · rw [Nat.min_eq_right h, i64_shr', BitVec.ushiftRight_eq_zero h, BitVec.ushiftRight_eq_zero (Nat.le_refl _)]
theorem bits8 (op : BinOp) (x y r : U8) (h : bits op .u8 (i8 x) (i8 y) = IntKind.u8.wrap (r.toNat : Int)) : bits op .u8 (i8 x) (i8 y) = i8 r := by rw [h]; exact i8_wrap r
theorem i8_and (x y : U8) : bits .and .u8 (i8 x) (i8 y) = i8 (x &&& y) := by
  show IntKind.u8.wrap ((BitVec.ofInt 8 (i8 x) &&& BitVec.ofInt 8 (i8 y)).toNat : Int) = _
  rw [ofInt_i8, ofInt_i8]; exact i8_wrap _
theorem i8_or (x y : U8) : bits .or .u8 (i8 x) (i8 y) = i8 (x ||| y) := by
  show IntKind.u8.wrap ((BitVec.ofInt 8 (i8 x) ||| BitVec.ofInt 8 (i8 y)).toNat : Int) = _
  rw [ofInt_i8, ofInt_i8]; exact i8_wrap _
theorem i8_xor (x y : U8) : bits .xor .u8 (i8 x) (i8 y) = i8 (x ^^^ y) := by
  show IntKind.u8.wrap ((BitVec.ofInt 8 (i8 x) ^^^ BitVec.ofInt 8 (i8 y)).toNat : Int) = _
  rw [ofInt_i8, ofInt_i8]; exact i8_wrap _
theorem i8_andNot (x y : U8) : bits .andNot .u8 (i8 x) (i8 y) = i8 (x &&& ~~~y) := by
  show IntKind.u8.wrap ((BitVec.ofInt 8 (i8 x) &&& ~~~BitVec.ofInt 8 (i8 y)).toNat : Int) = _
  rw [ofInt_i8, ofInt_i8]; exact i8_wrap _
theorem i32_andNot (x y : U32) : bits .andNot .u32 (i32 x) (i32 y) = i32 (x &&& ~~~y) := by
  show IntKind.u32.wrap ((BitVec.ofInt 32 (i32 x) &&& ~~~BitVec.ofInt 32 (i32 y)).toNat : Int) = _
  rw [ofInt_i32, ofInt_i32]; exact i32_wrap _
theorem i64_andNot (x y : U64) : bits .andNot .u64 (i64 x) (i64 y) = i64 (x &&& ~~~y) := by
  show IntKind.u64.wrap ((BitVec.ofInt 64 (i64 x) &&& ~~~BitVec.ofInt 64 (i64 y)).toNat : Int) = _
  rw [ofInt_i64, ofInt_i64]; exact i64_wrap _
theorem i8_notx (x : U8) : bits .xor .u8 IntKind.u8.max (i8 x) = i8 (~~~x) := by
  have e : IntKind.u8.max = i8 (BitVec.allOnes 8) := by decide
  rw [e, i8_xor, BitVec.allOnes_xor]
theorem i32_notx (x : U32) : bits .xor .u32 IntKind.u32.max (i32 x) = i32 (~~~x) := by
  have e : IntKind.u32.max = i32 (BitVec.allOnes 32) := by decide
  rw [e, i32_xor, BitVec.allOnes_xor]
theorem i64_notx (x : U64) : bits .xor .u64 IntKind.u64.max (i64 x) = i64 (~~~x) := by
  have e : IntKind.u64.max = i64 (BitVec.allOnes 64) := by decide
  rw [e, i64_xor, BitVec.allOnes_xor]
theorem beqI (x y : Int) : (x == y) = decide (x = y) := by by_cases h : x = y <;> simp [h]
theorem beqL {α : Type} [DecidableEq α] (x y : List α) : (x == y) = decide (x = y) := by by_cases h : x = y <;> simp [h]
theorem i8_lt (x y : U8) : (i8 x < i8 y) ↔ x.toNat < y.toNat := by unfold i8; omega
theorem i8_le (x y : U8) : (i8 x ≤ i8 y) ↔ x.toNat ≤ y.toNat := by unfold i8; omega
theorem i32_lt (x y : U32) : (i32 x < i32 y) ↔ x.toNat < y.toNat := by unfold i32; omega
theorem i32_le (x y : U32) : (i32 x ≤ i32 y) ↔ x.toNat ≤ y.toNat := by unfold i32; omega
theorem i64_lt (x y : U64) : (i64 x < i64 y) ↔ x.toNat < y.toNat := by unfold i64; omega
theorem i64_le (x y : U64) : (i64 x ≤ i64 y) ↔ x.toNat ≤ y.toNat := by unfold i64; omega
theorem strF_inj (a b : List U8) : strF a = strF b ↔ a = b := by
  constructor
  · intro h
    have h1 : (strF a).data.toList = (strF b).data.toList := by rw [h]
    unfold strF at h1
    rw [strOfNums_data, strOfNums_data, List.map_map, List.map_map] at h1
    refine (List.map_inj_right fun x y hxy => ?_).1 h1
    have := congrArg UInt8.toNat hxy
    have h1 := x.isLt
    have h2 := y.isLt
    simp [i8] at this
    apply BitVec.eq_of_toNat_eq
    omega
  · rintro rfl; rfl
theorem wrapI (n : Int) (h : intIn n) : IntKind.i64.wrap n = n := IntWalk.i64_in _ (by unfold intIn at h; omega)

section
variable {P : Program} {W : World}
def Reck (op : BinOp) (a b : AV) (v : AV) : Prop := ∀ (P : Program) (t : TypeId) (W : World), (binOp op t a.conc b.conc).run P W = .ok v.conc W
theorem bin8_ok {op : BinOp} {a b : U8} {K : AV → Prop} (h : bin8 op a b K) : ∃ v, v.good = true ∧ K v ∧ Reck op (.u8 a) (.u8 b) v := by
  cases op <;> simp only [bin8] at h <;> first
    | exact h.elim
    | (refine ⟨_, rfl, h, fun P t W => ?_⟩; (simp [AV.conc, binOp, Op.intArith, Op.intCmp, intBits_and, intBits_or, intBits_xor, intBits_andNot, i8_add, i8_sub, i8_mul, i8_and, i8_or, i8_xor, i8_andNot, i8_lt, i8_le, i8_inj, bne, beqI]); done)
    | (refine ⟨_, rfl, h.2, fun P t W => ?_⟩; (simp [AV.conc, binOp, Op.intDiv, i8_ne0 h.1, i8_div, i8_mod]); done)
    | (refine ⟨_, rfl, h, fun P t W => ?_⟩; (simp [AV.conc, binOp, shift_shl_any, shift_shr_any, i8_lo, IntKind.bits, i8_shlA, i8_shrA, show (i8 b).toNat = b.toNat from rfl]); done)
theorem bin32_ok {op : BinOp} {a b : U32} {K : AV → Prop} (h : bin32 op a b K) : ∃ v, v.good = true ∧ K v ∧ Reck op (.u32 a) (.u32 b) v := by
  cases op <;> simp only [bin32] at h <;> first
    | exact h.elim
    | (refine ⟨_, rfl, h, fun P t W => ?_⟩; (simp [AV.conc, binOp, Op.intArith, Op.intCmp, intBits_and, intBits_or, intBits_xor, intBits_andNot, i32_add, i32_sub, i32_mul, i32_and, i32_or, i32_xor, i32_andNot, i32_lt, i32_le, i32_inj, bne, beqI]); done)
    | (refine ⟨_, rfl, h.2, fun P t W => ?_⟩; (simp [AV.conc, binOp, Op.intDiv, i32_ne0 h.1, i32_div, i32_mod]); done)
    | (refine ⟨_, rfl, h, fun P t W => ?_⟩; (simp [AV.conc, binOp, shift_shl_any, shift_shr_any, i32_lo, IntKind.bits, i32_shlA, i32_shrA, show (i32 b).toNat = b.toNat from rfl]); done)
theorem bin64_ok {op : BinOp} {a b : U64} {K : AV → Prop} (h : bin64 op a b K) : ∃ v, v.good = true ∧ K v ∧ Reck op (.u64 a) (.u64 b) v := by
  cases op <;> simp only [bin64] at h <;> first
    | exact h.elim
    | (refine ⟨_, rfl, h, fun P t W => ?_⟩; (simp [AV.conc, binOp, Op.intArith, Op.intCmp, intBits_and, intBits_or, intBits_xor, intBits_andNot, i64_add, i64_sub, i64_mul, i64_and, i64_or, i64_xor, i64_andNot, i64_lt, i64_le, i64_inj, bne, beqI]); done)
    | (refine ⟨_, rfl, h.2, fun P t W => ?_⟩; (simp [AV.conc, binOp, Op.intDiv, i64_ne0 h.1, i64_div, i64_mod]); done)
    | (refine ⟨_, rfl, h, fun P t W => ?_⟩; (simp [AV.conc, binOp, shift_shl_any, shift_shr_any, i64_lo, IntKind.bits, i64_shlA, i64_shrA, show (i64 b).toNat = b.toNat from rfl]); done)
theorem binInt_ok {op : BinOp} {a b : Int} {K : AV → Prop} (hs : op ≠ .shl) (hs2 : op ≠ .shr) (h : binInt op a b K) : ∃ v, v.good = true ∧ K v ∧ Reck op (.int a) (.int b) v := by
  cases op <;> simp only [binInt] at h <;> first
    | exact h.elim
    | (refine ⟨_, rfl, h, fun P t W => ?_⟩; (simp [AV.conc, binOp, Op.intCmp, intBits_and, iand, bne, beqI]); done)
    | (refine ⟨_, rfl, h.2, fun P t W => ?_⟩; (simp [AV.conc, binOp, Op.intArith, wrapI _ h.1]); done)
    | (obtain ⟨⟨h0, h1, h2⟩, hK⟩ := h
       refine ⟨_, rfl, hK, fun P t W => ?_⟩
       have h3 : a / b ≤ a := Int.ediv_le_self _ h0
       have h4 : 0 ≤ a / b := Int.ediv_nonneg h0 (by omega)
       have h5 : b ≠ 0 := by omega
       simp [AV.conc, binOp, Op.intDiv, h5, Int.tdiv_eq_ediv_of_nonneg h0, wrapI (a / b) (by unfold intIn at *; omega)])
    | (obtain ⟨⟨h0, h1⟩, hK⟩ := h
       refine ⟨_, rfl, hK, fun P t W => ?_⟩
       have h5 : b ≠ 0 := by omega
       simp [AV.conc, binOp, Op.intDiv, h5, Int.tmod_eq_emod_of_nonneg h0])
theorem sh_ok {op : BinOp} {x : AV} {n : Nat} {K : AV → Prop} (h : shVC op x n K) : ∃ v, v.good = true ∧ K v ∧ ∀ (P : Program) (t : TypeId) (W : World) (yk : IntKind) (y : Int), 0 ≤ y → y.toNat = n → (binOp op t x.conc (.int yk y)).run P W = .ok v.conc W := by
  unfold shVC at h
  split at h <;> first
    | exact h.elim
    | (refine ⟨_, rfl, h, fun P t W yk y h0 hn => ?_⟩
       subst hn
       simp [AV.conc, binOp, shift_shl_any, shift_shr_any, h0, IntKind.bits, i8_shlA, i8_shrA, i32_shlA, i32_shrA, i64_shlA, i64_shrA]; done)
    | (obtain ⟨⟨h1, h2⟩, hK⟩ := h
       refine ⟨_, rfl, hK, fun P t W yk y h0 hn => ?_⟩
       subst hn
       simp [AV.conc, binOp, shift_shl_any, shift_shr_any, h0, IntKind.bits, Nat.min_eq_left h1, wrapI _ h2]; done)
    | (obtain ⟨⟨h1, h2⟩, hK⟩ := h
       refine ⟨_, rfl, hK, fun P t W yk y h0 hn => ?_⟩
       subst hn
       simp [AV.conc, binOp, shift_shl_any, shift_shr_any, h0, IntKind.bits, Nat.min_eq_left (show y.toNat ≤ 64 by omega)]; done)
theorem binVC_ok {op : BinOp} {x y : AV} {K : AV → Prop} (h : binVC op x y K) : ∃ v, v.good = true ∧ K v ∧ Reck op x y v ∧ ∀ (P : Program) (t : TypeId) (W : World) (p q : Operand), (eqGuard op t p q x.conc y.conc).run P W = .ok () W := by
  have hg : ∀ {k : IntKind} {n : Int} (v : Value), (∀ cs, v ≠ .agg cs) → v ≠ .nilIface → ∀ (P : Program) (t : TypeId) (W : World) (p q : Operand), (eqGuard op t p q v (.int k n)).run P W = .ok () W := by
    intro k n v h1 h2 P t W p q
    cases op <;> cases v <;> simp_all [eqGuard]
  unfold binVC at h
  split at h
  · obtain ⟨v, h1, h2, h3⟩ := bin8_ok h; exact ⟨v, h1, h2, h3, hg _ (by simp [AV.conc]) (by simp [AV.conc])⟩
  · obtain ⟨v, h1, h2, h3⟩ := bin32_ok h; exact ⟨v, h1, h2, h3, hg _ (by simp [AV.conc]) (by simp [AV.conc])⟩
  · obtain ⟨v, h1, h2, h3⟩ := bin64_ok h; exact ⟨v, h1, h2, h3, hg _ (by simp [AV.conc]) (by simp [AV.conc])⟩
  · rename_i a b
    split at h
    · obtain ⟨h0, h⟩ := h
      obtain ⟨v, h1, h2, h3⟩ := sh_ok h
      exact ⟨v, h1, h2, fun P t W => h3 P t W .i64 b h0 rfl, hg _ (by simp [AV.conc]) (by simp [AV.conc])⟩
    · obtain ⟨h0, h⟩ := h
      obtain ⟨v, h1, h2, h3⟩ := sh_ok h
      exact ⟨v, h1, h2, fun P t W => h3 P t W .i64 b h0 rfl, hg _ (by simp [AV.conc]) (by simp [AV.conc])⟩
    · rename_i hs1 hs2
      obtain ⟨v, h1, h2, h3⟩ := binInt_ok hs1 hs2 h
      exact ⟨v, h1, h2, h3, hg _ (by simp [AV.conc]) (by simp [AV.conc])⟩
  · rename_i a b
    have he : ∀ P t W p q, Sem.run P (eqGuard op t p q (AV.str a).conc (AV.str b).conc) W = .ok () W := fun P t W p q => by cases op <;> simp [eqGuard, AV.conc]
    have hd : ((strF a).toList == (strF b).toList) = decide (a = b) := by
      rw [beqL]
      apply decide_eq_decide.2
      rw [← strF_inj]
      constructor
      · intro h
        apply ByteArray.ext
        apply Array.toList_inj.1
        rw [← ByteArray.toList_eq, ← ByteArray.toList_eq, h]
      · intro h; rw [h]
    split at h
    · exact ⟨_, rfl, h, fun P t W => by simp [AV.conc, binOp, Op.stringOp, hd], he⟩
    · exact ⟨_, rfl, h, fun P t W => by simp [AV.conc, binOp, Op.stringOp, hd], he⟩
    · exact h.elim
  all_goals first
    | exact h.elim
    | (have hx : (∀ cs, x.conc ≠ .agg cs) ∧ x.conc ≠ .nilIface := by
         have h' := h
         (try replace h' := h'.2)
         unfold shVC at h'
         split at h' <;> first | exact h'.elim | simp [AV.conc]
       first
       | (obtain ⟨h0, h⟩ := h
          obtain ⟨v, h1, h2, h3⟩ := sh_ok h
          exact ⟨v, h1, h2, fun P t W => h3 P t W .i64 _ h0 rfl, hg _ hx.1 hx.2⟩)
       | (obtain ⟨v, h1, h2, h3⟩ := sh_ok h
          exact ⟨v, h1, h2, fun P t W => h3 P t W .u64 _ (i64_lo _) rfl, hg _ hx.1 hx.2⟩)
       | (obtain ⟨v, h1, h2, h3⟩ := sh_ok h
          exact ⟨v, h1, h2, fun P t W => h3 P t W .u32 _ (i32_lo _) rfl, hg _ hx.1 hx.2⟩)
       | (obtain ⟨v, h1, h2, h3⟩ := sh_ok h
          exact ⟨v, h1, h2, fun P t W => h3 P t W .u8 _ (i8_lo _) rfl, hg _ hx.1 hx.2⟩))
theorem binW_ok {op : BinOp} {x y : AV} {K : AV → Prop} (h : binW op x y K) : ∃ v, v.good = true ∧ K v ∧ Reck op x y v ∧ ∀ (P : Program) (t : TypeId) (W : World) (p q : Operand), (eqGuard op t p q x.conc y.conc).run P W = .ok () W := by
  unfold binW at h
  split at h
  · rename_i a b
    split at h
    · refine ⟨_, rfl, h, fun P t W => ?_, fun P t W p q => ?_⟩
      · simp [AV.conc, binOp, Op.intArith, iw]
      · simp [eqGuard, AV.conc]
    · refine ⟨_, rfl, h, fun P t W => ?_, fun P t W p q => ?_⟩
      · simp [AV.conc, binOp, Op.intArith, iw]
      · simp [eqGuard, AV.conc]
    · exact binVC_ok h
  · exact binVC_ok h
theorem binT_ok {w : Bool} {op : BinOp} {x y : AV} {K : AV → Prop} (h : binT w op x y K) : ∃ v, v.good = true ∧ K v ∧ Reck op x y v ∧ ∀ (P : Program) (t : TypeId) (W : World) (p q : Operand), (eqGuard op t p q x.conc y.conc).run P W = .ok () W := by
  cases w
  · exact binVC_ok h
  · exact binW_ok h
theorem iw_in {n : Int} (h : intIn n) : iw n = n := wrapI n h
theorem unVC_ok {op : UnOp} {x : AV} {K : AV → Prop} (h : unVC op x K) : ∃ v, v.good = true ∧ K v ∧ ∀ (P : Program) (W : World), (Op.unary op x.conc).run P W = .ok v.conc W := by
  unfold unVC at h
  split at h <;> first
    | exact h.elim
    | (refine ⟨_, rfl, h, fun P W => ?_⟩; (simp [AV.conc, Op.unary, IntKind.signed, intBits_xor, i8_notx, i32_notx, i64_notx]); done)
    | (refine ⟨_, rfl, h.2, fun P W => ?_⟩; (have := wrapI _ h.1; simp [AV.conc, Op.unary, Op.intArith] at *; exact this); done)
theorem cvVC_ok {k : IntKind} {x : AV} {K : AV → Prop} (h : cvVC k x K) : ∃ v, v.good = true ∧ K v ∧ ∃ k0 n, x.conc = .int k0 n ∧ v.conc = .int k (k.wrap n) := by
  unfold cvVC at h
  split at h <;> first
    | exact h.elim
    | (refine ⟨_, rfl, h, _, _, rfl, ?_⟩; simp [AV.conc, i8_wrap, i32_wrap, i64_wrap, i32_of8, i64_of8, i8_of32, i64_of32, i8_of64, i32_of64]; done)
    | (refine ⟨_, rfl, h, _, _, rfl, ?_⟩; simp [AV.conc, wrap_i8, wrap_i32, wrap_i64]; done)
    | (rename_i a; refine ⟨_, rfl, h, _, _, rfl, ?_⟩; (have h1 := a.isLt; simp only [AV.conc]; rw [wrapI _ (by unfold intIn i8; omega)]; rfl); done)
    | (rename_i a; refine ⟨_, rfl, h, _, _, rfl, ?_⟩; (have h1 := a.isLt; simp only [AV.conc]; rw [wrapI _ (by unfold intIn i32; omega)]; rfl); done)
    | (rename_i a; refine ⟨_, rfl, h.2, _, _, rfl, ?_⟩; (have h1 := h.1; simp only [AV.conc]; rw [wrapI _ (by unfold intIn i64; omega)]; rfl); done)
    | (rename_i n; refine ⟨_, rfl, h.2, _, _, rfl, ?_⟩; (simp only [AV.conc]; rw [wrapI _ h.1]); done)
end
end Go.Proofs.Ytjleiifcigojoaa
