/- Words of this seat's walks: whole numbers of 8, 32 and 64 bits as bit vectors; blocks of cells of the call's own; arrays. For any program. -/
import Derived.WalkKit
import Derived.WalkLawsBesides
import Derived.WalkSpells
import Derived.Lib.Hide
import Derived.Deep.RegionHeld3
import Derived.Deep.QuietTactic
import Derived.BigQuiet
import Derived.Maps.AppendAt
import Derived.Laws.CopyOwn
import Derived.Test.YtjleiifcigojoaaReg
namespace Go.Proofs.Ytjleiifcigojoaa
open Go.RowKit

/-! ### Numbers as bit vectors -/
abbrev U8 := BitVec 8
abbrev U32 := BitVec 32
abbrev U64 := BitVec 64
def i8 (x : U8) : Int := x.toNat
def i32 (x : U32) : Int := x.toNat
def i64 (x : U64) : Int := x.toNat
theorem i8_lo (x : U8) : 0 ≤ i8 x := Int.natCast_nonneg _
theorem i8_hi (x : U8) : i8 x < 256 := by have := x.isLt; unfold i8; omega
theorem i32_lo (x : U32) : 0 ≤ i32 x := Int.natCast_nonneg _
theorem i32_hi (x : U32) : i32 x < 4294967296 := by have := x.isLt; unfold i32; omega
theorem i64_lo (x : U64) : 0 ≤ i64 x := Int.natCast_nonneg _
theorem i64_hi (x : U64) : i64 x < 18446744073709551616 := by have := x.isLt; unfold i64; omega
theorem cast_pow (n : Nat) : ((2 : Int) ^ n) = ((2 ^ n : Nat) : Int) := by rw [Int.natCast_pow]; rfl
theorem i8_inj {x y : U8} : i8 x = i8 y ↔ x = y := by unfold i8; rw [Int.ofNat_inj]; exact BitVec.toNat_inj
theorem i32_inj {x y : U32} : i32 x = i32 y ↔ x = y := by unfold i32; rw [Int.ofNat_inj]; exact BitVec.toNat_inj
theorem i64_inj {x y : U64} : i64 x = i64 y ↔ x = y := by unfold i64; rw [Int.ofNat_inj]; exact BitVec.toNat_inj
theorem i32_or (x y : U32) : bits .or .u32 (i32 x) (i32 y) = i32 (x ||| y) := by
  unfold i32; rw [u32_or_nat _ _ x.isLt y.isLt]; simp
theorem i32_and (x y : U32) : bits .and .u32 (i32 x) (i32 y) = i32 (x &&& y) := by
  unfold i32; rw [u32_and_nat _ _ x.isLt y.isLt]; simp
theorem i32_xor (x y : U32) : bits .xor .u32 (i32 x) (i32 y) = i32 (x ^^^ y) := by
  unfold i32; rw [u32_xor_nat _ _ x.isLt y.isLt]; simp
theorem i64_or (x y : U64) : bits .or .u64 (i64 x) (i64 y) = i64 (x ||| y) := by
  unfold i64; rw [u64_or_nat _ _ x.isLt y.isLt]; simp
theorem i64_and (x y : U64) : bits .and .u64 (i64 x) (i64 y) = i64 (x &&& y) := by
  unfold i64; rw [u64_and_nat _ _ x.isLt y.isLt]; simp
theorem i64_xor (x y : U64) : bits .xor .u64 (i64 x) (i64 y) = i64 (x ^^^ y) := by
  unfold i64; rw [u64_xor_nat _ _ x.isLt y.isLt]; simp
theorem i32_wrap (x : U32) : IntKind.u32.wrap (i32 x) = i32 x := by
  rw [IntKind.wrap_u32']; exact Int.emod_eq_of_lt (i32_lo x) (i32_hi x)
theorem i64_wrap (x : U64) : IntKind.u64.wrap (i64 x) = i64 x := by
  rw [IntKind.wrap_u64]; exact Int.emod_eq_of_lt (i64_lo x) (i64_hi x)
theorem i32_add (x y : U32) : IntKind.u32.wrap (i32 x + i32 y) = i32 (x + y) := by
  unfold i32; rw [IntKind.wrap_u32', BitVec.toNat_add, ← Int.natCast_add]
  exact (Int.natCast_emod _ 4294967296).symm
theorem i64_add (x y : U64) : IntKind.u64.wrap (i64 x + i64 y) = i64 (x + y) := by
  unfold i64; rw [IntKind.wrap_u64, BitVec.toNat_add, ← Int.natCast_add]
  exact (Int.natCast_emod _ 18446744073709551616).symm
theorem i32_shl' (x : U32) (n : Nat) : IntKind.u32.wrap (i32 x * 2 ^ n) = i32 (x <<< n) := by
  unfold i32; rw [IntKind.wrap_u32', BitVec.toNat_shiftLeft, Nat.shiftLeft_eq, cast_pow, ← Int.natCast_mul]
  exact (Int.natCast_emod _ 4294967296).symm
theorem i32_shr' (x : U32) (n : Nat) : i32 x / 2 ^ n = i32 (x >>> n) := by
  unfold i32; rw [BitVec.toNat_ushiftRight, Nat.shiftRight_eq_div_pow, cast_pow, ← Int.natCast_ediv]
theorem i64_shl' (x : U64) (n : Nat) : IntKind.u64.wrap (i64 x * 2 ^ n) = i64 (x <<< n) := by
  unfold i64; rw [IntKind.wrap_u64, BitVec.toNat_shiftLeft, Nat.shiftLeft_eq, cast_pow, ← Int.natCast_mul]
  exact (Int.natCast_emod _ 18446744073709551616).symm
theorem i64_shr' (x : U64) (n : Nat) : i64 x / 2 ^ n = i64 (x >>> n) := by
  unfold i64; rw [BitVec.toNat_ushiftRight, Nat.shiftRight_eq_div_pow, cast_pow, ← Int.natCast_ediv]
theorem i32_of8 (x : U8) : IntKind.u32.wrap (i8 x) = i32 (x.setWidth 32) := by
  rw [IntKind.wrap_u32', Int.emod_eq_of_lt (i8_lo x) (by have := i8_hi x; omega)]
  have := x.isLt
  simp only [i8, i32, BitVec.toNat_setWidth]; omega
theorem i64_of8 (x : U8) : IntKind.u64.wrap (i8 x) = i64 (x.setWidth 64) := by
  rw [IntKind.wrap_u64, Int.emod_eq_of_lt (i8_lo x) (by have := i8_hi x; omega)]
  have := x.isLt
  simp only [i8, i64, BitVec.toNat_setWidth]; omega
theorem i64_of32 (x : U32) : IntKind.u64.wrap (i32 x) = i64 (x.setWidth 64) := by
  rw [IntKind.wrap_u64, Int.emod_eq_of_lt (i32_lo x) (by have := i32_hi x; omega)]
  have := x.isLt
  simp only [i32, i64, BitVec.toNat_setWidth]; omega
theorem i8_of32 (x : U32) : IntKind.u8.wrap (i32 x) = i8 (x.setWidth 8) := by
  rw [IntKind.wrap_u8']
  simp only [i32, i8, BitVec.toNat_setWidth]
  exact (Int.natCast_emod _ 256).symm
theorem i8_of64 (x : U64) : IntKind.u8.wrap (i64 x) = i8 (x.setWidth 8) := by
  rw [IntKind.wrap_u8']
  simp only [i64, i8, BitVec.toNat_setWidth]
  exact (Int.natCast_emod _ 256).symm
theorem i32_of64 (x : U64) : IntKind.u32.wrap (i64 x) = i32 (x.setWidth 32) := by
  rw [IntKind.wrap_u32']
  simp only [i64, i32, BitVec.toNat_setWidth]
  exact (Int.natCast_emod _ 4294967296).symm
theorem i32_shl (x : U32) (yk : IntKind) (m : Int) (h0 : 0 ≤ m) (h1 : m ≤ 32) : Op.shift .shl .u32 (i32 x) yk m = pure (.int .u32 (i32 (x <<< m.toNat))) := by
  rw [shift_shl _ _ _ _ h0 (by simpa [IntKind.bits] using h1), i32_shl']
theorem i32_shr (x : U32) (yk : IntKind) (m : Int) (h0 : 0 ≤ m) (h1 : m ≤ 32) : Op.shift .shr .u32 (i32 x) yk m = pure (.int .u32 (i32 (x >>> m.toNat))) := by
  rw [shift_shr _ _ _ _ h0 (by simpa [IntKind.bits] using h1), i32_shr']
theorem i64_shl (x : U64) (yk : IntKind) (m : Int) (h0 : 0 ≤ m) (h1 : m ≤ 64) : Op.shift .shl .u64 (i64 x) yk m = pure (.int .u64 (i64 (x <<< m.toNat))) := by
  rw [shift_shl _ _ _ _ h0 (by simpa [IntKind.bits] using h1), i64_shl']
theorem i64_shr (x : U64) (yk : IntKind) (m : Int) (h0 : 0 ≤ m) (h1 : m ≤ 64) : Op.shift .shr .u64 (i64 x) yk m = pure (.int .u64 (i64 (x >>> m.toNat))) := by
  rw [shift_shr _ _ _ _ h0 (by simpa [IntKind.bits] using h1), i64_shr']
theorem i32_shlm (x : U32) (n : Nat) : i32 x * 2 ^ n % 4294967296 = i32 (x <<< n) := by rw [← i32_shl', IntKind.wrap_u32']
theorem i64_shlm (x : U64) (n : Nat) : i64 x * 2 ^ n % 18446744073709551616 = i64 (x <<< n) := by rw [← i64_shl', IntKind.wrap_u64]
theorem i32_not (x : U32) : IntKind.u32.wrap (-1 - i32 x) = i32 (~~~x) := by
  have := x.isLt
  unfold i32; rw [IntKind.wrap_u32', BitVec.toNat_not]; omega
theorem i64_not (x : U64) : IntKind.u64.wrap (-1 - i64 x) = i64 (~~~x) := by
  have := x.isLt
  unfold i64; rw [IntKind.wrap_u64, BitVec.toNat_not]; omega

/-! ### Rows of numbers -/
def v8 (x : U8) : Value := .int .u8 (i8 x)
def v32 (x : U32) : Value := .int .u32 (i32 x)
def v64 (x : U64) : Value := .int .u64 (i64 x)
def cs8 (xs : List U8) : Array Value := (xs.map v8).toArray
def cs32 (xs : List U32) : Array Value := (xs.map v32).toArray
def cs64 (xs : List U64) : Array Value := (xs.map v64).toArray
def z8 (n : Nat) : List U8 := List.replicate n 0
def z32 (n : Nat) : List U32 := List.replicate n 0
def z64 (n : Nat) : List U64 := List.replicate n 0
def g8 (xs : List U8) (i : Nat) : U8 := xs.getD i 0
def g32 (xs : List U32) (i : Nat) : U32 := xs.getD i 0
def g64 (xs : List U64) (i : Nat) : U64 := xs.getD i 0
theorem cs8_size (xs : List U8) : (cs8 xs).size = xs.length := by simp [cs8]
theorem cs32_size (xs : List U32) : (cs32 xs).size = xs.length := by simp [cs32]
theorem cs64_size (xs : List U64) : (cs64 xs).size = xs.length := by simp [cs64]
theorem z8_length (n : Nat) : (z8 n).length = n := by simp [z8]
theorem z32_length (n : Nat) : (z32 n).length = n := by simp [z32]
theorem z64_length (n : Nat) : (z64 n).length = n := by simp [z64]
theorem cs8_one (xs : List U8) : (cs8 xs).all (·.oneCell') = true := by simp [cs8, v8, Value.oneCell']
theorem cs32_one (xs : List U32) : (cs32 xs).all (·.oneCell') = true := by simp [cs32, v32, Value.oneCell']
theorem cs64_one (xs : List U64) : (cs64 xs).all (·.oneCell') = true := by simp [cs64, v64, Value.oneCell']
theorem cs8_get (xs : List U8) (i : Nat) (h : i < xs.length) : (cs8 xs)[i]? = some (.int .u8 (i8 (g8 xs i))) := by simp [cs8, g8, h, v8]
theorem cs32_get (xs : List U32) (i : Nat) (h : i < xs.length) : (cs32 xs)[i]? = some (.int .u32 (i32 (g32 xs i))) := by simp [cs32, g32, h, v32]
theorem cs64_get (xs : List U64) (i : Nat) (h : i < xs.length) : (cs64 xs)[i]? = some (.int .u64 (i64 (g64 xs i))) := by simp [cs64, g64, h, v64]
theorem cs8_set (xs : List U8) (i : Nat) (x : U8) : (cs8 xs).setIfInBounds i (.int .u8 (i8 x)) = cs8 (xs.set i x) := by simp [cs8, List.map_set, v8]
theorem cs32_set (xs : List U32) (i : Nat) (x : U32) : (cs32 xs).setIfInBounds i (.int .u32 (i32 x)) = cs32 (xs.set i x) := by simp [cs32, List.map_set, v32]
theorem cs64_set (xs : List U64) (i : Nat) (x : U64) : (cs64 xs).setIfInBounds i (.int .u64 (i64 x)) = cs64 (xs.set i x) := by simp [cs64, List.map_set, v64]

theorem v8_shr64 (M : U64) (n : Nat) : v8 ((M >>> n).setWidth 8) = .int .u8 (i64 M / 2 ^ n % 256) := by
  rw [i64_shr', ← IntKind.wrap_u8', i8_of64]; rfl
theorem v8_shr32 (M : U32) (n : Nat) : v8 ((M >>> n).setWidth 8) = .int .u8 (i32 M / 2 ^ n % 256) := by
  rw [i32_shr', ← IntKind.wrap_u8', i8_of32]; rfl
/-! ### Blocks of the call's own -/
def Own (W : World) (g : Nat) (t : TypeId) (cs : Array Value) : Prop := W.heap[g]? = some (.cells cs t (0, 0))
section
variable {W W' : World} {g g' : Nat} {t : TypeId} {cs : Array Value}
theorem Own.lt (h : Own W g t cs) : g < W.heap.size := (Array.getElem?_eq_some_iff.1 h).1
theorem Own.cell (h : Own W g t cs) (i : Nat) : W.cell? ⟨g, i, none⟩ = cs[i]? := cell_of_row W g i cs t _ h
theorem Own.frozen (h : Own W g t cs) (i : Nat) : W.frozen? ⟨g, i, none⟩ = false := frozen_of_row W g i cs t h
theorem Own.alloc (h : Own W g t cs) (o : Obj) : Own (W.alloc o) g t cs := (Below.heap_alloc W o g h.lt).trans h
theorem Own.new (W : World) (t : TypeId) (cs : Array Value) : Own (W.alloc (.cells cs t)) W.heap.size t cs := Go.heap_alloc_new W _
theorem Own.new' {W : World} {t : TypeId} {cs : Array Value} {g : Nat} (h : g = W.heap.size) : Own (W.alloc (.cells cs t)) g t cs := by subst h; exact Own.new W t cs
theorem Own.newc {W : World} {t : TypeId} {cs cs' : Array Value} {g : Nat} (h : g = W.heap.size) (hc : cs' = cs) : Own (W.alloc (.cells cs' t)) g t cs := by subst h; subst hc; exact Own.new W t cs'
theorem Own.set (h : Own W g t cs) (i : Nat) (v : Value) : Own (W.setCell ⟨g, i, none⟩ v) g t (cs.setIfInBounds i v) := heap_setCell_same W g i cs t v h
theorem Own.set_ne (h : Own W g t cs) (hne : g ≠ g') (i : Nat) (v : Value) : Own (W.setCell ⟨g', i, none⟩ v) g t cs := (Below.heap_setCell W _ v g (by simpa using hne)).trans h
theorem Own.row (h : Own W g t cs) (cs' : Array Value) : Own (W.setRow g cs') g t cs' := setRow_heap W g cs cs' t _ h
theorem Own.row_ne (h : Own W g t cs) (hne : g ≠ g') (cs' : Array Value) : Own (W.setRow g' cs') g t cs := (setRow_other W g' g cs' hne).trans h
theorem Own.below (h : Own W g t cs) (hb : Below W.heap.size W W') : Own W' g t cs := (hb.block g h.lt).trans h
theorem Own.drewN (h : Own W g t cs) (n : Nat) : Own (W.drewN n) g t cs := h
theorem Own.drew (h : Own W g t cs) : Own W.drew g t cs := h
theorem Own.cell32 {xs : List U32} (h : Own W g t (cs32 xs)) (i : Nat) (hi : i < xs.length) : W.cell? ⟨g, i, none⟩ = some (.int .u32 (i32 (g32 xs i))) := by rw [h.cell, cs32_get _ _ hi]
theorem Own.cell64 {xs : List U64} (h : Own W g t (cs64 xs)) (i : Nat) (hi : i < xs.length) : W.cell? ⟨g, i, none⟩ = some (.int .u64 (i64 (g64 xs i))) := by rw [h.cell, cs64_get _ _ hi]
theorem Own.cell8 {xs : List U8} (h : Own W g t (cs8 xs)) (i : Nat) (hi : i < xs.length) : W.cell? ⟨g, i, none⟩ = some (.int .u8 (i8 (g8 xs i))) := by rw [h.cell, cs8_get _ _ hi]
theorem Own.set32 {xs : List U32} (h : Own W g t (cs32 xs)) (i : Nat) (x : U32) : Own (W.setCell ⟨g, i, none⟩ (.int .u32 (i32 x))) g t (cs32 (xs.set i x)) := by have := h.set i (.int .u32 (i32 x)); rwa [cs32_set] at this
theorem Own.set64 {xs : List U64} (h : Own W g t (cs64 xs)) (i : Nat) (x : U64) : Own (W.setCell ⟨g, i, none⟩ (.int .u64 (i64 x))) g t (cs64 (xs.set i x)) := by have := h.set i (.int .u64 (i64 x)); rwa [cs64_set] at this
theorem Own.set8 {xs : List U8} (h : Own W g t (cs8 xs)) (i : Nat) (x : U8) : Own (W.setCell ⟨g, i, none⟩ (.int .u8 (i8 x))) g t (cs8 (xs.set i x)) := by have := h.set i (.int .u8 (i8 x)); rwa [cs8_set] at this
end
/-- A block of cells, whatever it holds. -/
def Has (W : World) (g : Nat) (t : TypeId) : Prop := ∃ cs, Own W g t cs
theorem Own.has {W : World} {g : Nat} {t : TypeId} {cs : Array Value} (h : Own W g t cs) : Has W g t := ⟨cs, h⟩
theorem Has.newc {W : World} {t : TypeId} {cs : Array Value} {g : Nat} (h : g = W.heap.size) : Has (W.alloc (.cells cs t)) g t := ⟨cs, Own.new' h⟩
theorem Has.alloc {W : World} {g : Nat} {t : TypeId} (h : Has W g t) (o : Obj) : Has (W.alloc o) g t := h.elim fun _ h => (h.alloc o).has
theorem Has.row_ne {W : World} {g g' : Nat} {t : TypeId} (h : Has W g t) (hne : g ≠ g') (cs' : Array Value) : Has (W.setRow g' cs') g t := h.elim fun _ h => (h.row_ne hne cs').has
theorem Has.set_ne {W : World} {g g' : Nat} {t : TypeId} (h : Has W g t) (hne : g ≠ g') (i : Nat) (v : Value) : Has (W.setCell ⟨g', i, none⟩ v) g t := h.elim fun _ h => (h.set_ne hne i v).has
theorem Has.row {W : World} {g : Nat} {t : TypeId} (h : Has W g t) (cs' : Array Value) : Own (W.setRow g cs') g t cs' := h.elim fun _ h => h.row cs'
theorem Own.set8' {W : World} {g : Nat} {t : TypeId} {xs : List U8} (h : Own W g t (cs8 xs)) (i : Nat) (x : U8) {u : Value} (hu : v8 x = u) : Own (W.setCell ⟨g, i, none⟩ u) g t (cs8 (xs.set i x)) := by subst hu; exact h.set8 i x
theorem below_drewN {B : Nat} {w W : World} (h : Below B w W) (n : Nat) : Below B w (W.drewN n) := ⟨h.os, h.tape, h.output, h.size, h.block⟩
theorem below_row {B g : Nat} {w0 w : World} (hb : Below B w0 w) (hBg : B ≤ g) (cs : Array Value) : Below B w0 (w.setRow g cs) :=
  hb.trans ⟨rfl, rfl, rfl, by simp [World.setRow], fun k hk => setRow_other w g k cs (by omega)⟩
theorem below_then {B : Nat} {w w1 w2 : World} (h : Below B w w1) (k : Below w1.heap.size w1 w2) (hB : B ≤ w1.heap.size) : Below B w w2 := h.trans (k.mono hB)
theorem cell_ne {W : World} {g i j : Nat} {u v : Value} (hne : i ≠ j) (h : W.cell? ⟨g, j, none⟩ = some u) : (W.setCell ⟨g, i, none⟩ v).cell? ⟨g, j, none⟩ = some u := by
  have e : (⟨g, i, none⟩ : Addr) ≠ ⟨g, j, none⟩ := fun e => hne (by injection e)
  rw [World.cell?_setCell_other (h := e)]
  exact h
theorem cell_below {w w1 : World} (h : Below w.heap.size w w1) {a : Addr} {v : Value} (hc : w.cell? a = some v) : w1.cell? a = some v := (h.cell (World.block_lt_of_cell? w a hc)).trans hc

theorem w64_in (x : Int) (h0 : -9223372036854775808 ≤ x) (h1 : x ≤ 9223372036854775807) : IntKind.i64.wrap x = x := IntWalk.i64_in _ (by omega)
/-! ### Arrays -/
/-- 'x[i]', x an array of whole numbers. -/
theorem run_index_arr {P : Program} (t e n : Nat) (ke : IntKind) (cs : Array Value) (k : IntKind) (i : Nat) (v : Value) (ht : P.underlying t = some (.array n e)) (he : (P.info? e).map (·.size) = some 1) (hue : P.underlying e = some (.int ke)) (hs : cs.size = n) (hv : cs[i]? = some v) (w : World) :
    (Instr.index t (.agg cs) (.int k (i : Int))).run P w = .ok v w := by
  have hi : i < n := by
    rcases Nat.lt_or_ge i cs.size with h | h
    · omega
    · rw [Array.getElem?_eq_none h] at hv; cases hv
  obtain ⟨ei, he1, he2⟩ := Option.map_eq_some_iff.1 he
  unfold Instr.index
  simp [asIntOf, Sem.run_bind, run_underlying ht, sizeOf, typeInfo, hi, he1, part, isAgg, run_underlying hue, he2, hv]
section
variable {P : Program} {ops : Array Oper} {rest : List Oper} {o : Oper} {a : Act} {Q : Exit → Act → World → Prop} {W : World}
/-- An arm is meant for the operation that writes slot N. -/
theorem at_dst {N : Tmp} (_hN : o.dst = some N) (h : wpList P ops Q (o :: rest) a W) : wpList P ops Q (o :: rest) a W := h
/-- An arm is meant for a store through slot N. -/
theorem at_store {t : TypeId} {N : Tmp} {y : Operand} (_hN : o.op = .store t (.tmp N) y) (h : wpList P ops Q (o :: rest) a W) : wpList P ops Q (o :: rest) a W := h
theorem wpList_load_own (hgd : o.guard = none) (ty : TypeId) (x : Operand) (ho : o.op = .load ty x) {g : Nat} {t : TypeId} {cs : Array Value} (hg : Own W g t cs) (hx : a.eval x = .pointer (some ⟨g, 0, none⟩))
    {d : TypeDesc} (hu : P.underlying ty = some d) (hd : (match d with | .struct _ | .array _ _ => true | _ => false) = true) (hi : (P.info? ty).map (·.size) = some cs.size)
    (h : wpList P ops Q rest (a.put o.dst (.agg cs)) W) : wpList P ops Q (o :: rest) a W :=
  wpList_load_row hgd ty x ho g hx t cs (0, 0) d hg hu hd hi h
theorem wpList_store_own (hgd : o.guard = none) (ty : TypeId) (x y : Operand) (ho : o.op = .store ty x y) {g : Nat} {t : TypeId} {old : Array Value} (hg : Own W g t old) (cells : Array Value) (hx : a.eval x = .pointer (some ⟨g, 0, none⟩)) (hy : a.eval y = .agg cells)
    (hi : (P.info? ty).map (·.size) = some cells.size) (hold : old.size = cells.size) (h1 : cells.all (·.oneCell') = true)
    (h : wpList P ops Q rest (a.put o.dst undef) (W.setRow g cells)) : wpList P ops Q (o :: rest) a W :=
  wpList_store_row hgd ty x y ho g cells hx hy t old hg hi hold h1 h
end
theorem results_own {P : Program} {fn : Func} {p : Tmp} {ty : TypeId} (h : fn.results = #[.cell p ty]) (tmps : Array Value) {W : World} {g : Nat} {t : TypeId} {cs : Array Value} (hg : Own W g t cs) (hp : tmps.getD p undef = .pointer (some ⟨g, 0, none⟩))
    {d : TypeDesc} (hu : P.underlying ty = some d) (hd : (match d with | .struct _ | .array _ _ => true | _ => false) = true) (hi : (P.info? ty).map (·.size) = some cs.size) :
    (results fn tmps).run P W = .ok (.agg cs) W := results_cell_row h tmps W g t cs (0, 0) d hp hg hu hd hi
/-- A post may say what it says of a panic of any frame. -/
theorem bodyPost_put {P : Program} {fn : Func} {R : Ending → World → Prop} (c : List PanicEntry) (a : Act) (d : Option Tmp) (v : Value) (w : World) (h : bodyPost P fn R (.panic c) (a.put d v) w) : bodyPost P fn R (.panic c) a w := by
  cases d <;> exact h
end Go.Proofs.Ytjleiifcigojoaa
