/- The curve's prime field, walked: products. -/
import Derived.Test.YtkpbjkhgiackpaaFd2
namespace Go.Proofs.Ytkpbjkhgiackpaa.Fld
open Go Go.RowKit
set_option linter.unusedVariables false
set_option linter.unusedSimpArgs false


theorem prod_bound {x y a b : Nat} (hx : x ≤ a) (hy : y ≤ b) : x * y ≤ a * b := Nat.mul_le_mul hx hy
/-- A word's halves. -/
theorem mul_halves (x y : Nat) (hx : x < 18446744073709551616) (hy : y < 18446744073709551616) :
    let x0 := x % 4294967296; let x1 := x / 4294967296; let y0 := y % 4294967296; let y1 := y / 4294967296
    let w0 := x0 * y0; let t := x1 * y0 + w0 / 4294967296; let w1 := t % 4294967296 + x0 * y1
    x1 * y1 + t / 4294967296 + w1 / 4294967296 = x * y / 18446744073709551616 ∧ w0 < 18446744073709551616 ∧ t < 18446744073709551616 ∧ w1 < 18446744073709551616 ∧ x1 * y1 + t / 4294967296 + w1 / 4294967296 < 18446744073709551616 := by
  intro x0 x1 y0 y1 w0 t w1
  have e : x * y = w0 + 4294967296 * (x1 * y0) + 4294967296 * (x0 * y1) + 18446744073709551616 * (x1 * y1) := by
    have ex : x = x0 + 4294967296 * x1 := by simp only [x0, x1]; omega
    have ey : y = y0 + 4294967296 * y1 := by simp only [y0, y1]; omega
    rw [ex, ey, Nat.add_mul, Nat.mul_add, Nat.mul_add]
    simp only [w0, Nat.mul_assoc, Nat.mul_left_comm x0 4294967296, Nat.mul_left_comm x1 4294967296]
    omega
  have b0 : w0 ≤ 4294967295 * 4294967295 := prod_bound (by simp only [x0]; omega) (by simp only [y0]; omega)
  have b1 : x1 * y0 ≤ 4294967295 * 4294967295 := prod_bound (by simp only [x1]; omega) (by simp only [y0]; omega)
  have b2 : x0 * y1 ≤ 4294967295 * 4294967295 := prod_bound (by simp only [x0]; omega) (by simp only [y1]; omega)
  have b3 : x1 * y1 ≤ 4294967295 * 4294967295 := prod_bound (by simp only [x1]; omega) (by simp only [y1]; omega)
  simp only [w1, t]
  generalize w0 = A at *
  generalize x1 * y0 = B at *
  generalize x0 * y1 = C at *
  generalize x1 * y1 = D at *
  generalize x * y = E at *
  omega
theorem lo32 (x : U64) : (x &&& 4294967295#64).toNat = x.toNat % 4294967296 := by
  rw [BitVec.toNat_and]; exact Nat.and_two_pow_sub_one_eq_mod x.toNat 32
theorem hi32 (x : U64) : (x >>> 32).toNat = x.toNat / 4294967296 := by rw [BitVec.toNat_ushiftRight, Nat.shiftRight_eq_div_pow]
theorem mul64_hi (x y : U64) : x >>> 32 * y >>> 32 + (x >>> 32 * (y &&& 4294967295#64) + ((x &&& 4294967295#64) * (y &&& 4294967295#64)) >>> 32) >>> 32 + ((x >>> 32 * (y &&& 4294967295#64) + ((x &&& 4294967295#64) * (y &&& 4294967295#64)) >>> 32 &&& 4294967295#64) + (x &&& 4294967295#64) * y >>> 32) >>> 32 = BitVec.ofNat 64 (x.toNat * y.toNat / 2 ^ 64) := by
  obtain ⟨e, b1, b2, b3, b4⟩ := mul_halves x.toNat y.toNat x.isLt y.isLt
  apply BitVec.eq_of_toNat_eq
  simp only [BitVec.toNat_add, BitVec.toNat_mul, lo32, hi32, BitVec.toNat_ofNat]
  generalize x.toNat % 4294967296 * (y.toNat % 4294967296) = A at *
  generalize x.toNat / 4294967296 * (y.toNat % 4294967296) = B at *
  generalize x.toNat % 4294967296 * (y.toNat / 4294967296) = C at *
  generalize x.toNat / 4294967296 * (y.toNat / 4294967296) = D at *
  generalize x.toNat * y.toNat = E at *
  omega
def cMul64 : CT := fun cas K => match cas with
  | [.v (.u64 x), .v (.u64 y)] => K (.tup [.v (.u64 (BitVec.ofNat 64 (x.toNat * y.toNat / 2 ^ 64))), .v (.u64 (x * y))])
  | _ => False
set_option maxRecDepth 100000 in
set_option maxHeartbeats 1000000 in
theorem sMul64 : Sound Try.prog 143 cMul64 := by
  refine sound_vc (tt := tt) (ct := ct3) ttok ct3_ok mixed Try.func143 rfl (by decide) (rs := [.tmp 4, .tmp 5]) rfl (ts := [37, 37]) (k := 0) ?_
  intro cas K h
  unfold cMul64 at h
  split at h
  · rename_i x y
    rw [Try.ntmps143]
    refine ⟨by simp, ?_⟩
    simp (maxSteps := 10000000) (implicitDefEqProofs := false) only [↓both_true, ↓both_false, ↓entryVC, ↓vc_skip, ↓vc_draw, ↓vc_list, ↓vc_seq, ↓vc_seqn, ↓vc_seqe, ↓vc_seqr, ↓vc_cond, ↓condVC, ↓vc_block, ↓vc_blockn, ↓vc_blockr, ↓vc_blocke, ↓vc_loop, ↓vc_exit, ↓vc_ret, ↓vc_loopn, ↓vc_loope, ↓vc_loopr, ↓vcl_nil, ↓vcl_cons, ↓lw_eq, ↓listVC, ↓memK, ↓memR, ↓envOf, ↓guardVC, ↓opVC, ↓pureVC, ↓binT, ↓wrapT, ↓TDsc.isW, ↓binW, ↓binVC, ↓bin8, ↓bin32, ↓bin64, ↓binInt, ↓shVC, ↓unVC, ↓cvVC, ↓rdVC, ↓loadVC, ↓pickC, ↓fillVC, ↓bndVC, ↓sliceVC, ↓bltVC, ↓storeVC, ↓appVC, ↓apzVC, ↓markVC, ↓copyVC, ↓callVC, ↓argsVC, ↓argVC, ↓bindR, ↓bindR1, ↓bindRs, ↓retW_eq, ↓extW_eq, ↓rowW_eq, ↓aggW_eq, ↓plv_nil, ↓plv_tk, ↓plv_fz, ↓plv_ld, ↓pt_eq, ↓pz_eq, ↓pl_eq, ↓delAll, ↓keepM_nil, ↓keepM, ↓extE, ↓extM, ↓leS, ↓leA, ↓retVC, ↓retR, ↓resVC, ↓resV1, ↓ressVC, ↓strU, ↓xAdd64, ↓xSub64, frz, frzs, both_true, both_false, both_dec, both_ndec, ev, absC, getA, setA, delA, tt, AV.good, AV.plain, AV.isSl, AV.cells, AV.one, Cells.len, Cells.get, Cells.sub, Cells.part, Cells.agg, Cells.upd, Cells.set, Cells.cat, Cells.rep, Cells.ones, TDsc.agg, zOf, putE, dstB, letGo, quietOp, slotOp, true_or, or_true, List.append_eq, Int.cast_ofNat_Int, words_len, List.any_cons, List.any_nil, beq_iff_eq, Bool.decide_eq_true, Option.getD_some, Option.getD_none, Option.map_some, Option.map_none, Option.bind_some, Option.isSome_some, Option.isNone_some, Option.isNone_none, Option.isSome_none, ↓reduceIte, Nat.reduceEqDiff, Nat.reduceLT, Nat.reduceLeDiff, Nat.reduceAdd, Nat.reduceSub, Nat.reduceMul, Nat.reduceBEq, Int.reduceLE, Int.reduceLT, Int.reduceToNat, Int.reduceNeg, BitVec.reduceToNat, decide_true, decide_false, and_true, true_and, and_self, Bool.or_true, Bool.true_or, Bool.or_false, Bool.false_or, Bool.not_true, Bool.not_false, List.map_cons, List.map_nil, List.length_cons, List.length_nil, List.getElem?_toArray, List.getElem?_cons_zero, List.getElem?_cons_succ, List.getElem?_nil, forall_const, true_implies, reduceCtorEq, false_and, and_false, false_implies, implies_true, Bool.false_eq_true, Bool.true_eq_false, ne_eq, not_true, not_false_iff, Nat.sub_zero, Nat.zero_add, Nat.add_zero, List.drop_zero, List.drop_succ_cons, List.drop_nil, List.take_zero, List.take_succ_cons, List.take_nil, List.set_cons_zero, List.set_cons_succ, List.nil_append, List.cons_append, List.append_nil, List.replicate_zero, List.replicate_succ, BitVec.ofNat_eq_ofNat, Option.some.injEq, AV.int.injEq, AV.u64.injEq, AV.u32.injEq, AV.u8.injEq, AV.bool.injEq, AV.a64.injEq, AV.a32.injEq, AV.a8.injEq, Nat.zero_le, Int.toNat_natCast, ct3]
    rw [mul64_hi]
    exact h
  · exact h.elim
def ct4 : CTab := fun F => match F with
  | 144 => .ext xAdd64
  | 148 => .ext xSub64
  | 124 => .fn cPlus
  | 145 => .fn cMinus
  | 146 => .fn cPrime
  | 141 => .fn cFrom
  | 125 => .fn cReduce
  | 143 => .fn cMul64
  | _ => .fn noCT
theorem ct4_ok : CTok Try.prog ct4 := by
  intro F
  unfold ct4
  split
  · exact sAdd64
  · exact sSub64
  · exact sPlus
  · exact sMinus
  · exact sPrime
  · exact sFrom
  · exact sReduce
  · exact sMul64
  · exact sound_none _ _

theorem mac_nat (E p c : Nat) (hE : E ≤ 340282366920938463426481119284349108225) (hp : p < 18446744073709551616) (hc : c < 18446744073709551616) :
    ((E % 18446744073709551616 + p) % 18446744073709551616 + c) % 18446744073709551616 + 18446744073709551616 * (((E / 18446744073709551616 % 18446744073709551616 + (E % 18446744073709551616 + p) / 18446744073709551616 % 18446744073709551616) % 18446744073709551616 + ((E % 18446744073709551616 + p) % 18446744073709551616 + c) / 18446744073709551616 % 18446744073709551616) % 18446744073709551616) = E + p + c := by
  have e := Nat.div_add_mod E 18446744073709551616
  have el : E % 18446744073709551616 < 18446744073709551616 := Nat.mod_lt _ (by decide)
  generalize E / 18446744073709551616 = h at *
  generalize E % 18446744073709551616 = l at *
  have e1 := Nat.div_add_mod (l + p) 18446744073709551616
  have el1 : (l + p) % 18446744073709551616 < 18446744073709551616 := Nat.mod_lt _ (by decide)
  generalize (l + p) / 18446744073709551616 = c1 at *
  generalize (l + p) % 18446744073709551616 = r1 at *
  have e2 := Nat.div_add_mod (r1 + c) 18446744073709551616
  have el2 : (r1 + c) % 18446744073709551616 < 18446744073709551616 := Nat.mod_lt _ (by decide)
  generalize (r1 + c) / 18446744073709551616 = c2 at *
  generalize (r1 + c) % 18446744073709551616 = r2 at *
  omega
theorem mac (x y p c : U64) : (x * y + p + 0#64 + c + 0#64).toNat + 18446744073709551616 * (BitVec.ofNat 64 (x.toNat * y.toNat / 2 ^ 64) + BitVec.ofNat 64 (((x * y).toNat + p.toNat) / 2 ^ 64) + BitVec.ofNat 64 (((x * y + p + 0#64).toNat + c.toNat) / 2 ^ 64)).toNat = x.toNat * y.toNat + p.toNat + c.toNat := by
  have hx := x.isLt
  have hy := y.isLt
  have hb : x.toNat * y.toNat ≤ 18446744073709551615 * 18446744073709551615 := prod_bound (by omega) (by omega)
  have := mac_nat (x.toNat * y.toNat) p.toNat c.toNat hb p.isLt c.isLt
  rw [← this]
  simp only [BitVec.toNat_add, BitVec.toNat_mul, BitVec.toNat_ofNat, BitVec.add_zero, Nat.reducePow]
/-- A row of the product: the words so far, and what is carried. -/
def RowI (P0 : Nat) (x : U64) (i : Nat) (ys : List U64) (s : Nat × List U64 × U64) : Prop := s.1 ≤ 4 ∧ s.2.1.length = 8 ∧ (∀ j, i + 4 ≤ j → g64 s.2.1 j = 0) ∧ val s.2.1 + 18446744073709551616 ^ (i + s.1) * s.2.2.toNat = P0 + 18446744073709551616 ^ i * (x.toNat * val (ys.take s.1))
/-- The product's rows so far. -/
def ProdI (xs ys : List U64) (s : Nat × List U64) : Prop := s.1 ≤ 4 ∧ s.2.length = 8 ∧ (∀ j, s.1 + 4 ≤ j → g64 s.2 j = 0) ∧ val s.2 = val (xs.take s.1) * val ys
theorem words_app : ∀ (m n v : Nat), words (m + n) v = words m v ++ words n (v / 18446744073709551616 ^ m)
  | 0, n, v => by simp [words]
  | m + 1, n, v => by
    rw [show m + 1 + n = (m + n) + 1 by omega]
    simp only [words, List.cons_append]
    rw [words_app m n, Nat.div_div_eq_div_mul, Nat.pow_succ, Nat.mul_comm 18446744073709551616]
theorem row_step {P0 : Nat} {x c : U64} {i k : Nat} {ys q : List U64} (hy : ys.length = 4) (hi : i < 4) (hk : k < 4) (h : RowI P0 x i ys (k, q, c)) :
    RowI P0 x i ys (k + 1, q.set (i + k) (x * g64 ys k + g64 q (i + k) + 0#64 + c + 0#64), BitVec.ofNat 64 (x.toNat * (g64 ys k).toNat / 2 ^ 64) + BitVec.ofNat 64 (((x * g64 ys k).toNat + (g64 q (i + k)).toNat) / 2 ^ 64) + BitVec.ofNat 64 (((x * g64 ys k + g64 q (i + k) + 0#64).toNat + c.toNat) / 2 ^ 64)) := by
  obtain ⟨h1, h2, h3, h4⟩ := h
  dsimp only at h1 h2 h3 h4
  have hm := mac x (g64 ys k) (g64 q (i + k)) c
  have hs := val_set q (i + k) (x * g64 ys k + g64 q (i + k) + 0#64 + c + 0#64) (by omega)
  refine ⟨by dsimp only; omega, by simp [h2], fun j hj => ?_, ?_⟩
  · dsimp only
    rw [g64_set_ne (by omega)]; exact h3 j hj
  · dsimp only
    generalize x * g64 ys k + g64 q (i + k) + 0#64 + c + 0#64 = v at *
    generalize BitVec.ofNat 64 (x.toNat * (g64 ys k).toNat / 2 ^ 64) + BitVec.ofNat 64 (((x * g64 ys k).toNat + (g64 q (i + k)).toNat) / 2 ^ 64) + BitVec.ofNat 64 (((x * g64 ys k + g64 q (i + k) + 0#64).toNat + c.toNat) / 2 ^ 64) = c' at *
    rw [val_take_succ ys k (by omega), ← Nat.add_assoc, Nat.pow_succ, Nat.mul_add x.toNat, Nat.mul_add (18446744073709551616 ^ i), Nat.mul_assoc]
    have e4 : 18446744073709551616 ^ i * (x.toNat * (18446744073709551616 ^ k * (g64 ys k).toNat)) = 18446744073709551616 ^ (i + k) * (x.toNat * (g64 ys k).toNat) := by
      rw [Nat.pow_add, Nat.mul_left_comm x.toNat, Nat.mul_assoc]
    rw [e4]
    generalize 18446744073709551616 ^ (i + k) = D at *
    have e3 : D * (v.toNat + 18446744073709551616 * c'.toNat) = D * (x.toNat * (g64 ys k).toNat + (g64 q (i + k)).toNat + c.toNat) := by rw [hm]
    rw [Nat.mul_add, Nat.mul_add, Nat.mul_add] at e3
    omega
theorem prod_step {xs ys p q : List U64} {c : U64} {i : Nat} (hx : xs.length = 4) (hy : ys.length = 4) (hi : i < 4) (hv : val p = val (xs.take i) * val ys) (h : RowI (val p) (g64 xs i) i ys (4, q, c)) : ProdI xs ys (i + 1, q.set (i + 4) c) := by
  obtain ⟨h1, h2, h3, h4⟩ := h
  dsimp only at h1 h2 h3 h4
  have hs := val_set q (i + 4) c (by omega)
  rw [h3 (i + 4) (by omega)] at hs
  rw [List.take_of_length_le (l := ys) (by omega)] at h4
  refine ⟨by dsimp only; omega, by simp [h2], fun j hj => ?_, ?_⟩
  · dsimp only at hj ⊢
    rw [g64_set_ne (by omega)]; exact h3 j (by omega)
  · dsimp only
    rw [val_take_succ xs i (by omega), Nat.add_mul, ← hv, Nat.mul_assoc]
    simp only [show ((0 : U64).toNat) = 0 from rfl, Nat.mul_zero, Nat.add_zero] at hs
    omega
theorem prod_end {xs ys p : List U64} (hx : xs.length = 4) (hy : ys.length = 4) (h : ProdI xs ys (4, p)) : p.take 4 = words 4 (val xs * val ys) ∧ p.drop 4 = words 4 (val xs * val ys / 2 ^ 256) := by
  obtain ⟨h1, h2, h3, h4⟩ := h
  dsimp only at h1 h2 h3 h4
  rw [List.take_of_length_le (l := xs) (by omega)] at h4
  have e := words_val p
  rw [h2, words_app 4 4, h4] at e
  rw [← e]
  exact ⟨List.take_left' (words_len _ _), List.drop_left' (words_len _ _)⟩
def cProduct : CT := fun cas K => match cas with
  | [.v (.a64 xs), .v (.a64 ys)] => (xs.length = 4 ∧ ys.length = 4) ∧ K (.tup [.v (.a64 (words 4 (val xs * val ys))), .v (.a64 (words 4 (val xs * val ys / 2 ^ 256)))])
  | _ => False
set_option maxRecDepth 100000 in
set_option maxHeartbeats 1000000 in
theorem sProduct : Sound Try.prog 122 cProduct := by
  refine sound_vc (tt := tt) (ct := ct4) ttok ct4_ok mixed Try.func122 rfl (by decide) (rs := [.cell 4 39, .cell 5 39]) rfl (ts := [39, 39]) (k := 0) ?_
  intro cas K h
  unfold cProduct at h
  split at h
  · rename_i xs ys
    rw [Try.ntmps122]
    refine ⟨by simp, ?_⟩
    obtain ⟨⟨hx, hy⟩, h⟩ := h
    simp (maxSteps := 10000000) (implicitDefEqProofs := false) only [↓both_true, ↓both_false, ↓entryVC, ↓vc_skip, ↓vc_draw, ↓vc_list, ↓vc_seq, ↓vc_seqn, ↓vc_seqe, ↓vc_seqr, ↓vc_cond, ↓condVC, ↓vc_block, ↓vc_blockn, ↓vc_blockr, ↓vc_blocke, ↓vc_loop, ↓vc_exit, ↓vc_ret, ↓vc_loopn, ↓vc_loope, ↓vc_loopr, ↓vcl_nil, ↓vcl_cons, ↓lw_eq, ↓listVC, ↓memK, ↓memR, ↓envOf, ↓guardVC, ↓opVC, ↓pureVC, ↓binT, ↓wrapT, ↓TDsc.isW, ↓binW, ↓binVC, ↓bin8, ↓bin32, ↓bin64, ↓binInt, ↓shVC, ↓unVC, ↓cvVC, ↓rdVC, ↓loadVC, ↓pickC, ↓fillVC, ↓bndVC, ↓sliceVC, ↓bltVC, ↓storeVC, ↓appVC, ↓apzVC, ↓markVC, ↓copyVC, ↓callVC, ↓argsVC, ↓argVC, ↓bindR, ↓bindR1, ↓bindRs, ↓retW_eq, ↓extW_eq, ↓rowW_eq, ↓aggW_eq, ↓plv_nil, ↓plv_tk, ↓plv_fz, ↓plv_ld, ↓pt_eq, ↓pz_eq, ↓pl_eq, ↓delAll, ↓keepM_nil, ↓keepM, ↓extE, ↓extM, ↓leS, ↓leA, ↓retVC, ↓retR, ↓resVC, ↓resV1, ↓ressVC, ↓strU, ↓xAdd64, ↓xSub64, frz, frzs, both_true, both_false, both_dec, both_ndec, ev, absC, getA, setA, delA, tt, AV.good, AV.plain, AV.isSl, AV.cells, AV.one, Cells.len, Cells.get, Cells.sub, Cells.part, Cells.agg, Cells.upd, Cells.set, Cells.cat, Cells.rep, Cells.ones, TDsc.agg, zOf, putE, dstB, letGo, quietOp, slotOp, true_or, or_true, List.append_eq, Int.cast_ofNat_Int, words_len, List.any_cons, List.any_nil, beq_iff_eq, Bool.decide_eq_true, Option.getD_some, Option.getD_none, Option.map_some, Option.map_none, Option.bind_some, Option.isSome_some, Option.isNone_some, Option.isNone_none, Option.isSome_none, ↓reduceIte, Nat.reduceEqDiff, Nat.reduceLT, Nat.reduceLeDiff, Nat.reduceAdd, Nat.reduceSub, Nat.reduceMul, Nat.reduceBEq, Int.reduceLE, Int.reduceLT, Int.reduceToNat, Int.reduceNeg, BitVec.reduceToNat, decide_true, decide_false, and_true, true_and, and_self, Bool.or_true, Bool.true_or, Bool.or_false, Bool.false_or, Bool.not_true, Bool.not_false, List.map_cons, List.map_nil, List.length_cons, List.length_nil, List.getElem?_toArray, List.getElem?_cons_zero, List.getElem?_cons_succ, List.getElem?_nil, forall_const, true_implies, reduceCtorEq, false_and, and_false, false_implies, implies_true, Bool.false_eq_true, Bool.true_eq_false, ne_eq, not_true, not_false_iff, Nat.sub_zero, Nat.zero_add, Nat.add_zero, List.drop_zero, List.drop_succ_cons, List.drop_nil, List.take_zero, List.take_succ_cons, List.take_nil, List.set_cons_zero, List.set_cons_succ, List.nil_append, List.cons_append, List.append_nil, List.replicate_zero, List.replicate_succ, BitVec.ofNat_eq_ofNat, Option.some.injEq, AV.int.injEq, AV.u64.injEq, AV.u32.injEq, AV.u8.injEq, AV.bool.injEq, AV.a64.injEq, AV.a32.injEq, AV.a8.injEq, Nat.zero_le, Int.toNat_natCast, ct4, cMul64, hx, hy]
    intro g0 g1 g2 g3 g4
    refine loop_ _ _ _ (ι := {s : Nat × List U64 // ProdI xs ys s}) (fun s => ⟨[(16, .int (s.1.1 : Int)), (15, .a64 xs), (6, .ptr 6 g4 0), (5, .ptr 5 g3 0), (4, .ptr 4 g2 0), (3, .ptr 3 g1 0), (2, .ptr 2 g0 0)], [(6, .own g4 125 (.c64 s.1.2)), (5, .own g3 39 (.c64 [0, 0, 0, 0])), (4, .own g2 39 (.c64 [0, 0, 0, 0])), (3, .own g1 39 (.c64 ys)), (2, .own g0 39 (.c64 xs))], 7⟩) (fun s => 4 - s.1.1) ⟨(0, [0, 0, 0, 0, 0, 0, 0, 0]), ⟨Nat.zero_le _, rfl, fun j hj => by dsimp only at hj ⊢; match j, hj with | 0, h => omega | 1, h => omega | 2, h => omega | 3, h => omega | 4, _ => rfl | 5, _ => rfl | 6, _ => rfl | 7, _ => rfl | j + 8, _ => simp [g64], by simp [val]⟩⟩ ?_ ?_
    · simp (maxSteps := 10000000) (implicitDefEqProofs := false) only [↓both_true, ↓both_false, ↓entryVC, ↓vc_skip, ↓vc_draw, ↓vc_list, ↓vc_seq, ↓vc_seqn, ↓vc_seqe, ↓vc_seqr, ↓vc_cond, ↓condVC, ↓vc_block, ↓vc_blockn, ↓vc_blockr, ↓vc_blocke, ↓vc_loop, ↓vc_exit, ↓vc_ret, ↓vc_loopn, ↓vc_loope, ↓vc_loopr, ↓vcl_nil, ↓vcl_cons, ↓lw_eq, ↓listVC, ↓memK, ↓memR, ↓envOf, ↓guardVC, ↓opVC, ↓pureVC, ↓binT, ↓wrapT, ↓TDsc.isW, ↓binW, ↓binVC, ↓bin8, ↓bin32, ↓bin64, ↓binInt, ↓shVC, ↓unVC, ↓cvVC, ↓rdVC, ↓loadVC, ↓pickC, ↓fillVC, ↓bndVC, ↓sliceVC, ↓bltVC, ↓storeVC, ↓appVC, ↓apzVC, ↓markVC, ↓copyVC, ↓callVC, ↓argsVC, ↓argVC, ↓bindR, ↓bindR1, ↓bindRs, ↓retW_eq, ↓extW_eq, ↓rowW_eq, ↓aggW_eq, ↓plv_nil, ↓plv_tk, ↓plv_fz, ↓plv_ld, ↓pt_eq, ↓pz_eq, ↓pl_eq, ↓delAll, ↓keepM_nil, ↓keepM, ↓extE, ↓extM, ↓leS, ↓leA, ↓retVC, ↓retR, ↓resVC, ↓resV1, ↓ressVC, ↓strU, ↓xAdd64, ↓xSub64, frz, frzs, both_true, both_false, both_dec, both_ndec, ev, absC, getA, setA, delA, tt, AV.good, AV.plain, AV.isSl, AV.cells, AV.one, Cells.len, Cells.get, Cells.sub, Cells.part, Cells.agg, Cells.upd, Cells.set, Cells.cat, Cells.rep, Cells.ones, TDsc.agg, zOf, putE, dstB, letGo, quietOp, slotOp, true_or, or_true, List.append_eq, Int.cast_ofNat_Int, words_len, List.any_cons, List.any_nil, beq_iff_eq, Bool.decide_eq_true, Option.getD_some, Option.getD_none, Option.map_some, Option.map_none, Option.bind_some, Option.isSome_some, Option.isNone_some, Option.isNone_none, Option.isSome_none, ↓reduceIte, Nat.reduceEqDiff, Nat.reduceLT, Nat.reduceLeDiff, Nat.reduceAdd, Nat.reduceSub, Nat.reduceMul, Nat.reduceBEq, Int.reduceLE, Int.reduceLT, Int.reduceToNat, Int.reduceNeg, BitVec.reduceToNat, decide_true, decide_false, and_true, true_and, and_self, Bool.or_true, Bool.true_or, Bool.or_false, Bool.false_or, Bool.not_true, Bool.not_false, List.map_cons, List.map_nil, List.length_cons, List.length_nil, List.getElem?_toArray, List.getElem?_cons_zero, List.getElem?_cons_succ, List.getElem?_nil, forall_const, true_implies, reduceCtorEq, false_and, and_false, false_implies, implies_true, Bool.false_eq_true, Bool.true_eq_false, ne_eq, not_true, not_false_iff, Nat.sub_zero, Nat.zero_add, Nat.add_zero, List.drop_zero, List.drop_succ_cons, List.drop_nil, List.take_zero, List.take_succ_cons, List.take_nil, List.set_cons_zero, List.set_cons_succ, List.nil_append, List.cons_append, List.append_nil, List.replicate_zero, List.replicate_succ, BitVec.ofNat_eq_ofNat, Option.some.injEq, AV.int.injEq, AV.u64.injEq, AV.u32.injEq, AV.u8.injEq, AV.bool.injEq, AV.a64.injEq, AV.a32.injEq, AV.a8.injEq, Nat.zero_le, Int.toNat_natCast, ct4, hx, hy]
      try simp
    · rintro ⟨⟨i, p⟩, hI⟩
      obtain ⟨hi, hl, hz, hv⟩ := id hI
      dsimp only at hi hl hz hv
      simp (maxSteps := 10000000) (implicitDefEqProofs := false) only [↓both_true, ↓both_false, ↓entryVC, ↓vc_skip, ↓vc_draw, ↓vc_list, ↓vc_seq, ↓vc_seqn, ↓vc_seqe, ↓vc_seqr, ↓vc_cond, ↓condVC, ↓vc_block, ↓vc_blockn, ↓vc_blockr, ↓vc_blocke, ↓vc_loop, ↓vc_exit, ↓vc_ret, ↓vc_loopn, ↓vc_loope, ↓vc_loopr, ↓vcl_nil, ↓vcl_cons, ↓lw_eq, ↓listVC, ↓memK, ↓memR, ↓envOf, ↓guardVC, ↓opVC, ↓pureVC, ↓binT, ↓wrapT, ↓TDsc.isW, ↓binW, ↓binVC, ↓bin8, ↓bin32, ↓bin64, ↓binInt, ↓shVC, ↓unVC, ↓cvVC, ↓rdVC, ↓loadVC, ↓pickC, ↓fillVC, ↓bndVC, ↓sliceVC, ↓bltVC, ↓storeVC, ↓appVC, ↓apzVC, ↓markVC, ↓copyVC, ↓callVC, ↓argsVC, ↓argVC, ↓bindR, ↓bindR1, ↓bindRs, ↓retW_eq, ↓extW_eq, ↓rowW_eq, ↓aggW_eq, ↓plv_nil, ↓plv_tk, ↓plv_fz, ↓plv_ld, ↓pt_eq, ↓pz_eq, ↓pl_eq, ↓delAll, ↓keepM_nil, ↓keepM, ↓extE, ↓extM, ↓leS, ↓leA, ↓retVC, ↓retR, ↓resVC, ↓resV1, ↓ressVC, ↓strU, ↓xAdd64, ↓xSub64, frz, frzs, both_true, both_false, both_dec, both_ndec, ev, absC, getA, setA, delA, tt, AV.good, AV.plain, AV.isSl, AV.cells, AV.one, Cells.len, Cells.get, Cells.sub, Cells.part, Cells.agg, Cells.upd, Cells.set, Cells.cat, Cells.rep, Cells.ones, TDsc.agg, zOf, putE, dstB, letGo, quietOp, slotOp, true_or, or_true, List.append_eq, Int.cast_ofNat_Int, words_len, List.any_cons, List.any_nil, beq_iff_eq, Bool.decide_eq_true, Option.getD_some, Option.getD_none, Option.map_some, Option.map_none, Option.bind_some, Option.isSome_some, Option.isNone_some, Option.isNone_none, Option.isSome_none, ↓reduceIte, Nat.reduceEqDiff, Nat.reduceLT, Nat.reduceLeDiff, Nat.reduceAdd, Nat.reduceSub, Nat.reduceMul, Nat.reduceBEq, Int.reduceLE, Int.reduceLT, Int.reduceToNat, Int.reduceNeg, BitVec.reduceToNat, decide_true, decide_false, and_true, true_and, and_self, Bool.or_true, Bool.true_or, Bool.or_false, Bool.false_or, Bool.not_true, Bool.not_false, List.map_cons, List.map_nil, List.length_cons, List.length_nil, List.getElem?_toArray, List.getElem?_cons_zero, List.getElem?_cons_succ, List.getElem?_nil, forall_const, true_implies, reduceCtorEq, false_and, and_false, false_implies, implies_true, Bool.false_eq_true, Bool.true_eq_false, ne_eq, not_true, not_false_iff, Nat.sub_zero, Nat.zero_add, Nat.add_zero, List.drop_zero, List.drop_succ_cons, List.drop_nil, List.take_zero, List.take_succ_cons, List.take_nil, List.set_cons_zero, List.set_cons_succ, List.nil_append, List.cons_append, List.append_nil, List.replicate_zero, List.replicate_succ, BitVec.ofNat_eq_ofNat, Option.some.injEq, AV.int.injEq, AV.u64.injEq, AV.u32.injEq, AV.u8.injEq, AV.bool.injEq, AV.a64.injEq, AV.a32.injEq, AV.a8.injEq, Nat.zero_le, Int.toNat_natCast, ct4, hx, hy, cMul64]
      refine ⟨fun hlt => ?_, fun hge => ?_⟩
      · have hlt : i < 4 := by omega
        refine ⟨by omega, hlt, loop_ _ _ _ (ι := {s : Nat × List U64 × U64 // RowI (val p) (g64 xs i) i ys s}) (fun s => ⟨[(21, .int (s.1.1 : Int)), (20, .a64 ys), (9, .u64 s.1.2.2), (8, .u64 (g64 xs i)), (7, .int (i : Int)), (16, .int (i : Int)), (15, .a64 xs), (6, .ptr 6 g4 0), (5, .ptr 5 g3 0), (4, .ptr 4 g2 0), (3, .ptr 3 g1 0), (2, .ptr 2 g0 0)], [(6, .own g4 125 (.c64 s.1.2.1)), (5, .own g3 39 (.c64 [0, 0, 0, 0])), (4, .own g2 39 (.c64 [0, 0, 0, 0])), (3, .own g1 39 (.c64 ys)), (2, .own g0 39 (.c64 xs))], 7⟩) (fun s => 4 - s.1.1) ⟨(0, p, 0), ⟨Nat.zero_le _, hl, hz, by simp [val]⟩⟩ ?_ ?_⟩
        · simp (maxSteps := 10000000) (implicitDefEqProofs := false) only [↓both_true, ↓both_false, ↓entryVC, ↓vc_skip, ↓vc_draw, ↓vc_list, ↓vc_seq, ↓vc_seqn, ↓vc_seqe, ↓vc_seqr, ↓vc_cond, ↓condVC, ↓vc_block, ↓vc_blockn, ↓vc_blockr, ↓vc_blocke, ↓vc_loop, ↓vc_exit, ↓vc_ret, ↓vc_loopn, ↓vc_loope, ↓vc_loopr, ↓vcl_nil, ↓vcl_cons, ↓lw_eq, ↓listVC, ↓memK, ↓memR, ↓envOf, ↓guardVC, ↓opVC, ↓pureVC, ↓binT, ↓wrapT, ↓TDsc.isW, ↓binW, ↓binVC, ↓bin8, ↓bin32, ↓bin64, ↓binInt, ↓shVC, ↓unVC, ↓cvVC, ↓rdVC, ↓loadVC, ↓pickC, ↓fillVC, ↓bndVC, ↓sliceVC, ↓bltVC, ↓storeVC, ↓appVC, ↓apzVC, ↓markVC, ↓copyVC, ↓callVC, ↓argsVC, ↓argVC, ↓bindR, ↓bindR1, ↓bindRs, ↓retW_eq, ↓extW_eq, ↓rowW_eq, ↓aggW_eq, ↓plv_nil, ↓plv_tk, ↓plv_fz, ↓plv_ld, ↓pt_eq, ↓pz_eq, ↓pl_eq, ↓delAll, ↓keepM_nil, ↓keepM, ↓extE, ↓extM, ↓leS, ↓leA, ↓retVC, ↓retR, ↓resVC, ↓resV1, ↓ressVC, ↓strU, ↓xAdd64, ↓xSub64, frz, frzs, both_true, both_false, both_dec, both_ndec, ev, absC, getA, setA, delA, tt, AV.good, AV.plain, AV.isSl, AV.cells, AV.one, Cells.len, Cells.get, Cells.sub, Cells.part, Cells.agg, Cells.upd, Cells.set, Cells.cat, Cells.rep, Cells.ones, TDsc.agg, zOf, putE, dstB, letGo, quietOp, slotOp, true_or, or_true, List.append_eq, Int.cast_ofNat_Int, words_len, List.any_cons, List.any_nil, beq_iff_eq, Bool.decide_eq_true, Option.getD_some, Option.getD_none, Option.map_some, Option.map_none, Option.bind_some, Option.isSome_some, Option.isNone_some, Option.isNone_none, Option.isSome_none, ↓reduceIte, Nat.reduceEqDiff, Nat.reduceLT, Nat.reduceLeDiff, Nat.reduceAdd, Nat.reduceSub, Nat.reduceMul, Nat.reduceBEq, Int.reduceLE, Int.reduceLT, Int.reduceToNat, Int.reduceNeg, BitVec.reduceToNat, decide_true, decide_false, and_true, true_and, and_self, Bool.or_true, Bool.true_or, Bool.or_false, Bool.false_or, Bool.not_true, Bool.not_false, List.map_cons, List.map_nil, List.length_cons, List.length_nil, List.getElem?_toArray, List.getElem?_cons_zero, List.getElem?_cons_succ, List.getElem?_nil, forall_const, true_implies, reduceCtorEq, false_and, and_false, false_implies, implies_true, Bool.false_eq_true, Bool.true_eq_false, ne_eq, not_true, not_false_iff, Nat.sub_zero, Nat.zero_add, Nat.add_zero, List.drop_zero, List.drop_succ_cons, List.drop_nil, List.take_zero, List.take_succ_cons, List.take_nil, List.set_cons_zero, List.set_cons_succ, List.nil_append, List.cons_append, List.append_nil, List.replicate_zero, List.replicate_succ, BitVec.ofNat_eq_ofNat, Option.some.injEq, AV.int.injEq, AV.u64.injEq, AV.u32.injEq, AV.u8.injEq, AV.bool.injEq, AV.a64.injEq, AV.a32.injEq, AV.a8.injEq, Nat.zero_le, Int.toNat_natCast, ct4, hx, hy]
          try simp
        · rintro ⟨⟨k, q, c⟩, hJ⟩
          obtain ⟨hk, hql, hqz, hqv⟩ := id hJ
          dsimp only at hk hql hqz hqv
          simp (maxSteps := 10000000) (implicitDefEqProofs := false) only [↓both_true, ↓both_false, ↓entryVC, ↓vc_skip, ↓vc_draw, ↓vc_list, ↓vc_seq, ↓vc_seqn, ↓vc_seqe, ↓vc_seqr, ↓vc_cond, ↓condVC, ↓vc_block, ↓vc_blockn, ↓vc_blockr, ↓vc_blocke, ↓vc_loop, ↓vc_exit, ↓vc_ret, ↓vc_loopn, ↓vc_loope, ↓vc_loopr, ↓vcl_nil, ↓vcl_cons, ↓lw_eq, ↓listVC, ↓memK, ↓memR, ↓envOf, ↓guardVC, ↓opVC, ↓pureVC, ↓binT, ↓wrapT, ↓TDsc.isW, ↓binW, ↓binVC, ↓bin8, ↓bin32, ↓bin64, ↓binInt, ↓shVC, ↓unVC, ↓cvVC, ↓rdVC, ↓loadVC, ↓pickC, ↓fillVC, ↓bndVC, ↓sliceVC, ↓bltVC, ↓storeVC, ↓appVC, ↓apzVC, ↓markVC, ↓copyVC, ↓callVC, ↓argsVC, ↓argVC, ↓bindR, ↓bindR1, ↓bindRs, ↓retW_eq, ↓extW_eq, ↓rowW_eq, ↓aggW_eq, ↓plv_nil, ↓plv_tk, ↓plv_fz, ↓plv_ld, ↓pt_eq, ↓pz_eq, ↓pl_eq, ↓delAll, ↓keepM_nil, ↓keepM, ↓extE, ↓extM, ↓leS, ↓leA, ↓retVC, ↓retR, ↓resVC, ↓resV1, ↓ressVC, ↓strU, ↓xAdd64, ↓xSub64, frz, frzs, both_true, both_false, both_dec, both_ndec, ev, absC, getA, setA, delA, tt, AV.good, AV.plain, AV.isSl, AV.cells, AV.one, Cells.len, Cells.get, Cells.sub, Cells.part, Cells.agg, Cells.upd, Cells.set, Cells.cat, Cells.rep, Cells.ones, TDsc.agg, zOf, putE, dstB, letGo, quietOp, slotOp, true_or, or_true, List.append_eq, Int.cast_ofNat_Int, words_len, List.any_cons, List.any_nil, beq_iff_eq, Bool.decide_eq_true, Option.getD_some, Option.getD_none, Option.map_some, Option.map_none, Option.bind_some, Option.isSome_some, Option.isNone_some, Option.isNone_none, Option.isSome_none, ↓reduceIte, Nat.reduceEqDiff, Nat.reduceLT, Nat.reduceLeDiff, Nat.reduceAdd, Nat.reduceSub, Nat.reduceMul, Nat.reduceBEq, Int.reduceLE, Int.reduceLT, Int.reduceToNat, Int.reduceNeg, BitVec.reduceToNat, decide_true, decide_false, and_true, true_and, and_self, Bool.or_true, Bool.true_or, Bool.or_false, Bool.false_or, Bool.not_true, Bool.not_false, List.map_cons, List.map_nil, List.length_cons, List.length_nil, List.getElem?_toArray, List.getElem?_cons_zero, List.getElem?_cons_succ, List.getElem?_nil, forall_const, true_implies, reduceCtorEq, false_and, and_false, false_implies, implies_true, Bool.false_eq_true, Bool.true_eq_false, ne_eq, not_true, not_false_iff, Nat.sub_zero, Nat.zero_add, Nat.add_zero, List.drop_zero, List.drop_succ_cons, List.drop_nil, List.take_zero, List.take_succ_cons, List.take_nil, List.set_cons_zero, List.set_cons_succ, List.nil_append, List.cons_append, List.append_nil, List.replicate_zero, List.replicate_succ, BitVec.ofNat_eq_ofNat, Option.some.injEq, AV.int.injEq, AV.u64.injEq, AV.u32.injEq, AV.u8.injEq, AV.bool.injEq, AV.a64.injEq, AV.a32.injEq, AV.a8.injEq, Nat.zero_le, Int.toNat_natCast, ct4, hx, hy, cMul64]
          refine ⟨fun hlt => ?_, fun hge => ?_⟩
          · have hlt : k < 4 := by omega
            have ei : ((i : Int) + (k : Int)).toNat = i + k := by omega
            rw [ei]
            refine ⟨by omega, hlt, by simp [intIn]; omega, by omega, by omega, by simp [intIn]; omega, by omega, by omega, by simp [intIn]; omega, ⟨(k + 1, _, _), row_step hy (by omega) hlt hJ⟩, by dsimp only; omega, ⟨by simp, rfl⟩, rfl⟩
          · obtain rfl : k = 4 := by omega
            have ei : ((i : Int) + 4).toNat = i + 4 := by omega
            rw [ei]
            refine ⟨by simp [intIn]; omega, by omega, by omega, by simp [intIn]; omega, ⟨(i + 1, _), prod_step hx hy (by omega) hv hJ⟩, by dsimp only; omega, by simp, rfl⟩
      · obtain rfl : i = 4 := by omega
        obtain ⟨e1, e2⟩ := prod_end hx hy hI
        refine draw_ _ _ _ [(.tk, 0), (.tk, 1), (.tk, 2), (.fz, 3), (.fz, 4), (.fz, 5), (.ld, 6), (.ld, 7)] [] [6] (by kernel_rfl) ?_
        simp (maxSteps := 10000000) (implicitDefEqProofs := false) only [↓both_true, ↓both_false, ↓entryVC, ↓vc_skip, ↓vc_draw, ↓vc_list, ↓vc_seq, ↓vc_seqn, ↓vc_seqe, ↓vc_seqr, ↓vc_cond, ↓condVC, ↓vc_block, ↓vc_blockn, ↓vc_blockr, ↓vc_blocke, ↓vc_loop, ↓vc_exit, ↓vc_ret, ↓vc_loopn, ↓vc_loope, ↓vc_loopr, ↓vcl_nil, ↓vcl_cons, ↓lw_eq, ↓listVC, ↓memK, ↓memR, ↓envOf, ↓guardVC, ↓opVC, ↓pureVC, ↓binT, ↓wrapT, ↓TDsc.isW, ↓binW, ↓binVC, ↓bin8, ↓bin32, ↓bin64, ↓binInt, ↓shVC, ↓unVC, ↓cvVC, ↓rdVC, ↓loadVC, ↓pickC, ↓fillVC, ↓bndVC, ↓sliceVC, ↓bltVC, ↓storeVC, ↓appVC, ↓apzVC, ↓markVC, ↓copyVC, ↓callVC, ↓argsVC, ↓argVC, ↓bindR, ↓bindR1, ↓bindRs, ↓retW_eq, ↓extW_eq, ↓rowW_eq, ↓aggW_eq, ↓plv_nil, ↓plv_tk, ↓plv_fz, ↓plv_ld, ↓pt_eq, ↓pz_eq, ↓pl_eq, ↓delAll, ↓keepM_nil, ↓keepM, ↓extE, ↓extM, ↓leS, ↓leA, ↓retVC, ↓retR, ↓resVC, ↓resV1, ↓ressVC, ↓strU, ↓xAdd64, ↓xSub64, frz, frzs, both_true, both_false, both_dec, both_ndec, ev, absC, getA, setA, delA, tt, AV.good, AV.plain, AV.isSl, AV.cells, AV.one, Cells.len, Cells.get, Cells.sub, Cells.part, Cells.agg, Cells.upd, Cells.set, Cells.cat, Cells.rep, Cells.ones, TDsc.agg, zOf, putE, dstB, letGo, quietOp, slotOp, true_or, or_true, List.append_eq, Int.cast_ofNat_Int, words_len, List.any_cons, List.any_nil, beq_iff_eq, Bool.decide_eq_true, Option.getD_some, Option.getD_none, Option.map_some, Option.map_none, Option.bind_some, Option.isSome_some, Option.isNone_some, Option.isNone_none, Option.isSome_none, ↓reduceIte, Nat.reduceEqDiff, Nat.reduceLT, Nat.reduceLeDiff, Nat.reduceAdd, Nat.reduceSub, Nat.reduceMul, Nat.reduceBEq, Int.reduceLE, Int.reduceLT, Int.reduceToNat, Int.reduceNeg, BitVec.reduceToNat, decide_true, decide_false, and_true, true_and, and_self, Bool.or_true, Bool.true_or, Bool.or_false, Bool.false_or, Bool.not_true, Bool.not_false, List.map_cons, List.map_nil, List.length_cons, List.length_nil, List.getElem?_toArray, List.getElem?_cons_zero, List.getElem?_cons_succ, List.getElem?_nil, forall_const, true_implies, reduceCtorEq, false_and, and_false, false_implies, implies_true, Bool.false_eq_true, Bool.true_eq_false, ne_eq, not_true, not_false_iff, Nat.sub_zero, Nat.zero_add, Nat.add_zero, List.drop_zero, List.drop_succ_cons, List.drop_nil, List.take_zero, List.take_succ_cons, List.take_nil, List.set_cons_zero, List.set_cons_succ, List.nil_append, List.cons_append, List.append_nil, List.replicate_zero, List.replicate_succ, BitVec.ofNat_eq_ofNat, Option.some.injEq, AV.int.injEq, AV.u64.injEq, AV.u32.injEq, AV.u8.injEq, AV.bool.injEq, AV.a64.injEq, AV.a32.injEq, AV.a8.injEq, Nat.zero_le, Int.toNat_natCast, ct4, hx, hy, hl, cMul64]
        have e3 : List.take 4 (List.drop 4 p) = words 4 (val xs * val ys / 2 ^ 256) := by rw [e2, List.take_of_length_le (by rw [words_len]; omega)]
        rw [e1, e3]
        simp only [words_len, ↓reduceIte, true_and, or_false, or_true]
        exact h
  · exact h.elim

theorem mac38_nat (E c : Nat) (hE : E ≤ 700976274800962961370) (hc : c < 18446744073709551616) :
    (E % 18446744073709551616 + c) % 18446744073709551616 + 18446744073709551616 * ((E / 18446744073709551616 % 18446744073709551616 + (E % 18446744073709551616 + c) / 18446744073709551616 % 18446744073709551616) % 18446744073709551616) = E + c := by omega
theorem mac38 (x c : U64) : (x * 38#64 + c + 0#64).toNat + 18446744073709551616 * (BitVec.ofNat 64 (x.toNat * 38 / 2 ^ 64) + BitVec.ofNat 64 (((x * 38#64).toNat + c.toNat) / 2 ^ 64)).toNat = x.toNat * 38 + c.toNat := by
  have hx := x.isLt
  have := mac38_nat (x.toNat * 38) c.toNat (by omega) c.isLt
  rw [← this]
  simp only [BitVec.toNat_add, BitVec.toNat_mul, BitVec.toNat_ofNat, BitVec.add_zero, Nat.reducePow, Nat.reduceMod]
/-- The words times 38 so far, and what is carried. -/
def TimesI (xs : List U64) (s : Nat × List U64 × U64) : Prop := s.1 ≤ 4 ∧ s.2.1.length = 4 ∧ (∀ j, s.1 ≤ j → g64 s.2.1 j = g64 xs j) ∧ val s.2.1 + 18446744073709551616 ^ s.1 * s.2.2.toNat = val xs + 37 * val (xs.take s.1)
theorem times_step {xs p : List U64} {c : U64} {k : Nat} (hx : xs.length = 4) (hk : k < 4) (h : TimesI xs (k, p, c)) : TimesI xs (k + 1, p.set k (g64 xs k * 38#64 + c + 0#64), BitVec.ofNat 64 ((g64 xs k).toNat * 38 / 2 ^ 64) + BitVec.ofNat 64 (((g64 xs k * 38#64).toNat + c.toNat) / 2 ^ 64)) := by
  obtain ⟨h1, h2, h4, h5⟩ := h
  dsimp only at h1 h2 h4 h5
  have e1 := mac38 (g64 xs k) c
  refine ⟨by dsimp only; omega, by simp [h2], fun j hj => ?_, ?_⟩
  · dsimp only at hj ⊢
    rw [g64_set_ne (by omega)]; exact h4 j (by omega)
  · dsimp only
    have hs := val_set p k (g64 xs k * 38#64 + c + 0#64) (by omega)
    rw [h4 k (by omega)] at hs
    rw [val_take_succ xs k (by omega), Nat.pow_succ, Nat.mul_assoc]
    generalize g64 xs k * 38#64 + c + 0#64 = v at *
    generalize BitVec.ofNat 64 ((g64 xs k).toNat * 38 / 2 ^ 64) + BitVec.ofNat 64 (((g64 xs k * 38#64).toNat + c.toNat) / 2 ^ 64) = c' at *
    generalize 18446744073709551616 ^ k = B at *
    have e3 : B * (v.toNat + 18446744073709551616 * c'.toNat) = B * ((g64 xs k).toNat * 38 + c.toNat) := by rw [e1]
    rw [Nat.mul_add, Nat.mul_add, ← Nat.mul_assoc B (g64 xs k).toNat] at e3
    omega
theorem times_end {xs p : List U64} {c : U64} (hx : xs.length = 4) (h : TimesI xs (4, p, c)) : p = words 4 (38 * val xs) ∧ c = BitVec.ofNat 64 (38 * val xs / 2 ^ 256) := by
  obtain ⟨h1, h2, h4, h5⟩ := h
  dsimp only at h1 h2 h4 h5
  rw [List.take_of_length_le (by omega)] at h5
  have hl := val_lt p
  have hc := c.isLt
  rw [h2] at hl
  have hd : 38 * val xs / 2 ^ 256 = c.toNat := by omega
  refine ⟨eq_words h2 (by omega), BitVec.eq_of_toNat_eq ?_⟩
  rw [BitVec.toNat_ofNat, hd, Nat.mod_eq_of_lt c.isLt]
theorem val_one (x : U64) : val [x, 0#64, 0#64, 0#64] = x.toNat := by simp [val]
theorem mul_fold (N : Nat) (hN : N < 13407807929942597099574024998205846127479365820592393377723561443721764030073546976801874298166903427690031858186486050853753882811946569946433649006084096) :
    let L := N % 115792089237316195423570985008687907853269984665640564039457584007913129639936; let T := N / 115792089237316195423570985008687907853269984665640564039457584007913129639936 % 115792089237316195423570985008687907853269984665640564039457584007913129639936
    let S1 := L + 38 * T % 115792089237316195423570985008687907853269984665640564039457584007913129639936; let e := 38 * ((38 * T / 115792089237316195423570985008687907853269984665640564039457584007913129639936 % 18446744073709551616 + S1 / 115792089237316195423570985008687907853269984665640564039457584007913129639936 % 18446744073709551616) % 18446744073709551616) % 18446744073709551616
    let S2 := S1 % 115792089237316195423570985008687907853269984665640564039457584007913129639936 + e; let f := 38 * (S2 / 115792089237316195423570985008687907853269984665640564039457584007913129639936 % 18446744073709551616) % 18446744073709551616
    (S2 % 115792089237316195423570985008687907853269984665640564039457584007913129639936 + f) % 115792089237316195423570985008687907853269984665640564039457584007913129639936 % PP = N % PP := by
  intro L T S1 e S2 f
  have hT : T = N / 115792089237316195423570985008687907853269984665640564039457584007913129639936 := by simp only [T]; omega
  have e1 : N = L + 115792089237316195423570985008687907853269984665640564039457584007913129639936 * T := by rw [hT]; simp only [L]; omega
  have bT : T < 115792089237316195423570985008687907853269984665640564039457584007913129639936 := by simp only [T]; omega
  have bL : L < 115792089237316195423570985008687907853269984665640564039457584007913129639936 := by simp only [L]; omega
  clear_value L T
  subst e1
  have a1 := Nat.div_add_mod (38 * T) 115792089237316195423570985008687907853269984665640564039457584007913129639936
  have b1 := Nat.mod_lt (38 * T) (show 115792089237316195423570985008687907853269984665640564039457584007913129639936 > 0 by decide)
  have hS1 : S1 = L + 38 * T % 115792089237316195423570985008687907853269984665640564039457584007913129639936 := rfl
  have he : e = 38 * ((38 * T / 115792089237316195423570985008687907853269984665640564039457584007913129639936 % 18446744073709551616 + S1 / 115792089237316195423570985008687907853269984665640564039457584007913129639936 % 18446744073709551616) % 18446744073709551616) % 18446744073709551616 := rfl
  clear_value S1 e
  generalize 38 * T % 115792089237316195423570985008687907853269984665640564039457584007913129639936 = down at *
  have c1 : 38 * T / 115792089237316195423570985008687907853269984665640564039457584007913129639936 ≤ 37 := by omega
  generalize 38 * T / 115792089237316195423570985008687907853269984665640564039457584007913129639936 = over at *
  have a2 := Nat.div_add_mod S1 115792089237316195423570985008687907853269984665640564039457584007913129639936
  have b2 := Nat.mod_lt S1 (show 115792089237316195423570985008687907853269984665640564039457584007913129639936 > 0 by decide)
  have hS2 : S2 = S1 % 115792089237316195423570985008687907853269984665640564039457584007913129639936 + e := rfl
  have hf : f = 38 * (S2 / 115792089237316195423570985008687907853269984665640564039457584007913129639936 % 18446744073709551616) % 18446744073709551616 := rfl
  clear_value S2 f
  generalize S1 % 115792089237316195423570985008687907853269984665640564039457584007913129639936 = s1 at *
  have c2 : S1 / 115792089237316195423570985008687907853269984665640564039457584007913129639936 ≤ 1 := by omega
  generalize S1 / 115792089237316195423570985008687907853269984665640564039457584007913129639936 = k1 at *
  have he2 : e = 38 * (over + k1) := by omega
  have a3 := Nat.div_add_mod S2 115792089237316195423570985008687907853269984665640564039457584007913129639936
  have b3 := Nat.mod_lt S2 (show 115792089237316195423570985008687907853269984665640564039457584007913129639936 > 0 by decide)
  generalize S2 % 115792089237316195423570985008687907853269984665640564039457584007913129639936 = s2 at *
  have c3 : S2 / 115792089237316195423570985008687907853269984665640564039457584007913129639936 ≤ 1 := by omega
  generalize S2 / 115792089237316195423570985008687907853269984665640564039457584007913129639936 = k2 at *
  have hf2 : f = 38 * k2 := by omega
  have b4 : s2 + f < 115792089237316195423570985008687907853269984665640564039457584007913129639936 := by omega
  rw [Nat.mod_eq_of_lt b4]
  have fin : L + 115792089237316195423570985008687907853269984665640564039457584007913129639936 * T = (s2 + f) + PP * (2 * (T + over + k1 + k2)) := by simp only [PP]; omega
  rw [fin, Nat.add_mul_mod_self_left]
def cTimes : CT := fun cas K => match cas with
  | [.v (.a64 xs)] => xs.length = 4 ∧ K (.tup [.v (.a64 (words 4 (38 * val xs))), .v (.u64 (BitVec.ofNat 64 (38 * val xs / 2 ^ 256)))])
  | _ => False
def cMul : CT := fun cas K => match cas with
  | [.v (.a64 xs), .v (.a64 ys)] => (xs.length = 4 ∧ ys.length = 4) ∧ K (.one (.v (.a64 (words 4 (val xs * val ys % PP)))))
  | _ => False
set_option maxRecDepth 100000 in
set_option maxHeartbeats 1000000 in
theorem sTimes : Sound Try.prog 123 cTimes := by
  refine sound_vc (tt := tt) (ct := ct4) ttok ct4_ok mixed Try.func123 rfl (by decide) (rs := [.cell 2 39, .tmp 3]) rfl (ts := [39, 37]) (k := 0) ?_
  intro cas K h
  unfold cTimes at h
  split at h
  · rename_i xs
    rw [Try.ntmps123]
    refine ⟨by simp, ?_⟩
    obtain ⟨hx, h⟩ := h
    simp (maxSteps := 10000000) (implicitDefEqProofs := false) only [↓both_true, ↓both_false, ↓entryVC, ↓vc_skip, ↓vc_draw, ↓vc_list, ↓vc_seq, ↓vc_seqn, ↓vc_seqe, ↓vc_seqr, ↓vc_cond, ↓condVC, ↓vc_block, ↓vc_blockn, ↓vc_blockr, ↓vc_blocke, ↓vc_loop, ↓vc_exit, ↓vc_ret, ↓vc_loopn, ↓vc_loope, ↓vc_loopr, ↓vcl_nil, ↓vcl_cons, ↓lw_eq, ↓listVC, ↓memK, ↓memR, ↓envOf, ↓guardVC, ↓opVC, ↓pureVC, ↓binT, ↓wrapT, ↓TDsc.isW, ↓binW, ↓binVC, ↓bin8, ↓bin32, ↓bin64, ↓binInt, ↓shVC, ↓unVC, ↓cvVC, ↓rdVC, ↓loadVC, ↓pickC, ↓fillVC, ↓bndVC, ↓sliceVC, ↓bltVC, ↓storeVC, ↓appVC, ↓apzVC, ↓markVC, ↓copyVC, ↓callVC, ↓argsVC, ↓argVC, ↓bindR, ↓bindR1, ↓bindRs, ↓retW_eq, ↓extW_eq, ↓rowW_eq, ↓aggW_eq, ↓plv_nil, ↓plv_tk, ↓plv_fz, ↓plv_ld, ↓pt_eq, ↓pz_eq, ↓pl_eq, ↓delAll, ↓keepM_nil, ↓keepM, ↓extE, ↓extM, ↓leS, ↓leA, ↓retVC, ↓retR, ↓resVC, ↓resV1, ↓ressVC, ↓strU, ↓xAdd64, ↓xSub64, frz, frzs, both_true, both_false, both_dec, both_ndec, ev, absC, getA, setA, delA, tt, AV.good, AV.plain, AV.isSl, AV.cells, AV.one, Cells.len, Cells.get, Cells.sub, Cells.part, Cells.agg, Cells.upd, Cells.set, Cells.cat, Cells.rep, Cells.ones, TDsc.agg, zOf, putE, dstB, letGo, quietOp, slotOp, true_or, or_true, List.append_eq, Int.cast_ofNat_Int, words_len, List.any_cons, List.any_nil, beq_iff_eq, Bool.decide_eq_true, Option.getD_some, Option.getD_none, Option.map_some, Option.map_none, Option.bind_some, Option.isSome_some, Option.isNone_some, Option.isNone_none, Option.isSome_none, ↓reduceIte, Nat.reduceEqDiff, Nat.reduceLT, Nat.reduceLeDiff, Nat.reduceAdd, Nat.reduceSub, Nat.reduceMul, Nat.reduceBEq, Int.reduceLE, Int.reduceLT, Int.reduceToNat, Int.reduceNeg, BitVec.reduceToNat, decide_true, decide_false, and_true, true_and, and_self, Bool.or_true, Bool.true_or, Bool.or_false, Bool.false_or, Bool.not_true, Bool.not_false, List.map_cons, List.map_nil, List.length_cons, List.length_nil, List.getElem?_toArray, List.getElem?_cons_zero, List.getElem?_cons_succ, List.getElem?_nil, forall_const, true_implies, reduceCtorEq, false_and, and_false, false_implies, implies_true, Bool.false_eq_true, Bool.true_eq_false, ne_eq, not_true, not_false_iff, Nat.sub_zero, Nat.zero_add, Nat.add_zero, List.drop_zero, List.drop_succ_cons, List.drop_nil, List.take_zero, List.take_succ_cons, List.take_nil, List.set_cons_zero, List.set_cons_succ, List.nil_append, List.cons_append, List.append_nil, List.replicate_zero, List.replicate_succ, BitVec.ofNat_eq_ofNat, Option.some.injEq, AV.int.injEq, AV.u64.injEq, AV.u32.injEq, AV.u8.injEq, AV.bool.injEq, AV.a64.injEq, AV.a32.injEq, AV.a8.injEq, Nat.zero_le, Int.toNat_natCast, ct4, cMul64, hx]
    intro g0 g1
    refine loop_ _ _ _ (ι := {s : Nat × List U64 × U64 // TimesI xs s}) (fun s => ⟨[(11, .int (s.1.1 : Int)), (10, .a64 xs), (4, .u64 s.1.2.2), (2, .ptr 2 g1 0), (1, .ptr 1 g0 0)], [(2, .own g1 39 (.c64 [0, 0, 0, 0])), (1, .own g0 39 (.c64 s.1.2.1))], 3⟩) (fun s => 4 - s.1.1) ⟨(0, xs, 0), by simp [TimesI, hx, val]⟩ ?_ ?_
    · simp (maxSteps := 10000000) (implicitDefEqProofs := false) only [↓both_true, ↓both_false, ↓entryVC, ↓vc_skip, ↓vc_draw, ↓vc_list, ↓vc_seq, ↓vc_seqn, ↓vc_seqe, ↓vc_seqr, ↓vc_cond, ↓condVC, ↓vc_block, ↓vc_blockn, ↓vc_blockr, ↓vc_blocke, ↓vc_loop, ↓vc_exit, ↓vc_ret, ↓vc_loopn, ↓vc_loope, ↓vc_loopr, ↓vcl_nil, ↓vcl_cons, ↓lw_eq, ↓listVC, ↓memK, ↓memR, ↓envOf, ↓guardVC, ↓opVC, ↓pureVC, ↓binT, ↓wrapT, ↓TDsc.isW, ↓binW, ↓binVC, ↓bin8, ↓bin32, ↓bin64, ↓binInt, ↓shVC, ↓unVC, ↓cvVC, ↓rdVC, ↓loadVC, ↓pickC, ↓fillVC, ↓bndVC, ↓sliceVC, ↓bltVC, ↓storeVC, ↓appVC, ↓apzVC, ↓markVC, ↓copyVC, ↓callVC, ↓argsVC, ↓argVC, ↓bindR, ↓bindR1, ↓bindRs, ↓retW_eq, ↓extW_eq, ↓rowW_eq, ↓aggW_eq, ↓plv_nil, ↓plv_tk, ↓plv_fz, ↓plv_ld, ↓pt_eq, ↓pz_eq, ↓pl_eq, ↓delAll, ↓keepM_nil, ↓keepM, ↓extE, ↓extM, ↓leS, ↓leA, ↓retVC, ↓retR, ↓resVC, ↓resV1, ↓ressVC, ↓strU, ↓xAdd64, ↓xSub64, frz, frzs, both_true, both_false, both_dec, both_ndec, ev, absC, getA, setA, delA, tt, AV.good, AV.plain, AV.isSl, AV.cells, AV.one, Cells.len, Cells.get, Cells.sub, Cells.part, Cells.agg, Cells.upd, Cells.set, Cells.cat, Cells.rep, Cells.ones, TDsc.agg, zOf, putE, dstB, letGo, quietOp, slotOp, true_or, or_true, List.append_eq, Int.cast_ofNat_Int, words_len, List.any_cons, List.any_nil, beq_iff_eq, Bool.decide_eq_true, Option.getD_some, Option.getD_none, Option.map_some, Option.map_none, Option.bind_some, Option.isSome_some, Option.isNone_some, Option.isNone_none, Option.isSome_none, ↓reduceIte, Nat.reduceEqDiff, Nat.reduceLT, Nat.reduceLeDiff, Nat.reduceAdd, Nat.reduceSub, Nat.reduceMul, Nat.reduceBEq, Int.reduceLE, Int.reduceLT, Int.reduceToNat, Int.reduceNeg, BitVec.reduceToNat, decide_true, decide_false, and_true, true_and, and_self, Bool.or_true, Bool.true_or, Bool.or_false, Bool.false_or, Bool.not_true, Bool.not_false, List.map_cons, List.map_nil, List.length_cons, List.length_nil, List.getElem?_toArray, List.getElem?_cons_zero, List.getElem?_cons_succ, List.getElem?_nil, forall_const, true_implies, reduceCtorEq, false_and, and_false, false_implies, implies_true, Bool.false_eq_true, Bool.true_eq_false, ne_eq, not_true, not_false_iff, Nat.sub_zero, Nat.zero_add, Nat.add_zero, List.drop_zero, List.drop_succ_cons, List.drop_nil, List.take_zero, List.take_succ_cons, List.take_nil, List.set_cons_zero, List.set_cons_succ, List.nil_append, List.cons_append, List.append_nil, List.replicate_zero, List.replicate_succ, BitVec.ofNat_eq_ofNat, Option.some.injEq, AV.int.injEq, AV.u64.injEq, AV.u32.injEq, AV.u8.injEq, AV.bool.injEq, AV.a64.injEq, AV.a32.injEq, AV.a8.injEq, Nat.zero_le, Int.toNat_natCast, ct4, hx]
      try simp
    · rintro ⟨⟨k, p, c⟩, hI⟩
      obtain ⟨hk, hl, _, _⟩ := id hI
      dsimp only at hk hl
      simp (maxSteps := 10000000) (implicitDefEqProofs := false) only [↓both_true, ↓both_false, ↓entryVC, ↓vc_skip, ↓vc_draw, ↓vc_list, ↓vc_seq, ↓vc_seqn, ↓vc_seqe, ↓vc_seqr, ↓vc_cond, ↓condVC, ↓vc_block, ↓vc_blockn, ↓vc_blockr, ↓vc_blocke, ↓vc_loop, ↓vc_exit, ↓vc_ret, ↓vc_loopn, ↓vc_loope, ↓vc_loopr, ↓vcl_nil, ↓vcl_cons, ↓lw_eq, ↓listVC, ↓memK, ↓memR, ↓envOf, ↓guardVC, ↓opVC, ↓pureVC, ↓binT, ↓wrapT, ↓TDsc.isW, ↓binW, ↓binVC, ↓bin8, ↓bin32, ↓bin64, ↓binInt, ↓shVC, ↓unVC, ↓cvVC, ↓rdVC, ↓loadVC, ↓pickC, ↓fillVC, ↓bndVC, ↓sliceVC, ↓bltVC, ↓storeVC, ↓appVC, ↓apzVC, ↓markVC, ↓copyVC, ↓callVC, ↓argsVC, ↓argVC, ↓bindR, ↓bindR1, ↓bindRs, ↓retW_eq, ↓extW_eq, ↓rowW_eq, ↓aggW_eq, ↓plv_nil, ↓plv_tk, ↓plv_fz, ↓plv_ld, ↓pt_eq, ↓pz_eq, ↓pl_eq, ↓delAll, ↓keepM_nil, ↓keepM, ↓extE, ↓extM, ↓leS, ↓leA, ↓retVC, ↓retR, ↓resVC, ↓resV1, ↓ressVC, ↓strU, ↓xAdd64, ↓xSub64, frz, frzs, both_true, both_false, both_dec, both_ndec, ev, absC, getA, setA, delA, tt, AV.good, AV.plain, AV.isSl, AV.cells, AV.one, Cells.len, Cells.get, Cells.sub, Cells.part, Cells.agg, Cells.upd, Cells.set, Cells.cat, Cells.rep, Cells.ones, TDsc.agg, zOf, putE, dstB, letGo, quietOp, slotOp, true_or, or_true, List.append_eq, Int.cast_ofNat_Int, words_len, List.any_cons, List.any_nil, beq_iff_eq, Bool.decide_eq_true, Option.getD_some, Option.getD_none, Option.map_some, Option.map_none, Option.bind_some, Option.isSome_some, Option.isNone_some, Option.isNone_none, Option.isSome_none, ↓reduceIte, Nat.reduceEqDiff, Nat.reduceLT, Nat.reduceLeDiff, Nat.reduceAdd, Nat.reduceSub, Nat.reduceMul, Nat.reduceBEq, Int.reduceLE, Int.reduceLT, Int.reduceToNat, Int.reduceNeg, BitVec.reduceToNat, decide_true, decide_false, and_true, true_and, and_self, Bool.or_true, Bool.true_or, Bool.or_false, Bool.false_or, Bool.not_true, Bool.not_false, List.map_cons, List.map_nil, List.length_cons, List.length_nil, List.getElem?_toArray, List.getElem?_cons_zero, List.getElem?_cons_succ, List.getElem?_nil, forall_const, true_implies, reduceCtorEq, false_and, and_false, false_implies, implies_true, Bool.false_eq_true, Bool.true_eq_false, ne_eq, not_true, not_false_iff, Nat.sub_zero, Nat.zero_add, Nat.add_zero, List.drop_zero, List.drop_succ_cons, List.drop_nil, List.take_zero, List.take_succ_cons, List.take_nil, List.set_cons_zero, List.set_cons_succ, List.nil_append, List.cons_append, List.append_nil, List.replicate_zero, List.replicate_succ, BitVec.ofNat_eq_ofNat, Option.some.injEq, AV.int.injEq, AV.u64.injEq, AV.u32.injEq, AV.u8.injEq, AV.bool.injEq, AV.a64.injEq, AV.a32.injEq, AV.a8.injEq, Nat.zero_le, Int.toNat_natCast, ct4, hx, cMul64]
      refine ⟨fun hlt => ?_, fun hge => ?_⟩
      · have hlt : k < 4 := by omega
        refine ⟨by omega, hlt, by omega, by omega, by simp [intIn]; omega, ⟨(k + 1, _, _), times_step hx hlt hI⟩, by dsimp only; omega, ⟨by simp, rfl⟩, rfl⟩
      · obtain rfl : k = 4 := by omega
        obtain ⟨rfl, rfl⟩ := times_end hx hI
        simp only [words_len, ↓reduceIte, true_and]
        exact h
  · exact h.elim
def ct5 : CTab := fun F => match F with
  | 144 => .ext xAdd64
  | 148 => .ext xSub64
  | 124 => .fn cPlus
  | 145 => .fn cMinus
  | 146 => .fn cPrime
  | 141 => .fn cFrom
  | 125 => .fn cReduce
  | 143 => .fn cMul64
  | 122 => .fn cProduct
  | 123 => .fn cTimes
  | _ => .fn noCT
theorem ct5_ok : CTok Try.prog ct5 := by
  intro F
  unfold ct5
  split
  · exact sAdd64
  · exact sSub64
  · exact sPlus
  · exact sMinus
  · exact sPrime
  · exact sFrom
  · exact sReduce
  · exact sMul64
  · exact sProduct
  · exact sTimes
  · exact sound_none _ _
set_option maxRecDepth 100000 in
set_option maxHeartbeats 1000000 in
theorem sMul : Sound Try.prog 73 cMul := by
  refine sound_vc (tt := tt) (ct := ct5) ttok ct5_ok mixed Try.func73 rfl (by decide) (rs := [.cell 4 39]) rfl (ts := [39]) (k := 0) ?_
  intro cas K h
  unfold cMul at h
  split at h
  · rename_i xs ys
    rw [Try.ntmps73]
    refine ⟨by simp, ?_⟩
    obtain ⟨⟨hx, hy⟩, h⟩ := h
    simp (maxSteps := 10000000) (implicitDefEqProofs := false) only [↓both_true, ↓both_false, ↓entryVC, ↓vc_skip, ↓vc_draw, ↓vc_list, ↓vc_seq, ↓vc_seqn, ↓vc_seqe, ↓vc_seqr, ↓vc_cond, ↓condVC, ↓vc_block, ↓vc_blockn, ↓vc_blockr, ↓vc_blocke, ↓vc_loop, ↓vc_exit, ↓vc_ret, ↓vc_loopn, ↓vc_loope, ↓vc_loopr, ↓vcl_nil, ↓vcl_cons, ↓lw_eq, ↓listVC, ↓memK, ↓memR, ↓envOf, ↓guardVC, ↓opVC, ↓pureVC, ↓binT, ↓wrapT, ↓TDsc.isW, ↓binW, ↓binVC, ↓bin8, ↓bin32, ↓bin64, ↓binInt, ↓shVC, ↓unVC, ↓cvVC, ↓rdVC, ↓loadVC, ↓pickC, ↓fillVC, ↓bndVC, ↓sliceVC, ↓bltVC, ↓storeVC, ↓appVC, ↓apzVC, ↓markVC, ↓copyVC, ↓callVC, ↓argsVC, ↓argVC, ↓bindR, ↓bindR1, ↓bindRs, ↓retW_eq, ↓extW_eq, ↓rowW_eq, ↓aggW_eq, ↓plv_nil, ↓plv_tk, ↓plv_fz, ↓plv_ld, ↓pt_eq, ↓pz_eq, ↓pl_eq, ↓delAll, ↓keepM_nil, ↓keepM, ↓extE, ↓extM, ↓leS, ↓leA, ↓retVC, ↓retR, ↓resVC, ↓resV1, ↓ressVC, ↓strU, ↓xAdd64, ↓xSub64, frz, frzs, both_true, both_false, both_dec, both_ndec, ev, absC, getA, setA, delA, tt, AV.good, AV.plain, AV.isSl, AV.cells, AV.one, Cells.len, Cells.get, Cells.sub, Cells.part, Cells.agg, Cells.upd, Cells.set, Cells.cat, Cells.rep, Cells.ones, TDsc.agg, zOf, putE, dstB, letGo, quietOp, slotOp, true_or, or_true, List.append_eq, Int.cast_ofNat_Int, words_len, List.any_cons, List.any_nil, beq_iff_eq, Bool.decide_eq_true, Option.getD_some, Option.getD_none, Option.map_some, Option.map_none, Option.bind_some, Option.isSome_some, Option.isNone_some, Option.isNone_none, Option.isSome_none, ↓reduceIte, Nat.reduceEqDiff, Nat.reduceLT, Nat.reduceLeDiff, Nat.reduceAdd, Nat.reduceSub, Nat.reduceMul, Nat.reduceBEq, Int.reduceLE, Int.reduceLT, Int.reduceToNat, Int.reduceNeg, BitVec.reduceToNat, decide_true, decide_false, and_true, true_and, and_self, Bool.or_true, Bool.true_or, Bool.or_false, Bool.false_or, Bool.not_true, Bool.not_false, List.map_cons, List.map_nil, List.length_cons, List.length_nil, List.getElem?_toArray, List.getElem?_cons_zero, List.getElem?_cons_succ, List.getElem?_nil, forall_const, true_implies, reduceCtorEq, false_and, and_false, false_implies, implies_true, Bool.false_eq_true, Bool.true_eq_false, ne_eq, not_true, not_false_iff, Nat.sub_zero, Nat.zero_add, Nat.add_zero, List.drop_zero, List.drop_succ_cons, List.drop_nil, List.take_zero, List.take_succ_cons, List.take_nil, List.set_cons_zero, List.set_cons_succ, List.nil_append, List.cons_append, List.append_nil, List.replicate_zero, List.replicate_succ, BitVec.ofNat_eq_ofNat, Option.some.injEq, AV.int.injEq, AV.u64.injEq, AV.u32.injEq, AV.u8.injEq, AV.bool.injEq, AV.a64.injEq, AV.a32.injEq, AV.a8.injEq, Nat.zero_le, Int.toNat_natCast, ct5, cProduct, cTimes, cPlus, cReduce, hx, hy]
    refine (congrArg (fun l => K (CR.one (CR1.v (AV.a64 l)))) (words4_congr ?_)).mp h
    have hN : val xs * val ys < 13407807929942597099574024998205846127479365820592393377723561443721764030073546976801874298166903427690031858186486050853753882811946569946433649006084096 := by
      have h1 := val_lt4 hx
      have h2 := val_lt4 hy
      have := prod_bound (x := val xs) (y := val ys) (a := 115792089237316195423570985008687907853269984665640564039457584007913129639935) (b := 115792089237316195423570985008687907853269984665640564039457584007913129639935) (by omega) (by omega)
      omega
    congr 1
    have := mul_fold _ hN
    simp only [val4, val_one, BitVec.toNat_mul, BitVec.toNat_add, BitVec.toNat_ofNat, BitVec.reduceToNat, Nat.reducePow]
    exact this.symm
  · exact h.elim
end Go.Proofs.Ytkpbjkhgiackpaa.Fld
