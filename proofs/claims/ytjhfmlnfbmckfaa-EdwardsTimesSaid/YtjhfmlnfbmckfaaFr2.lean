/- The document's field, walked: products. -/
import Derived.Test.YtjhfmlnfbmckfaaFr1
import Derived.Test.YtjhfmlnfbmckfaaFd3
import Derived.Test.YtjhfmlnfbmckfaaVal2
namespace Go.Proofs.Ytjhfmlnfbmckfaa
open Go Go.RowKit
set_option linter.unusedVariables false
set_option linter.unusedSimpArgs false

theorem ofInt_nat {n : Nat} (h : n < 18446744073709551616) : (BitVec.ofInt 64 (n : Int)).toNat = n := by
  rw [BitVec.ofInt_natCast, BitVec.toNat_ofNat]; omega
def cHalves : CT := fun cas K => match cas with
  | [.v (.a64 xs)] => xs.length = 4 ∧ K (.one (.v (.a64 (digs 8 (val xs)))))
  | _ => False
def HalvesI (xs : List U64) (s : Nat × List U64) : Prop := s.1 ≤ 8 ∧ s.2.length = 8 ∧ ∀ j, j < s.1 → g64 s.2 j = g64 (digs 8 (val xs)) j
theorem halves_step {xs p : List U64} {k : Nat} (hx : xs.length = 4) (hk : k < 8) (h : HalvesI xs (k, p)) : HalvesI xs (k + 1, p.set k ((g64 xs (k / 2)) >>> (32 * (k % 2)) &&& 4294967295#64)) := by
  obtain ⟨h1, h2, h3⟩ := h
  dsimp only at h1 h2 h3
  refine ⟨by dsimp only; omega, by simp [h2], fun j hj => ?_⟩
  dsimp only at hj ⊢
  by_cases hjk : j = k
  · subst hjk
    rw [g64_set_eq (by omega), g64_digs 8 _ j hk]
    apply BitVec.eq_of_toNat_eq
    have e := val_part xs (j / 2) (32 * (j % 2)) 32 (by omega) (by omega)
    rw [show 64 * (j / 2) + 32 * (j % 2) = 32 * j by omega] at e
    have ea : ((g64 xs (j / 2)) >>> (32 * (j % 2)) &&& 4294967295#64).toNat = (g64 xs (j / 2)).toNat / 2 ^ (32 * (j % 2)) % 4294967296 := by
      rw [BitVec.toNat_and, BitVec.toNat_ushiftRight, Nat.shiftRight_eq_div_pow]; exact Nat.and_two_pow_sub_one_eq_mod _ 32
    rw [ea, BitVec.toNat_ofNat]
    rw [show (2 : Nat) ^ 32 = 4294967296 from rfl] at e
    omega
  · rw [g64_set_ne (Ne.symm hjk)]; exact h3 j (by omega)
theorem halves_end {xs p : List U64} (h : HalvesI xs (8, p)) : p = digs 8 (val xs) := by
  obtain ⟨h1, h2, h3⟩ := h
  exact list64_ext (by rw [digs_len]; exact h2) fun j hj => h3 j (by dsimp only at h2 ⊢; omega)
set_option maxRecDepth 100000 in
set_option maxHeartbeats 1000000 in
theorem sHalves : Sound Try.prog 78 cHalves := by
  refine sound_vc (tt := tt) (ct := cu0) ttok cu0_ok mixed Try.func78 rfl (by decide) (rs := [.cell 2 69]) rfl (ts := [69]) (k := 0) ?_
  intro cas K h
  unfold cHalves at h
  split at h
  · rename_i xs
    rw [Try.ntmps78]
    refine ⟨by simp, ?_⟩
    obtain ⟨hx, h⟩ := h
    simp (maxSteps := 10000000) (implicitDefEqProofs := false) only [↓both_true, ↓both_false, ↓entryVC, ↓vc_skip, ↓vc_draw, ↓vc_list, ↓vc_seq, ↓vc_seqn, ↓vc_seqe, ↓vc_seqr, ↓vc_cond, ↓condVC, ↓vc_block, ↓vc_blockn, ↓vc_blockr, ↓vc_blocke, ↓vc_loop, ↓vc_exit, ↓vc_ret, ↓vc_loopn, ↓vc_loope, ↓vc_loopr, ↓vcl_nil, ↓vcl_cons, ↓lw_eq, ↓listVC, ↓memK, ↓memR, ↓envOf, ↓guardVC, ↓opVC, ↓pureVC, ↓binVC, ↓bin8, ↓bin32, ↓bin64, ↓binInt, ↓shVC, ↓unVC, ↓cvVC, ↓rdVC, ↓loadVC, ↓pickC, ↓fillVC, ↓bndVC, ↓sliceVC, ↓bltVC, ↓storeVC, ↓appVC, ↓apzVC, ↓markVC, ↓copyVC, ↓callVC, ↓argsVC, ↓argVC, ↓bindR, ↓bindR1, ↓bindRs, ↓retW_eq, ↓extW_eq, ↓rowW_eq, ↓aggW_eq, ↓plv_nil, ↓plv_tk, ↓plv_fz, ↓plv_ld, ↓pt_eq, ↓pz_eq, ↓pl_eq, ↓delAll, ↓keepM, ↓extM, ↓leS, ↓leA, ↓retVC, ↓retR, ↓resVC, ↓resV1, ↓ressVC, ↓strU, ↓xAdd64, ↓xSub64, both_true, both_false, both_dec, both_ndec, ev, absC, getA, setA, delA, tt, AV.good, AV.plain, AV.isSl, AV.cells, AV.one, Cells.len, Cells.get, Cells.sub, Cells.part, Cells.agg, Cells.upd, Cells.set, Cells.cat, Cells.rep, Cells.ones, TDsc.agg, zOf, putE, dstB, letGo, quietOp, slotOp, List.append_eq, Int.cast_ofNat_Int, words_len, List.any_cons, List.any_nil, beq_iff_eq, Bool.decide_eq_true, Option.getD_some, Option.getD_none, Option.map_some, Option.map_none, Option.bind_some, Option.isSome_some, Option.isNone_some, Option.isNone_none, Option.isSome_none, ↓reduceIte, Nat.reduceEqDiff, Nat.reduceLT, Nat.reduceLeDiff, Nat.reduceAdd, Nat.reduceSub, Nat.reduceMul, Nat.reduceBEq, Int.reduceLE, Int.reduceLT, Int.reduceToNat, Int.reduceNeg, BitVec.reduceToNat, decide_true, decide_false, and_true, true_and, and_self, Bool.or_true, Bool.true_or, Bool.or_false, Bool.false_or, Bool.not_true, Bool.not_false, List.map_cons, List.map_nil, List.length_cons, List.length_nil, List.getElem?_toArray, List.getElem?_cons_zero, List.getElem?_cons_succ, List.getElem?_nil, forall_const, true_implies, reduceCtorEq, false_and, and_false, false_implies, implies_true, Bool.false_eq_true, Bool.true_eq_false, ne_eq, not_true, not_false_iff, Nat.sub_zero, Nat.zero_add, Nat.add_zero, List.drop_zero, List.drop_succ_cons, List.drop_nil, List.take_zero, List.take_succ_cons, List.take_nil, List.set_cons_zero, List.set_cons_succ, List.nil_append, List.cons_append, List.append_nil, List.replicate_zero, List.replicate_succ, BitVec.ofNat_eq_ofNat, Option.some.injEq, AV.int.injEq, AV.u64.injEq, AV.u32.injEq, AV.u8.injEq, AV.bool.injEq, AV.a64.injEq, AV.a32.injEq, AV.a8.injEq, Nat.zero_le, Int.toNat_natCast, cu0, hx]
    intro g0 g1 g2
    refine loop_ _ _ _ (ι := {s : Nat × List U64 // HalvesI xs s}) (fun s => ⟨[(4, .int (s.1.1 : Int)), (3, .ptr 3 g2 0), (2, .ptr 2 g1 0), (1, .ptr 1 g0 0)], [(3, .own g2 69 (.c64 s.1.2)), (2, .own g1 69 (.c64 [0, 0, 0, 0, 0, 0, 0, 0])), (1, .own g0 24 (.c64 xs))], 4⟩) (fun s => 8 - s.1.1) ⟨(0, [0, 0, 0, 0, 0, 0, 0, 0]), ⟨Nat.zero_le _, rfl, fun j hj => absurd hj (Nat.not_lt_zero j)⟩⟩ ?_ ?_
    · simp (maxSteps := 10000000) (implicitDefEqProofs := false) only [↓both_true, ↓both_false, ↓entryVC, ↓vc_skip, ↓vc_draw, ↓vc_list, ↓vc_seq, ↓vc_seqn, ↓vc_seqe, ↓vc_seqr, ↓vc_cond, ↓condVC, ↓vc_block, ↓vc_blockn, ↓vc_blockr, ↓vc_blocke, ↓vc_loop, ↓vc_exit, ↓vc_ret, ↓vc_loopn, ↓vc_loope, ↓vc_loopr, ↓vcl_nil, ↓vcl_cons, ↓lw_eq, ↓listVC, ↓memK, ↓memR, ↓envOf, ↓guardVC, ↓opVC, ↓pureVC, ↓binVC, ↓bin8, ↓bin32, ↓bin64, ↓binInt, ↓shVC, ↓unVC, ↓cvVC, ↓rdVC, ↓loadVC, ↓pickC, ↓fillVC, ↓bndVC, ↓sliceVC, ↓bltVC, ↓storeVC, ↓appVC, ↓apzVC, ↓markVC, ↓copyVC, ↓callVC, ↓argsVC, ↓argVC, ↓bindR, ↓bindR1, ↓bindRs, ↓retW_eq, ↓extW_eq, ↓rowW_eq, ↓aggW_eq, ↓plv_nil, ↓plv_tk, ↓plv_fz, ↓plv_ld, ↓pt_eq, ↓pz_eq, ↓pl_eq, ↓delAll, ↓keepM, ↓extM, ↓leS, ↓leA, ↓retVC, ↓retR, ↓resVC, ↓resV1, ↓ressVC, ↓strU, ↓xAdd64, ↓xSub64, both_true, both_false, both_dec, both_ndec, ev, absC, getA, setA, delA, tt, AV.good, AV.plain, AV.isSl, AV.cells, AV.one, Cells.len, Cells.get, Cells.sub, Cells.part, Cells.agg, Cells.upd, Cells.set, Cells.cat, Cells.rep, Cells.ones, TDsc.agg, zOf, putE, dstB, letGo, quietOp, slotOp, List.append_eq, Int.cast_ofNat_Int, words_len, List.any_cons, List.any_nil, beq_iff_eq, Bool.decide_eq_true, Option.getD_some, Option.getD_none, Option.map_some, Option.map_none, Option.bind_some, Option.isSome_some, Option.isNone_some, Option.isNone_none, Option.isSome_none, ↓reduceIte, Nat.reduceEqDiff, Nat.reduceLT, Nat.reduceLeDiff, Nat.reduceAdd, Nat.reduceSub, Nat.reduceMul, Nat.reduceBEq, Int.reduceLE, Int.reduceLT, Int.reduceToNat, Int.reduceNeg, BitVec.reduceToNat, decide_true, decide_false, and_true, true_and, and_self, Bool.or_true, Bool.true_or, Bool.or_false, Bool.false_or, Bool.not_true, Bool.not_false, List.map_cons, List.map_nil, List.length_cons, List.length_nil, List.getElem?_toArray, List.getElem?_cons_zero, List.getElem?_cons_succ, List.getElem?_nil, forall_const, true_implies, reduceCtorEq, false_and, and_false, false_implies, implies_true, Bool.false_eq_true, Bool.true_eq_false, ne_eq, not_true, not_false_iff, Nat.sub_zero, Nat.zero_add, Nat.add_zero, List.drop_zero, List.drop_succ_cons, List.drop_nil, List.take_zero, List.take_succ_cons, List.take_nil, List.set_cons_zero, List.set_cons_succ, List.nil_append, List.cons_append, List.append_nil, List.replicate_zero, List.replicate_succ, BitVec.ofNat_eq_ofNat, Option.some.injEq, AV.int.injEq, AV.u64.injEq, AV.u32.injEq, AV.u8.injEq, AV.bool.injEq, AV.a64.injEq, AV.a32.injEq, AV.a8.injEq, Nat.zero_le, Int.toNat_natCast, cu0, hx]
      try trivial
    · rintro ⟨⟨k, p⟩, hI⟩
      obtain ⟨hk, hl, _⟩ := id hI
      dsimp only at hk hl
      simp (maxSteps := 10000000) (implicitDefEqProofs := false) only [↓both_true, ↓both_false, ↓entryVC, ↓vc_skip, ↓vc_draw, ↓vc_list, ↓vc_seq, ↓vc_seqn, ↓vc_seqe, ↓vc_seqr, ↓vc_cond, ↓condVC, ↓vc_block, ↓vc_blockn, ↓vc_blockr, ↓vc_blocke, ↓vc_loop, ↓vc_exit, ↓vc_ret, ↓vc_loopn, ↓vc_loope, ↓vc_loopr, ↓vcl_nil, ↓vcl_cons, ↓lw_eq, ↓listVC, ↓memK, ↓memR, ↓envOf, ↓guardVC, ↓opVC, ↓pureVC, ↓binVC, ↓bin8, ↓bin32, ↓bin64, ↓binInt, ↓shVC, ↓unVC, ↓cvVC, ↓rdVC, ↓loadVC, ↓pickC, ↓fillVC, ↓bndVC, ↓sliceVC, ↓bltVC, ↓storeVC, ↓appVC, ↓apzVC, ↓markVC, ↓copyVC, ↓callVC, ↓argsVC, ↓argVC, ↓bindR, ↓bindR1, ↓bindRs, ↓retW_eq, ↓extW_eq, ↓rowW_eq, ↓aggW_eq, ↓plv_nil, ↓plv_tk, ↓plv_fz, ↓plv_ld, ↓pt_eq, ↓pz_eq, ↓pl_eq, ↓delAll, ↓keepM, ↓extM, ↓leS, ↓leA, ↓retVC, ↓retR, ↓resVC, ↓resV1, ↓ressVC, ↓strU, ↓xAdd64, ↓xSub64, both_true, both_false, both_dec, both_ndec, ev, absC, getA, setA, delA, tt, AV.good, AV.plain, AV.isSl, AV.cells, AV.one, Cells.len, Cells.get, Cells.sub, Cells.part, Cells.agg, Cells.upd, Cells.set, Cells.cat, Cells.rep, Cells.ones, TDsc.agg, zOf, putE, dstB, letGo, quietOp, slotOp, List.append_eq, Int.cast_ofNat_Int, words_len, List.any_cons, List.any_nil, beq_iff_eq, Bool.decide_eq_true, Option.getD_some, Option.getD_none, Option.map_some, Option.map_none, Option.bind_some, Option.isSome_some, Option.isNone_some, Option.isNone_none, Option.isSome_none, ↓reduceIte, Nat.reduceEqDiff, Nat.reduceLT, Nat.reduceLeDiff, Nat.reduceAdd, Nat.reduceSub, Nat.reduceMul, Nat.reduceBEq, Int.reduceLE, Int.reduceLT, Int.reduceToNat, Int.reduceNeg, BitVec.reduceToNat, decide_true, decide_false, and_true, true_and, and_self, Bool.or_true, Bool.true_or, Bool.or_false, Bool.false_or, Bool.not_true, Bool.not_false, List.map_cons, List.map_nil, List.length_cons, List.length_nil, List.getElem?_toArray, List.getElem?_cons_zero, List.getElem?_cons_succ, List.getElem?_nil, forall_const, true_implies, reduceCtorEq, false_and, and_false, false_implies, implies_true, Bool.false_eq_true, Bool.true_eq_false, ne_eq, not_true, not_false_iff, Nat.sub_zero, Nat.zero_add, Nat.add_zero, List.drop_zero, List.drop_succ_cons, List.drop_nil, List.take_zero, List.take_succ_cons, List.take_nil, List.set_cons_zero, List.set_cons_succ, List.nil_append, List.cons_append, List.append_nil, List.replicate_zero, List.replicate_succ, BitVec.ofNat_eq_ofNat, Option.some.injEq, AV.int.injEq, AV.u64.injEq, AV.u32.injEq, AV.u8.injEq, AV.bool.injEq, AV.a64.injEq, AV.a32.injEq, AV.a8.injEq, Nat.zero_le, Int.toNat_natCast, cu0, hx, hl]
      refine ⟨fun hlt => ?_, fun hge => ?_⟩
      · have hlt : k < 8 := by omega
        have e1 : ((k : Int) / 2).toNat = k / 2 := by omega
        have e2 : (BitVec.ofInt 64 (32 * ((k : Int) % 2))).toNat = 32 * (k % 2) := by
          rw [show 32 * ((k : Int) % 2) = ((32 * (k % 2) : Nat) : Int) by omega]; exact ofInt_nat (by omega)
        rw [e1, e2]
        exact ⟨⟨by omega, by simp [intIn]; omega⟩, by omega, by omega, by omega, by simp [intIn]; omega, by omega, hlt, by simp [intIn]; omega, ⟨(k + 1, _), halves_step hx hlt hI⟩, by dsimp only; omega, by simp, rfl⟩
      · obtain rfl : k = 8 := by omega
        rw [halves_end hI]
        exact h
  · exact h.elim
def cu4 : CTab := fun F => match F with
  | 78 => .fn cHalves
  | _ => .fn noCT
theorem cu4_ok : CTok Try.prog cu4 := by
  intro F
  unfold cu4
  split
  · exact sHalves
  · exact sound_none _ _

def cDigits : CT := fun cas K => match cas with
  | [.v (.a64 xs), .v (.a64 ys)] => (xs.length = 4 ∧ ys.length = 4) ∧ K (.one (.v (.a64 (digs 16 (val xs * val ys)))))
  | _ => False
theorem dmac {c d x y : U64} (hc : c.toNat < 4294967296) (hd : d.toNat < 4294967296) (hx : x.toNat < 4294967296) (hy : y.toNat < 4294967296) :
    (c + d + x * y &&& 4294967295#64).toNat + 4294967296 * ((c + d + x * y) >>> 32).toNat = x.toNat * y.toNat + d.toNat + c.toNat ∧ (c + d + x * y &&& 4294967295#64).toNat < 4294967296 ∧ ((c + d + x * y) >>> 32).toNat < 4294967296 := by
  have hb : x.toNat * y.toNat ≤ 4294967295 * 4294967295 := prod_bound (by omega) (by omega)
  have e : (c + d + x * y).toNat = c.toNat + d.toNat + x.toNat * y.toNat := by
    simp only [BitVec.toNat_add, BitVec.toNat_mul]
    generalize x.toNat * y.toNat = E at *
    omega
  rw [lo32, hi32, e]
  generalize x.toNat * y.toNat = E at *
  omega
/-- A row of the digits' product. -/
def DRowI (P0 : Nat) (x : U64) (i : Nat) (ys : List U64) (s : Nat × List U64 × U64) : Prop := s.1 ≤ 8 ∧ s.2.1.length = 16 ∧ Digs s.2.1 ∧ s.2.2.toNat < 4294967296 ∧ (∀ j, i + 8 ≤ j → g64 s.2.1 j = 0) ∧ dval s.2.1 + 4294967296 ^ (i + s.1) * s.2.2.toNat = P0 + 4294967296 ^ i * (x.toNat * dval (ys.take s.1))
def DProdI (xs ys : List U64) (s : Nat × List U64) : Prop := s.1 ≤ 8 ∧ s.2.length = 16 ∧ Digs s.2 ∧ (∀ j, s.1 + 8 ≤ j → g64 s.2 j = 0) ∧ dval s.2 = dval (xs.take s.1) * dval ys
theorem drow_step {P0 : Nat} {x c : U64} {i k : Nat} {ys q : List U64} (hy : ys.length = 8) (hyd : Digs ys) (hx : x.toNat < 4294967296) (hi : i < 8) (hk : k < 8) (h : DRowI P0 x i ys (k, q, c)) :
    DRowI P0 x i ys (k + 1, q.set (i + k) (c + g64 q (i + k) + x * g64 ys k &&& 4294967295#64), (c + g64 q (i + k) + x * g64 ys k) >>> 32) := by
  obtain ⟨h1, h2, hD, hc, h3, h4⟩ := h
  dsimp only at h1 h2 hD hc h3 h4
  obtain ⟨hm, hm1, hm2⟩ := dmac hc (hD (i + k)) hx (hyd k)
  have hs := dval_set q (i + k) (c + g64 q (i + k) + x * g64 ys k &&& 4294967295#64) (by omega)
  refine ⟨by dsimp only; omega, by simp [h2], hD.set _ hm1, hm2, fun j hj => ?_, ?_⟩
  · dsimp only
    rw [g64_set_ne (by omega)]; exact h3 j hj
  · dsimp only
    generalize (c + g64 q (i + k) + x * g64 ys k &&& 4294967295#64) = v at *
    generalize (c + g64 q (i + k) + x * g64 ys k) >>> 32 = c' at *
    rw [dval_take_succ ys k (by omega), ← Nat.add_assoc, Nat.pow_succ, Nat.mul_add x.toNat, Nat.mul_add (4294967296 ^ i), Nat.mul_assoc]
    have e4 : 4294967296 ^ i * (x.toNat * (4294967296 ^ k * (g64 ys k).toNat)) = 4294967296 ^ (i + k) * (x.toNat * (g64 ys k).toNat) := by
      rw [Nat.pow_add, Nat.mul_left_comm x.toNat, Nat.mul_assoc]
    rw [e4]
    generalize 4294967296 ^ (i + k) = D at *
    have e3 : D * (v.toNat + 4294967296 * c'.toNat) = D * (x.toNat * (g64 ys k).toNat + (g64 q (i + k)).toNat + c.toNat) := by rw [hm]
    rw [Nat.mul_add, Nat.mul_add, Nat.mul_add] at e3
    omega
theorem dprod_step {xs ys p q : List U64} {c : U64} {i : Nat} (hx : xs.length = 8) (hy : ys.length = 8) (hi : i < 8) (hv : dval p = dval (xs.take i) * dval ys) (h : DRowI (dval p) (g64 xs i) i ys (8, q, c)) : DProdI xs ys (i + 1, q.set (i + 8) c) := by
  obtain ⟨h1, h2, hD, hc, h3, h4⟩ := h
  dsimp only at h1 h2 hD hc h3 h4
  have hs := dval_set q (i + 8) c (by omega)
  rw [h3 (i + 8) (by omega)] at hs
  rw [List.take_of_length_le (l := ys) (by omega)] at h4
  refine ⟨by dsimp only; omega, by simp [h2], hD.set _ hc, fun j hj => ?_, ?_⟩
  · dsimp only at hj ⊢
    rw [g64_set_ne (by omega)]; exact h3 j (by omega)
  · dsimp only
    rw [dval_take_succ xs i (by omega), Nat.add_mul, ← hv, Nat.mul_assoc]
    simp only [show ((0 : U64).toNat) = 0 from rfl, Nat.mul_zero, Nat.add_zero] at hs
    omega
theorem dprod_end {xs ys p : List U64} (hx : xs.length = 8) (h : DProdI xs ys (8, p)) : p = digs 16 (dval xs * dval ys) := by
  obtain ⟨h1, h2, hD, h3, h4⟩ := h
  dsimp only at h1 h2 hD h3 h4
  rw [List.take_of_length_le (l := xs) (by omega)] at h4
  have e := digs_dval p hD
  rw [h2, h4] at e
  exact e.symm
theorem zeros_get (n j : Nat) : g64 (List.replicate n 0) j = 0 := by
  by_cases h : j < n <;> simp [g64, List.getD_eq_getElem?_getD, List.getElem?_replicate, h]
theorem zeros_dval : ∀ n : Nat, dval (List.replicate n 0) = 0
  | 0 => rfl
  | n + 1 => by rw [List.replicate_succ, dval, zeros_dval n]; rfl
theorem dval_digs8 {xs : List U64} (h : xs.length = 4) : dval (digs 8 (val xs)) = val xs := by
  have := val_lt4 h
  rw [dval_digs]; omega
set_option maxRecDepth 100000 in
set_option maxHeartbeats 1000000 in
theorem sDigits : Sound Try.prog 68 cDigits := by
  refine sound_vc (tt := tt) (ct := cu4) ttok cu4_ok mixed Try.func68 rfl (by decide) (rs := [.cell 4 73]) rfl (ts := [73]) (k := 0) ?_
  intro cas K h
  unfold cDigits at h
  split at h
  · rename_i xs ys
    rw [Try.ntmps68]
    refine ⟨by simp, ?_⟩
    obtain ⟨⟨hx, hy⟩, h⟩ := h
    simp (maxSteps := 10000000) (implicitDefEqProofs := false) only [↓both_true, ↓both_false, ↓entryVC, ↓vc_skip, ↓vc_draw, ↓vc_list, ↓vc_seq, ↓vc_seqn, ↓vc_seqe, ↓vc_seqr, ↓vc_cond, ↓condVC, ↓vc_block, ↓vc_blockn, ↓vc_blockr, ↓vc_blocke, ↓vc_loop, ↓vc_exit, ↓vc_ret, ↓vc_loopn, ↓vc_loope, ↓vc_loopr, ↓vcl_nil, ↓vcl_cons, ↓lw_eq, ↓listVC, ↓memK, ↓memR, ↓envOf, ↓guardVC, ↓opVC, ↓pureVC, ↓binVC, ↓bin8, ↓bin32, ↓bin64, ↓binInt, ↓shVC, ↓unVC, ↓cvVC, ↓rdVC, ↓loadVC, ↓pickC, ↓fillVC, ↓bndVC, ↓sliceVC, ↓bltVC, ↓storeVC, ↓appVC, ↓apzVC, ↓markVC, ↓copyVC, ↓callVC, ↓argsVC, ↓argVC, ↓bindR, ↓bindR1, ↓bindRs, ↓retW_eq, ↓extW_eq, ↓rowW_eq, ↓aggW_eq, ↓plv_nil, ↓plv_tk, ↓plv_fz, ↓plv_ld, ↓pt_eq, ↓pz_eq, ↓pl_eq, ↓delAll, ↓keepM, ↓extM, ↓leS, ↓leA, ↓retVC, ↓retR, ↓resVC, ↓resV1, ↓ressVC, ↓strU, ↓xAdd64, ↓xSub64, both_true, both_false, both_dec, both_ndec, ev, absC, getA, setA, delA, tt, AV.good, AV.plain, AV.isSl, AV.cells, AV.one, Cells.len, Cells.get, Cells.sub, Cells.part, Cells.agg, Cells.upd, Cells.set, Cells.cat, Cells.rep, Cells.ones, TDsc.agg, zOf, putE, dstB, letGo, quietOp, slotOp, List.append_eq, Int.cast_ofNat_Int, words_len, List.any_cons, List.any_nil, beq_iff_eq, Bool.decide_eq_true, Option.getD_some, Option.getD_none, Option.map_some, Option.map_none, Option.bind_some, Option.isSome_some, Option.isNone_some, Option.isNone_none, Option.isSome_none, ↓reduceIte, Nat.reduceEqDiff, Nat.reduceLT, Nat.reduceLeDiff, Nat.reduceAdd, Nat.reduceSub, Nat.reduceMul, Nat.reduceBEq, Int.reduceLE, Int.reduceLT, Int.reduceToNat, Int.reduceNeg, BitVec.reduceToNat, decide_true, decide_false, and_true, true_and, and_self, Bool.or_true, Bool.true_or, Bool.or_false, Bool.false_or, Bool.not_true, Bool.not_false, List.map_cons, List.map_nil, List.length_cons, List.length_nil, List.getElem?_toArray, List.getElem?_cons_zero, List.getElem?_cons_succ, List.getElem?_nil, forall_const, true_implies, reduceCtorEq, false_and, and_false, false_implies, implies_true, Bool.false_eq_true, Bool.true_eq_false, ne_eq, not_true, not_false_iff, Nat.sub_zero, Nat.zero_add, Nat.add_zero, List.drop_zero, List.drop_succ_cons, List.drop_nil, List.take_zero, List.take_succ_cons, List.take_nil, List.set_cons_zero, List.set_cons_succ, List.nil_append, List.cons_append, List.append_nil, List.replicate_zero, List.replicate_succ, BitVec.ofNat_eq_ofNat, Option.some.injEq, AV.int.injEq, AV.u64.injEq, AV.u32.injEq, AV.u8.injEq, AV.bool.injEq, AV.a64.injEq, AV.a32.injEq, AV.a8.injEq, Nat.zero_le, Int.toNat_natCast, cu4, hx, hy]
    intro g0 g1 g2
    refine draw_ _ _ _ [(.tk, 0), (.tk, 2), (.ld, 1), (.ld, 3), (.ld, 4), (.ld, 5), (.ld, 6), (.ld, 7)] [4, 5] [] (by kernel_rfl) ?_
    simp (maxSteps := 10000000) (implicitDefEqProofs := false) only [↓both_true, ↓both_false, ↓entryVC, ↓vc_skip, ↓vc_draw, ↓vc_list, ↓vc_seq, ↓vc_seqn, ↓vc_seqe, ↓vc_seqr, ↓vc_cond, ↓condVC, ↓vc_block, ↓vc_blockn, ↓vc_blockr, ↓vc_blocke, ↓vc_loop, ↓vc_exit, ↓vc_ret, ↓vc_loopn, ↓vc_loope, ↓vc_loopr, ↓vcl_nil, ↓vcl_cons, ↓lw_eq, ↓listVC, ↓memK, ↓memR, ↓envOf, ↓guardVC, ↓opVC, ↓pureVC, ↓binVC, ↓bin8, ↓bin32, ↓bin64, ↓binInt, ↓shVC, ↓unVC, ↓cvVC, ↓rdVC, ↓loadVC, ↓pickC, ↓fillVC, ↓bndVC, ↓sliceVC, ↓bltVC, ↓storeVC, ↓appVC, ↓apzVC, ↓markVC, ↓copyVC, ↓callVC, ↓argsVC, ↓argVC, ↓bindR, ↓bindR1, ↓bindRs, ↓retW_eq, ↓extW_eq, ↓rowW_eq, ↓aggW_eq, ↓plv_nil, ↓plv_tk, ↓plv_fz, ↓plv_ld, ↓pt_eq, ↓pz_eq, ↓pl_eq, ↓delAll, ↓keepM, ↓extM, ↓leS, ↓leA, ↓retVC, ↓retR, ↓resVC, ↓resV1, ↓ressVC, ↓strU, ↓xAdd64, ↓xSub64, both_true, both_false, both_dec, both_ndec, ev, absC, getA, setA, delA, tt, AV.good, AV.plain, AV.isSl, AV.cells, AV.one, Cells.len, Cells.get, Cells.sub, Cells.part, Cells.agg, Cells.upd, Cells.set, Cells.cat, Cells.rep, Cells.ones, TDsc.agg, zOf, putE, dstB, letGo, quietOp, slotOp, List.append_eq, Int.cast_ofNat_Int, words_len, List.any_cons, List.any_nil, beq_iff_eq, Bool.decide_eq_true, Option.getD_some, Option.getD_none, Option.map_some, Option.map_none, Option.bind_some, Option.isSome_some, Option.isNone_some, Option.isNone_none, Option.isSome_none, ↓reduceIte, Nat.reduceEqDiff, Nat.reduceLT, Nat.reduceLeDiff, Nat.reduceAdd, Nat.reduceSub, Nat.reduceMul, Nat.reduceBEq, Int.reduceLE, Int.reduceLT, Int.reduceToNat, Int.reduceNeg, BitVec.reduceToNat, decide_true, decide_false, and_true, true_and, and_self, Bool.or_true, Bool.true_or, Bool.or_false, Bool.false_or, Bool.not_true, Bool.not_false, List.map_cons, List.map_nil, List.length_cons, List.length_nil, List.getElem?_toArray, List.getElem?_cons_zero, List.getElem?_cons_succ, List.getElem?_nil, forall_const, true_implies, reduceCtorEq, false_and, and_false, false_implies, implies_true, Bool.false_eq_true, Bool.true_eq_false, ne_eq, not_true, not_false_iff, Nat.sub_zero, Nat.zero_add, Nat.add_zero, List.drop_zero, List.drop_succ_cons, List.drop_nil, List.take_zero, List.take_succ_cons, List.take_nil, List.set_cons_zero, List.set_cons_succ, List.nil_append, List.cons_append, List.append_nil, List.replicate_zero, List.replicate_succ, BitVec.ofNat_eq_ofNat, Option.some.injEq, AV.int.injEq, AV.u64.injEq, AV.u32.injEq, AV.u8.injEq, AV.bool.injEq, AV.a64.injEq, AV.a32.injEq, AV.a8.injEq, Nat.zero_le, Int.toNat_natCast, cu4, hx, hy, cHalves, digs_len]
    intro g3 g4 g5
    have hXl := digs_len 8 (val xs)
    have hYl := digs_len 8 (val ys)
    have hXd := digs_ok 8 (val xs)
    have hYd := digs_ok 8 (val ys)
    rw [← dval_digs8 hx, ← dval_digs8 hy] at h
    generalize digs 8 (val xs) = X at *
    generalize digs 8 (val ys) = Y at *
    refine loop_ _ _ _ (ι := {s : Nat × List U64 // DProdI X Y s}) (fun s => ⟨[(8, .int (s.1.1 : Int)), (7, .ptr 7 g5 0), (6, .ptr 6 g4 0), (5, .ptr 5 g3 0), (4, .ptr 4 g2 0)], [(7, .own g5 73 (.c64 s.1.2)), (6, .own g4 69 (.c64 Y)), (5, .own g3 69 (.c64 X)), (4, .own g2 73 (.c64 (List.replicate 16 0)))], 8⟩) (fun s => 8 - s.1.1) ⟨(0, List.replicate 16 0), ⟨Nat.zero_le _, by simp, fun j => by rw [zeros_get]; decide, fun j _ => zeros_get 16 j, by rw [zeros_dval]; simp [dval]⟩⟩ ?_ ?_
    · simp (maxSteps := 10000000) (implicitDefEqProofs := false) only [↓both_true, ↓both_false, ↓entryVC, ↓vc_skip, ↓vc_draw, ↓vc_list, ↓vc_seq, ↓vc_seqn, ↓vc_seqe, ↓vc_seqr, ↓vc_cond, ↓condVC, ↓vc_block, ↓vc_blockn, ↓vc_blockr, ↓vc_blocke, ↓vc_loop, ↓vc_exit, ↓vc_ret, ↓vc_loopn, ↓vc_loope, ↓vc_loopr, ↓vcl_nil, ↓vcl_cons, ↓lw_eq, ↓listVC, ↓memK, ↓memR, ↓envOf, ↓guardVC, ↓opVC, ↓pureVC, ↓binVC, ↓bin8, ↓bin32, ↓bin64, ↓binInt, ↓shVC, ↓unVC, ↓cvVC, ↓rdVC, ↓loadVC, ↓pickC, ↓fillVC, ↓bndVC, ↓sliceVC, ↓bltVC, ↓storeVC, ↓appVC, ↓apzVC, ↓markVC, ↓copyVC, ↓callVC, ↓argsVC, ↓argVC, ↓bindR, ↓bindR1, ↓bindRs, ↓retW_eq, ↓extW_eq, ↓rowW_eq, ↓aggW_eq, ↓plv_nil, ↓plv_tk, ↓plv_fz, ↓plv_ld, ↓pt_eq, ↓pz_eq, ↓pl_eq, ↓delAll, ↓keepM, ↓extM, ↓leS, ↓leA, ↓retVC, ↓retR, ↓resVC, ↓resV1, ↓ressVC, ↓strU, ↓xAdd64, ↓xSub64, both_true, both_false, both_dec, both_ndec, ev, absC, getA, setA, delA, tt, AV.good, AV.plain, AV.isSl, AV.cells, AV.one, Cells.len, Cells.get, Cells.sub, Cells.part, Cells.agg, Cells.upd, Cells.set, Cells.cat, Cells.rep, Cells.ones, TDsc.agg, zOf, putE, dstB, letGo, quietOp, slotOp, List.append_eq, Int.cast_ofNat_Int, words_len, List.any_cons, List.any_nil, beq_iff_eq, Bool.decide_eq_true, Option.getD_some, Option.getD_none, Option.map_some, Option.map_none, Option.bind_some, Option.isSome_some, Option.isNone_some, Option.isNone_none, Option.isSome_none, ↓reduceIte, Nat.reduceEqDiff, Nat.reduceLT, Nat.reduceLeDiff, Nat.reduceAdd, Nat.reduceSub, Nat.reduceMul, Nat.reduceBEq, Int.reduceLE, Int.reduceLT, Int.reduceToNat, Int.reduceNeg, BitVec.reduceToNat, decide_true, decide_false, and_true, true_and, and_self, Bool.or_true, Bool.true_or, Bool.or_false, Bool.false_or, Bool.not_true, Bool.not_false, List.map_cons, List.map_nil, List.length_cons, List.length_nil, List.getElem?_toArray, List.getElem?_cons_zero, List.getElem?_cons_succ, List.getElem?_nil, forall_const, true_implies, reduceCtorEq, false_and, and_false, false_implies, implies_true, Bool.false_eq_true, Bool.true_eq_false, ne_eq, not_true, not_false_iff, Nat.sub_zero, Nat.zero_add, Nat.add_zero, List.drop_zero, List.drop_succ_cons, List.drop_nil, List.take_zero, List.take_succ_cons, List.take_nil, List.set_cons_zero, List.set_cons_succ, List.nil_append, List.cons_append, List.append_nil, List.replicate_zero, List.replicate_succ, BitVec.ofNat_eq_ofNat, Option.some.injEq, AV.int.injEq, AV.u64.injEq, AV.u32.injEq, AV.u8.injEq, AV.bool.injEq, AV.a64.injEq, AV.a32.injEq, AV.a8.injEq, Nat.zero_le, Int.toNat_natCast, cu4, hx, hy]
    · rintro ⟨⟨i, p⟩, hI⟩
      obtain ⟨hi, hl, hD, hz, hv⟩ := id hI
      dsimp only at hi hl hD hz hv
      simp (maxSteps := 10000000) (implicitDefEqProofs := false) only [↓both_true, ↓both_false, ↓entryVC, ↓vc_skip, ↓vc_draw, ↓vc_list, ↓vc_seq, ↓vc_seqn, ↓vc_seqe, ↓vc_seqr, ↓vc_cond, ↓condVC, ↓vc_block, ↓vc_blockn, ↓vc_blockr, ↓vc_blocke, ↓vc_loop, ↓vc_exit, ↓vc_ret, ↓vc_loopn, ↓vc_loope, ↓vc_loopr, ↓vcl_nil, ↓vcl_cons, ↓lw_eq, ↓listVC, ↓memK, ↓memR, ↓envOf, ↓guardVC, ↓opVC, ↓pureVC, ↓binVC, ↓bin8, ↓bin32, ↓bin64, ↓binInt, ↓shVC, ↓unVC, ↓cvVC, ↓rdVC, ↓loadVC, ↓pickC, ↓fillVC, ↓bndVC, ↓sliceVC, ↓bltVC, ↓storeVC, ↓appVC, ↓apzVC, ↓markVC, ↓copyVC, ↓callVC, ↓argsVC, ↓argVC, ↓bindR, ↓bindR1, ↓bindRs, ↓retW_eq, ↓extW_eq, ↓rowW_eq, ↓aggW_eq, ↓plv_nil, ↓plv_tk, ↓plv_fz, ↓plv_ld, ↓pt_eq, ↓pz_eq, ↓pl_eq, ↓delAll, ↓keepM, ↓extM, ↓leS, ↓leA, ↓retVC, ↓retR, ↓resVC, ↓resV1, ↓ressVC, ↓strU, ↓xAdd64, ↓xSub64, both_true, both_false, both_dec, both_ndec, ev, absC, getA, setA, delA, tt, AV.good, AV.plain, AV.isSl, AV.cells, AV.one, Cells.len, Cells.get, Cells.sub, Cells.part, Cells.agg, Cells.upd, Cells.set, Cells.cat, Cells.rep, Cells.ones, TDsc.agg, zOf, putE, dstB, letGo, quietOp, slotOp, List.append_eq, Int.cast_ofNat_Int, words_len, List.any_cons, List.any_nil, beq_iff_eq, Bool.decide_eq_true, Option.getD_some, Option.getD_none, Option.map_some, Option.map_none, Option.bind_some, Option.isSome_some, Option.isNone_some, Option.isNone_none, Option.isSome_none, ↓reduceIte, Nat.reduceEqDiff, Nat.reduceLT, Nat.reduceLeDiff, Nat.reduceAdd, Nat.reduceSub, Nat.reduceMul, Nat.reduceBEq, Int.reduceLE, Int.reduceLT, Int.reduceToNat, Int.reduceNeg, BitVec.reduceToNat, decide_true, decide_false, and_true, true_and, and_self, Bool.or_true, Bool.true_or, Bool.or_false, Bool.false_or, Bool.not_true, Bool.not_false, List.map_cons, List.map_nil, List.length_cons, List.length_nil, List.getElem?_toArray, List.getElem?_cons_zero, List.getElem?_cons_succ, List.getElem?_nil, forall_const, true_implies, reduceCtorEq, false_and, and_false, false_implies, implies_true, Bool.false_eq_true, Bool.true_eq_false, ne_eq, not_true, not_false_iff, Nat.sub_zero, Nat.zero_add, Nat.add_zero, List.drop_zero, List.drop_succ_cons, List.drop_nil, List.take_zero, List.take_succ_cons, List.take_nil, List.set_cons_zero, List.set_cons_succ, List.nil_append, List.cons_append, List.append_nil, List.replicate_zero, List.replicate_succ, BitVec.ofNat_eq_ofNat, Option.some.injEq, AV.int.injEq, AV.u64.injEq, AV.u32.injEq, AV.u8.injEq, AV.bool.injEq, AV.a64.injEq, AV.a32.injEq, AV.a8.injEq, Nat.zero_le, Int.toNat_natCast, cu4, hXl, hYl, hl]
      refine ⟨fun hlt => ?_, fun hge => ?_⟩
      · have hlt : i < 8 := by omega
        refine loop_ _ _ _ (ι := {s : Nat × List U64 × U64 // DRowI (dval p) (g64 X i) i Y s}) (fun s => ⟨[(10, .int (s.1.1 : Int)), (9, .u64 s.1.2.2), (8, .int (i : Int)), (7, .ptr 7 g5 0), (6, .ptr 6 g4 0), (5, .ptr 5 g3 0), (4, .ptr 4 g2 0)], [(7, .own g5 73 (.c64 s.1.2.1)), (6, .own g4 69 (.c64 Y)), (5, .own g3 69 (.c64 X)), (4, .own g2 73 (.c64 (List.replicate 16 0)))], 8⟩) (fun s => 8 - s.1.1) ⟨(0, p, 0), ⟨Nat.zero_le _, hl, hD, Nat.zero_lt_succ _, hz, by simp [dval]⟩⟩ ?_ ?_
        · simp (maxSteps := 10000000) (implicitDefEqProofs := false) only [↓both_true, ↓both_false, ↓entryVC, ↓vc_skip, ↓vc_draw, ↓vc_list, ↓vc_seq, ↓vc_seqn, ↓vc_seqe, ↓vc_seqr, ↓vc_cond, ↓condVC, ↓vc_block, ↓vc_blockn, ↓vc_blockr, ↓vc_blocke, ↓vc_loop, ↓vc_exit, ↓vc_ret, ↓vc_loopn, ↓vc_loope, ↓vc_loopr, ↓vcl_nil, ↓vcl_cons, ↓lw_eq, ↓listVC, ↓memK, ↓memR, ↓envOf, ↓guardVC, ↓opVC, ↓pureVC, ↓binVC, ↓bin8, ↓bin32, ↓bin64, ↓binInt, ↓shVC, ↓unVC, ↓cvVC, ↓rdVC, ↓loadVC, ↓pickC, ↓fillVC, ↓bndVC, ↓sliceVC, ↓bltVC, ↓storeVC, ↓appVC, ↓apzVC, ↓markVC, ↓copyVC, ↓callVC, ↓argsVC, ↓argVC, ↓bindR, ↓bindR1, ↓bindRs, ↓retW_eq, ↓extW_eq, ↓rowW_eq, ↓aggW_eq, ↓plv_nil, ↓plv_tk, ↓plv_fz, ↓plv_ld, ↓pt_eq, ↓pz_eq, ↓pl_eq, ↓delAll, ↓keepM, ↓extM, ↓leS, ↓leA, ↓retVC, ↓retR, ↓resVC, ↓resV1, ↓ressVC, ↓strU, ↓xAdd64, ↓xSub64, both_true, both_false, both_dec, both_ndec, ev, absC, getA, setA, delA, tt, AV.good, AV.plain, AV.isSl, AV.cells, AV.one, Cells.len, Cells.get, Cells.sub, Cells.part, Cells.agg, Cells.upd, Cells.set, Cells.cat, Cells.rep, Cells.ones, TDsc.agg, zOf, putE, dstB, letGo, quietOp, slotOp, List.append_eq, Int.cast_ofNat_Int, words_len, List.any_cons, List.any_nil, beq_iff_eq, Bool.decide_eq_true, Option.getD_some, Option.getD_none, Option.map_some, Option.map_none, Option.bind_some, Option.isSome_some, Option.isNone_some, Option.isNone_none, Option.isSome_none, ↓reduceIte, Nat.reduceEqDiff, Nat.reduceLT, Nat.reduceLeDiff, Nat.reduceAdd, Nat.reduceSub, Nat.reduceMul, Nat.reduceBEq, Int.reduceLE, Int.reduceLT, Int.reduceToNat, Int.reduceNeg, BitVec.reduceToNat, decide_true, decide_false, and_true, true_and, and_self, Bool.or_true, Bool.true_or, Bool.or_false, Bool.false_or, Bool.not_true, Bool.not_false, List.map_cons, List.map_nil, List.length_cons, List.length_nil, List.getElem?_toArray, List.getElem?_cons_zero, List.getElem?_cons_succ, List.getElem?_nil, forall_const, true_implies, reduceCtorEq, false_and, and_false, false_implies, implies_true, Bool.false_eq_true, Bool.true_eq_false, ne_eq, not_true, not_false_iff, Nat.sub_zero, Nat.zero_add, Nat.add_zero, List.drop_zero, List.drop_succ_cons, List.drop_nil, List.take_zero, List.take_succ_cons, List.take_nil, List.set_cons_zero, List.set_cons_succ, List.nil_append, List.cons_append, List.append_nil, List.replicate_zero, List.replicate_succ, BitVec.ofNat_eq_ofNat, Option.some.injEq, AV.int.injEq, AV.u64.injEq, AV.u32.injEq, AV.u8.injEq, AV.bool.injEq, AV.a64.injEq, AV.a32.injEq, AV.a8.injEq, Nat.zero_le, Int.toNat_natCast, cu4, hXl, hYl, hl]
          try trivial
        · rintro ⟨⟨k, q, c⟩, hJ⟩
          obtain ⟨hk, hql, hqd, hqc, hqz, hqv⟩ := id hJ
          dsimp only at hk hql hqd hqc hqz hqv
          simp (maxSteps := 10000000) (implicitDefEqProofs := false) only [↓both_true, ↓both_false, ↓entryVC, ↓vc_skip, ↓vc_draw, ↓vc_list, ↓vc_seq, ↓vc_seqn, ↓vc_seqe, ↓vc_seqr, ↓vc_cond, ↓condVC, ↓vc_block, ↓vc_blockn, ↓vc_blockr, ↓vc_blocke, ↓vc_loop, ↓vc_exit, ↓vc_ret, ↓vc_loopn, ↓vc_loope, ↓vc_loopr, ↓vcl_nil, ↓vcl_cons, ↓lw_eq, ↓listVC, ↓memK, ↓memR, ↓envOf, ↓guardVC, ↓opVC, ↓pureVC, ↓binVC, ↓bin8, ↓bin32, ↓bin64, ↓binInt, ↓shVC, ↓unVC, ↓cvVC, ↓rdVC, ↓loadVC, ↓pickC, ↓fillVC, ↓bndVC, ↓sliceVC, ↓bltVC, ↓storeVC, ↓appVC, ↓apzVC, ↓markVC, ↓copyVC, ↓callVC, ↓argsVC, ↓argVC, ↓bindR, ↓bindR1, ↓bindRs, ↓retW_eq, ↓extW_eq, ↓rowW_eq, ↓aggW_eq, ↓plv_nil, ↓plv_tk, ↓plv_fz, ↓plv_ld, ↓pt_eq, ↓pz_eq, ↓pl_eq, ↓delAll, ↓keepM, ↓extM, ↓leS, ↓leA, ↓retVC, ↓retR, ↓resVC, ↓resV1, ↓ressVC, ↓strU, ↓xAdd64, ↓xSub64, both_true, both_false, both_dec, both_ndec, ev, absC, getA, setA, delA, tt, AV.good, AV.plain, AV.isSl, AV.cells, AV.one, Cells.len, Cells.get, Cells.sub, Cells.part, Cells.agg, Cells.upd, Cells.set, Cells.cat, Cells.rep, Cells.ones, TDsc.agg, zOf, putE, dstB, letGo, quietOp, slotOp, List.append_eq, Int.cast_ofNat_Int, words_len, List.any_cons, List.any_nil, beq_iff_eq, Bool.decide_eq_true, Option.getD_some, Option.getD_none, Option.map_some, Option.map_none, Option.bind_some, Option.isSome_some, Option.isNone_some, Option.isNone_none, Option.isSome_none, ↓reduceIte, Nat.reduceEqDiff, Nat.reduceLT, Nat.reduceLeDiff, Nat.reduceAdd, Nat.reduceSub, Nat.reduceMul, Nat.reduceBEq, Int.reduceLE, Int.reduceLT, Int.reduceToNat, Int.reduceNeg, BitVec.reduceToNat, decide_true, decide_false, and_true, true_and, and_self, Bool.or_true, Bool.true_or, Bool.or_false, Bool.false_or, Bool.not_true, Bool.not_false, List.map_cons, List.map_nil, List.length_cons, List.length_nil, List.getElem?_toArray, List.getElem?_cons_zero, List.getElem?_cons_succ, List.getElem?_nil, forall_const, true_implies, reduceCtorEq, false_and, and_false, false_implies, implies_true, Bool.false_eq_true, Bool.true_eq_false, ne_eq, not_true, not_false_iff, Nat.sub_zero, Nat.zero_add, Nat.add_zero, List.drop_zero, List.drop_succ_cons, List.drop_nil, List.take_zero, List.take_succ_cons, List.take_nil, List.set_cons_zero, List.set_cons_succ, List.nil_append, List.cons_append, List.append_nil, List.replicate_zero, List.replicate_succ, BitVec.ofNat_eq_ofNat, Option.some.injEq, AV.int.injEq, AV.u64.injEq, AV.u32.injEq, AV.u8.injEq, AV.bool.injEq, AV.a64.injEq, AV.a32.injEq, AV.a8.injEq, Nat.zero_le, Int.toNat_natCast, cu4, hXl, hYl, hql]
          refine ⟨fun hlt => ?_, fun hge => ?_⟩
          · have hlt : k < 8 := by omega
            refine draw_ _ _ _ [(.fz, 0), (.fz, 1), (.fz, 2), (.fz, 3), (.fz, 7), (.fz, 10), (.tk, 4), (.tk, 5), (.fz, 6), (.tk, 8), (.tk, 9), (.tk, 11), (.tk, 12), (.fz, 13), (.fz, 14), (.fz, 15)] [] [] (by kernel_rfl) ?_
            simp (maxSteps := 10000000) (implicitDefEqProofs := false) only [↓both_true, ↓both_false, ↓entryVC, ↓vc_skip, ↓vc_draw, ↓vc_list, ↓vc_seq, ↓vc_seqn, ↓vc_seqe, ↓vc_seqr, ↓vc_cond, ↓condVC, ↓vc_block, ↓vc_blockn, ↓vc_blockr, ↓vc_blocke, ↓vc_loop, ↓vc_exit, ↓vc_ret, ↓vc_loopn, ↓vc_loope, ↓vc_loopr, ↓vcl_nil, ↓vcl_cons, ↓lw_eq, ↓listVC, ↓memK, ↓memR, ↓envOf, ↓guardVC, ↓opVC, ↓pureVC, ↓binVC, ↓bin8, ↓bin32, ↓bin64, ↓binInt, ↓shVC, ↓unVC, ↓cvVC, ↓rdVC, ↓loadVC, ↓pickC, ↓fillVC, ↓bndVC, ↓sliceVC, ↓bltVC, ↓storeVC, ↓appVC, ↓apzVC, ↓markVC, ↓copyVC, ↓callVC, ↓argsVC, ↓argVC, ↓bindR, ↓bindR1, ↓bindRs, ↓retW_eq, ↓extW_eq, ↓rowW_eq, ↓aggW_eq, ↓plv_nil, ↓plv_tk, ↓plv_fz, ↓plv_ld, ↓pt_eq, ↓pz_eq, ↓pl_eq, ↓delAll, ↓keepM, ↓extM, ↓leS, ↓leA, ↓retVC, ↓retR, ↓resVC, ↓resV1, ↓ressVC, ↓strU, ↓xAdd64, ↓xSub64, both_true, both_false, both_dec, both_ndec, ev, absC, getA, setA, delA, tt, AV.good, AV.plain, AV.isSl, AV.cells, AV.one, Cells.len, Cells.get, Cells.sub, Cells.part, Cells.agg, Cells.upd, Cells.set, Cells.cat, Cells.rep, Cells.ones, TDsc.agg, zOf, putE, dstB, letGo, quietOp, slotOp, List.append_eq, Int.cast_ofNat_Int, words_len, List.any_cons, List.any_nil, beq_iff_eq, Bool.decide_eq_true, Option.getD_some, Option.getD_none, Option.map_some, Option.map_none, Option.bind_some, Option.isSome_some, Option.isNone_some, Option.isNone_none, Option.isSome_none, ↓reduceIte, Nat.reduceEqDiff, Nat.reduceLT, Nat.reduceLeDiff, Nat.reduceAdd, Nat.reduceSub, Nat.reduceMul, Nat.reduceBEq, Int.reduceLE, Int.reduceLT, Int.reduceToNat, Int.reduceNeg, BitVec.reduceToNat, decide_true, decide_false, and_true, true_and, and_self, Bool.or_true, Bool.true_or, Bool.or_false, Bool.false_or, Bool.not_true, Bool.not_false, List.map_cons, List.map_nil, List.length_cons, List.length_nil, List.getElem?_toArray, List.getElem?_cons_zero, List.getElem?_cons_succ, List.getElem?_nil, forall_const, true_implies, reduceCtorEq, false_and, and_false, false_implies, implies_true, Bool.false_eq_true, Bool.true_eq_false, ne_eq, not_true, not_false_iff, Nat.sub_zero, Nat.zero_add, Nat.add_zero, List.drop_zero, List.drop_succ_cons, List.drop_nil, List.take_zero, List.take_succ_cons, List.take_nil, List.set_cons_zero, List.set_cons_succ, List.nil_append, List.cons_append, List.append_nil, List.replicate_zero, List.replicate_succ, BitVec.ofNat_eq_ofNat, Option.some.injEq, AV.int.injEq, AV.u64.injEq, AV.u32.injEq, AV.u8.injEq, AV.bool.injEq, AV.a64.injEq, AV.a32.injEq, AV.a8.injEq, Nat.zero_le, Int.toNat_natCast, cu4, hXl, hYl, hql]
            have ei : ((i : Int) + (k : Int)).toNat = i + k := by omega
            rw [ei]
            exact ⟨by simp [intIn]; omega, by omega, by omega, by omega, by omega, by omega, hlt, by simp [intIn]; omega, by omega, by omega, by simp [intIn]; omega, ⟨(k + 1, _, _), drow_step hYl hYd (hXd i) (by omega) hlt hJ⟩, by dsimp only; omega, ⟨by simp, rfl⟩, rfl⟩
          · obtain rfl : k = 8 := by omega
            have ei : ((i : Int) + 8).toNat = i + 8 := by omega
            rw [ei]
            exact ⟨by simp [intIn]; omega, by omega, by omega, by simp [intIn]; omega, ⟨(i + 1, _), dprod_step hXl hYl (by omega) hv hJ⟩, by dsimp only; omega, by simp, rfl⟩
      · obtain rfl : i = 8 := by omega
        rw [dprod_end hXl hI]
        exact h
  · exact h.elim

/-- The digits' upper half folded down, so far. -/
def FoldI (D E : List U64) (s : Nat × List U64 × U64) : Prop := s.1 ≤ 8 ∧ s.2.1.length = 8 ∧ Digs s.2.1 ∧ s.2.2.toNat < 64 ∧ (∀ j, s.1 ≤ j → g64 s.2.1 j = 0) ∧ dval s.2.1 + 4294967296 ^ s.1 * s.2.2.toNat = dval (D.take s.1) + 38 * dval (E.take s.1)
theorem fold_step {D E p : List U64} {c : U64} {k : Nat} (hD : Digs D) (hE : Digs E) (hl : D.length = 8) (hm : E.length = 8) (hk : k < 8) (h : FoldI D E (k, p, c)) :
    FoldI D E (k + 1, p.set k (c + g64 D k + 38#64 * g64 E k &&& 4294967295#64), (c + g64 D k + 38#64 * g64 E k) >>> 32) := by
  obtain ⟨h1, h2, hd, h3, h4, h5⟩ := h
  dsimp only at h1 h2 hd h3 h4 h5
  have b1 := hD k
  have b2 := hE k
  have e : (c + g64 D k + 38#64 * g64 E k).toNat = c.toNat + (g64 D k).toNat + 38 * (g64 E k).toNat := by
    simp only [BitVec.toNat_add, BitVec.toNat_mul, BitVec.reduceToNat]; omega
  have e0 := lo32 (c + g64 D k + 38#64 * g64 E k)
  have e1 := hi32 (c + g64 D k + 38#64 * g64 E k)
  rw [e] at e0 e1
  have hs := dval_set p k (c + g64 D k + 38#64 * g64 E k &&& 4294967295#64) (by omega)
  rw [h4 k (by omega)] at hs
  refine ⟨by dsimp only; omega, by simp [h2], hd.set _ (by rw [e0]; omega), by dsimp only; rw [e1]; omega, fun j hj => ?_, ?_⟩
  · dsimp only at hj ⊢
    rw [g64_set_ne (by omega)]; exact h4 j (by omega)
  · dsimp only
    rw [dval_take_succ D k (by omega), dval_take_succ E k (by omega), Nat.pow_succ, Nat.mul_assoc, e1]
    rw [e0] at hs
    generalize 4294967296 ^ k = B at *
    have e3 : B * ((c.toNat + (g64 D k).toNat + 38 * (g64 E k).toNat) % 4294967296 + 4294967296 * ((c.toNat + (g64 D k).toNat + 38 * (g64 E k).toNat) / 4294967296)) = B * (c.toNat + (g64 D k).toNat + 38 * (g64 E k).toNat) := by rw [Nat.mod_add_div]
    rw [Nat.mul_add, Nat.mul_add, Nat.mul_add, Nat.mul_left_comm B 38] at e3
    simp only [show ((0 : U64).toNat) = 0 from rfl, Nat.mul_zero, Nat.add_zero] at hs
    rw [Nat.mul_add]
    omega
/-- Digits paired to words, so far. -/
def PairI (D : List U64) (s : Nat × List U64) : Prop := s.1 ≤ 4 ∧ s.2.length = 4 ∧ (∀ j, s.1 ≤ j → g64 s.2 j = 0) ∧ val s.2 = dval (D.take (2 * s.1))
theorem pair_step {D p : List U64} {k : Nat} (hD : Digs D) (hl : D.length = 8) (hk : k < 4) (h : PairI D (k, p)) : PairI D (k + 1, p.set k (g64 D (2 * k) + g64 D (2 * k + 1) <<< 32)) := by
  obtain ⟨h1, h2, h4, h5⟩ := h
  dsimp only at h1 h2 h4 h5
  have b1 := hD (2 * k)
  have b2 := hD (2 * k + 1)
  have e : (g64 D (2 * k) + g64 D (2 * k + 1) <<< 32).toNat = (g64 D (2 * k)).toNat + 4294967296 * (g64 D (2 * k + 1)).toNat := by
    simp only [BitVec.toNat_add, BitVec.toNat_shiftLeft, Nat.shiftLeft_eq]; omega
  have hs := val_set p k (g64 D (2 * k) + g64 D (2 * k + 1) <<< 32) (by omega)
  rw [h4 k (by omega), e] at hs
  refine ⟨by dsimp only; omega, by simp [h2], fun j hj => ?_, ?_⟩
  · dsimp only at hj ⊢
    rw [g64_set_ne (by omega)]; exact h4 j (by omega)
  · dsimp only
    have ep : (18446744073709551616 : Nat) ^ k = 4294967296 ^ (2 * k) := by rw [Nat.pow_mul]
    rw [show 2 * (k + 1) = 2 * k + 1 + 1 by omega, dval_take_succ D (2 * k + 1) (by omega), dval_take_succ D (2 * k) (by omega), Nat.pow_succ, Nat.mul_assoc, ← h5]
    rw [ep, Nat.mul_add] at hs
    simp only [show ((0 : U64).toNat) = 0 from rfl, Nat.mul_zero, Nat.add_zero] at hs
    omega
theorem digs_app : ∀ (m n v : Nat), digs (m + n) v = digs m v ++ digs n (v / 4294967296 ^ m)
  | 0, n, v => by simp [digs]
  | m + 1, n, v => by
    rw [show m + 1 + n = (m + n) + 1 by omega]
    simp only [digs, List.cons_append]
    rw [digs_app m n, Nat.div_div_eq_div_mul, Nat.pow_succ, Nat.mul_comm 4294967296]
theorem g64_left {l m : List U64} {k : Nat} (h : k < l.length) : g64 (l ++ m) k = g64 l k := by
  simp [g64, List.getD_eq_getElem?_getD, List.getElem?_append_left h]
theorem g64_right {l m : List U64} {k n : Nat} (h : l.length = n) : g64 (l ++ m) (n + k) = g64 m k := by
  subst h
  simp only [g64, List.getD_eq_getElem?_getD]
  rw [List.getElem?_append_right (by omega), Nat.add_sub_cancel_left]
theorem ref_fold (w c N : Nat) (h : w + 115792089237316195423570985008687907853269984665640564039457584007913129639936 * c = N % 115792089237316195423570985008687907853269984665640564039457584007913129639936 + 38 * (N / 115792089237316195423570985008687907853269984665640564039457584007913129639936)) (hw : w < 115792089237316195423570985008687907853269984665640564039457584007913129639936) (hc : c < 64) :
    (115792089237316195423570985008687907853269984665640564039457584007913129639936 ≤ w + 38 * c → ((w + 38 * c) % 115792089237316195423570985008687907853269984665640564039457584007913129639936 + 38) % 115792089237316195423570985008687907853269984665640564039457584007913129639936 % PP = N % PP) ∧ (¬ 115792089237316195423570985008687907853269984665640564039457584007913129639936 ≤ w + 38 * c → (w + 38 * c) % 115792089237316195423570985008687907853269984665640564039457584007913129639936 % PP = N % PP) := by
  have hN := Nat.div_add_mod N 115792089237316195423570985008687907853269984665640564039457584007913129639936
  generalize N / 115792089237316195423570985008687907853269984665640564039457584007913129639936 = T at *
  generalize N % 115792089237316195423570985008687907853269984665640564039457584007913129639936 = L at *
  subst hN
  constructor
  · intro h1
    have e1 : (w + 38 * c) % 115792089237316195423570985008687907853269984665640564039457584007913129639936 = w + 38 * c - 115792089237316195423570985008687907853269984665640564039457584007913129639936 := by omega
    rw [e1, Nat.mod_eq_of_lt (a := w + 38 * c - 115792089237316195423570985008687907853269984665640564039457584007913129639936 + 38) (by omega)]
    have fin : 115792089237316195423570985008687907853269984665640564039457584007913129639936 * T + L = (w + 38 * c - 115792089237316195423570985008687907853269984665640564039457584007913129639936 + 38) + PP * (2 * (T + c + 1)) := by simp only [PP]; omega
    rw [fin, Nat.add_mul_mod_self_left]
  · intro h1
    rw [Nat.mod_eq_of_lt (a := w + 38 * c) (by omega)]
    have fin : 115792089237316195423570985008687907853269984665640564039457584007913129639936 * T + L = (w + 38 * c) + PP * (2 * (T + c)) := by simp only [PP]; omega
    rw [fin, Nat.add_mul_mod_self_left]
end Go.Proofs.Ytjhfmlnfbmckfaa
