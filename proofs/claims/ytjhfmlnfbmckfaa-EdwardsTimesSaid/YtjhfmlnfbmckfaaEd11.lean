/- The law of multiples, walked. -/
import Derived.Test.YtjhfmlnfbmckfaaEd9
import Derived.Test.YtjhfmlnfbmckfaaEd10
namespace Go.Proofs.Ytjhfmlnfbmckfaa
open Go Go.RowKit
set_option linter.unusedVariables false
set_option linter.unusedSimpArgs false

theorem shl_or (x y : U64) {b : Nat} (hy : y.toNat = b) (hb : b < 2) : (x <<< 1 ||| y).toNat = 2 * (x.toNat % 9223372036854775808) + b := by
  have e : (x <<< 1).toNat = (x.toNat % 9223372036854775808) <<< 1 := by
    rw [BitVec.toNat_shiftLeft, Nat.shiftLeft_eq, Nat.shiftLeft_eq]; omega
  rw [BitVec.toNat_or, e, hy, ← Nat.shiftLeft_add_eq_or_of_lt (by omega), Nat.shiftLeft_eq]
  omega
theorem shr63 (x : U64) : (x >>> 63).toNat = x.toNat / 9223372036854775808 := by rw [BitVec.toNat_ushiftRight, Nat.shiftRight_eq_div_pow]
theorem val_four {A : List U64} (h : A.length = 4) : val A = (g64 A 0).toNat + 18446744073709551616 * ((g64 A 1).toNat + 18446744073709551616 * ((g64 A 2).toNat + 18446744073709551616 * (g64 A 3).toNat)) := by
  match A, h with
  | [a, b, c, d], _ => simp [val, g64]
theorem shl_one (x : U64) : (x <<< 1).toNat = 2 * (x.toNat % 9223372036854775808) := by
  rw [BitVec.toNat_shiftLeft, Nat.shiftLeft_eq]; omega
theorem val_tw {A : List U64} (h : A.length = 4) (hv : val A < 28948022309329048855892746252171976963317496166410141009864396001978282409984) : val [g64 A 0 <<< 1, g64 A 1 <<< 1 ||| g64 A 0 >>> 63, g64 A 2 <<< 1 ||| g64 A 1 >>> 63, g64 A 3 <<< 1 ||| g64 A 2 >>> 63] = 2 * val A := by
  have e := val_four h
  have h0 := (g64 A 0).isLt
  have h1 := (g64 A 1).isLt
  have h2 := (g64 A 2).isLt
  have h3 := (g64 A 3).isLt
  simp only [val]
  rw [shl_one, shl_or _ _ (shr63 (g64 A 0)) (by omega), shl_or _ _ (shr63 (g64 A 1)) (by omega), shl_or _ _ (shr63 (g64 A 2)) (by omega), e]
  rw [e] at hv
  omega
theorem val_tw1 {A : List U64} (h : A.length = 4) (hv : val A < 28948022309329048855892746252171976963317496166410141009864396001978282409984) : val [g64 A 0 <<< 1 ||| 1#64, g64 A 1 <<< 1 ||| g64 A 0 >>> 63, g64 A 2 <<< 1 ||| g64 A 1 >>> 63, g64 A 3 <<< 1 ||| g64 A 2 >>> 63] = 2 * val A + 1 := by
  have e := val_four h
  have h0 := (g64 A 0).isLt
  have h1 := (g64 A 1).isLt
  have h2 := (g64 A 2).isLt
  have h3 := (g64 A 3).isLt
  simp only [val]
  rw [shl_or _ _ (show (1#64 : U64).toNat = 1 from rfl) (by decide), shl_or _ _ (shr63 (g64 A 0)) (by omega), shl_or _ _ (shr63 (g64 A 1)) (by omega), shl_or _ _ (shr63 (g64 A 2)) (by omega), e]
  rw [e] at hv
  omega
theorem val_mask {a : List U64} (h : a.length = 4) : val (a.set 3 (g64 a 3 &&& 4611686018427387903#64)) < 28948022309329048855892746252171976963317496166410141009864396001978282409984 := by
  rw [val_four (by rw [List.length_set]; exact h)]
  match a, h with
  | [a, b, c, d], _ =>
    have h0 := a.isLt
    have h1 := b.isLt
    have h2 := c.isLt
    have h3 : (d &&& 4611686018427387903#64).toNat = d.toNat % 4611686018427387904 := by rw [BitVec.toNat_and]; exact Nat.and_two_pow_sub_one_eq_mod d.toNat 62
    have h4 : (g64 ([a, b, c, d].set 3 (g64 [a, b, c, d] 3 &&& 4611686018427387903#64)) 3) = d &&& 4611686018427387903#64 := rfl
    have h5 := (g64 ([a, b, c, d].set 3 (g64 [a, b, c, d] 3 &&& 4611686018427387903#64)) 0).isLt
    have h6 := (g64 ([a, b, c, d].set 3 (g64 [a, b, c, d] 3 &&& 4611686018427387903#64)) 1).isLt
    have h7 := (g64 ([a, b, c, d].set 3 (g64 [a, b, c, d] 3 &&& 4611686018427387903#64)) 2).isLt
    rw [h4, h3]
    omega
theorem g64_c0 (x : U64) (r : List U64) : g64 (x :: r) 0 = x := rfl
def cOrder : CT := fun cas K => match cas with
  | [] => K (.one (.v (.a64 (words 4 7237005577332262213973186563042994240857116359379907606001950938285454250989))))
  | _ => False
def cEight : CT := fun cas K => match cas with
  | [] => K (.one (.v (.a64 (words 4 57896044618658097711785492504343953926856930875039260848015607506283634007912))))
  | _ => False
def cLT : CT := fun cas K => match cas with
  | [.v (.a64 a), .v (.a64 b), .v (.a64 p)] => (a.length = 4 ∧ b.length = 4 ∧ p.length = 8) ∧ K (.one (.v (.bool true)))
  | _ => False
theorem ord_w : words 4 7237005577332262213973186563042994240857116359379907606001950938285454250989 = [6346243789798364141#64, 1503914060200516822#64, 0#64, 1152921504606846976#64] := by decide
set_option maxRecDepth 100000 in
set_option maxHeartbeats 1000000 in
theorem sOrder : Sound Try.prog 32 cOrder := by
  refine sound_vc (tt := tt) (ct := l1) ttok l1_ok mixed Try.func32 rfl (by decide) (rs := [.cell 0 24]) rfl (ts := [24]) (k := 0) ?_
  intro cas K h
  unfold cOrder at h
  split at h
  · skip
    rw [Try.ntmps32]
    refine ⟨by simp, ?_⟩
    rw [ord_w] at h
    simp (maxSteps := 10000000) (implicitDefEqProofs := false) only [↓both_true, ↓both_false, ↓entryVC, ↓vc_skip, ↓vc_draw, ↓vc_list, ↓vc_seq, ↓vc_seqn, ↓vc_seqe, ↓vc_seqr, ↓vc_cond, ↓condVC, ↓vc_block, ↓vc_blockn, ↓vc_blockr, ↓vc_blocke, ↓vc_loop, ↓vc_exit, ↓vc_ret, ↓vc_loopn, ↓vc_loope, ↓vc_loopr, ↓vcl_nil, ↓vcl_cons, ↓lw_eq, ↓listVC, ↓memK, ↓memR, ↓envOf, ↓guardVC, ↓opVC, ↓pureVC, ↓binVC, ↓bin8, ↓bin32, ↓bin64, ↓binInt, ↓shVC, ↓unVC, ↓cvVC, ↓rdVC, ↓loadVC, ↓pickC, ↓fillVC, ↓bndVC, ↓sliceVC, ↓bltVC, ↓storeVC, ↓appVC, ↓apzVC, ↓markVC, ↓copyVC, ↓callVC, ↓argsVC, ↓argVC, ↓bindR, ↓bindR1, ↓bindRs, ↓retW_eq, ↓extW_eq, ↓rowW_eq, ↓aggW_eq, ↓plv_nil, ↓plv_tk, ↓plv_fz, ↓plv_ld, ↓pt_eq, ↓pz_eq, ↓pl_eq, ↓delAll, ↓keepM, ↓extM, ↓leS, ↓leA, ↓retVC, ↓retR, ↓resVC, ↓resV1, ↓ressVC, ↓strU, ↓xAdd64, ↓xSub64, ↓vc_jn, ↓vc_je, ↓vc_jr, ↓pickA, ↓stU_env, ↓stU_mem, ↓vc_jn, ↓vc_je, ↓vc_jr, ↓pickA, ↓stU_env, ↓stU_mem, both_true, both_false, both_dec, both_ndec, ev, absC, getA, setA, delA, tt, AV.good, AV.plain, AV.isSl, AV.cells, AV.one, Cells.len, Cells.get, Cells.sub, Cells.part, Cells.agg, Cells.upd, Cells.set, Cells.cat, Cells.rep, Cells.ones, TDsc.agg, zOf, putE, dstB, letGo, quietOp, slotOp, pickA, pickA, List.append_eq, Int.cast_ofNat_Int, List.any_cons, List.any_nil, beq_iff_eq, Bool.decide_eq_true, Option.getD_some, Option.getD_none, Option.map_some, Option.map_none, Option.bind_some, Option.isSome_some, Option.isNone_some, Option.isNone_none, Option.isSome_none, ↓reduceIte, Nat.reduceEqDiff, Nat.reduceLT, Nat.reduceLeDiff, Nat.reduceAdd, Nat.reduceSub, Nat.reduceMul, Nat.reduceBEq, Int.reduceLE, Int.reduceLT, Int.reduceToNat, Int.reduceNeg, BitVec.reduceToNat, decide_true, decide_false, and_true, true_and, and_self, Bool.or_true, Bool.true_or, Bool.or_false, Bool.false_or, Bool.not_true, Bool.not_false, List.map_cons, List.map_nil, List.length_cons, List.length_nil, List.getElem?_toArray, List.getElem?_cons_zero, List.getElem?_cons_succ, List.getElem?_nil, forall_const, true_implies, reduceCtorEq, false_and, and_false, false_implies, implies_true, Bool.false_eq_true, Bool.true_eq_false, ne_eq, not_true, not_false_iff, Nat.sub_zero, Nat.zero_add, Nat.add_zero, List.drop_zero, List.drop_succ_cons, List.drop_nil, List.take_zero, List.take_succ_cons, List.take_nil, List.set_cons_zero, List.set_cons_succ, List.nil_append, List.cons_append, List.append_nil, List.replicate_zero, List.replicate_succ, BitVec.ofNat_eq_ofNat, Option.some.injEq, AV.int.injEq, AV.u64.injEq, AV.u32.injEq, AV.u8.injEq, AV.bool.injEq, AV.a64.injEq, AV.a32.injEq, AV.a8.injEq, Nat.zero_le, Int.toNat_natCast, l1, cBase, cOnP, cNegP, cPackP, cZeroP, cAddP, cMulP, cUnpackP, cBothP, cMulF, cSubF, cNumber, byts_len, mkP_len, words_len, beq_self_eq_true, eq_self, Bool.and_self, Bool.and_true, Bool.true_and, Bool.and_false, Bool.false_and]
    exact h
  · exact h.elim
def l2 : CTab := fun F => match F with
  | 15 => .fn cBase
  | 16 => .fn cOnP
  | 18 => .fn cNegP
  | 20 => .fn cPackP
  | 22 => .fn cZeroP
  | 25 => .fn cAddP
  | 27 => .fn cMulP
  | 29 => .fn cUnpackP
  | 33 => .fn cBothP
  | 14 => .fn cMulF
  | 12 => .fn cSubF
  | 11 => .fn cNumber
  | 17 => .fn cOnP
  | 19 => .fn cNegP
  | 21 => .fn cPackP
  | 23 => .fn cZeroP
  | 24 => .fn cBase
  | 26 => .fn cAddP
  | 28 => .fn cMulP
  | 30 => .fn cUnpackP
  | 13 => .fn cAlive
  | 32 => .fn cOrder
  | _ => .fn noCT
theorem l2_ok : CTok Try.prog l2 := by
  intro F
  unfold l2
  split
  · exact sBaseP
  · exact sOnP
  · exact sNegP
  · exact sPackP
  · exact sZeroP
  · exact sAddP
  · exact sMulP
  · exact sUnpackP
  · exact sBothP
  · exact sMulF
  · exact sSubF
  · exact sRD
  · exact sROn
  · exact sRNeg
  · exact sRPackP
  · exact sRZero
  · exact sRBaseP
  · exact sRAddP
  · exact sRMulP
  · exact sRUnpackP
  · exact sAlive
  · exact sOrder
  · exact sound_none _ _
set_option maxRecDepth 100000 in
set_option maxHeartbeats 1000000 in
theorem sEight : Sound Try.prog 31 cEight := by
  refine sound_vc (tt := tt) (ct := l2) ttok l2_ok mixed Try.func31 rfl (by decide) (rs := [.cell 0 24]) rfl (ts := [24]) (k := 0) ?_
  intro cas K h
  unfold cEight at h
  split at h
  · skip
    rw [Try.ntmps31]
    refine ⟨by simp, ?_⟩
    simp (maxSteps := 10000000) (implicitDefEqProofs := false) only [↓both_true, ↓both_false, ↓entryVC, ↓vc_skip, ↓vc_draw, ↓vc_list, ↓vc_seq, ↓vc_seqn, ↓vc_seqe, ↓vc_seqr, ↓vc_cond, ↓condVC, ↓vc_block, ↓vc_blockn, ↓vc_blockr, ↓vc_blocke, ↓vc_loop, ↓vc_exit, ↓vc_ret, ↓vc_loopn, ↓vc_loope, ↓vc_loopr, ↓vcl_nil, ↓vcl_cons, ↓lw_eq, ↓listVC, ↓memK, ↓memR, ↓envOf, ↓guardVC, ↓opVC, ↓pureVC, ↓binVC, ↓bin8, ↓bin32, ↓bin64, ↓binInt, ↓shVC, ↓unVC, ↓cvVC, ↓rdVC, ↓loadVC, ↓pickC, ↓fillVC, ↓bndVC, ↓sliceVC, ↓bltVC, ↓storeVC, ↓appVC, ↓apzVC, ↓markVC, ↓copyVC, ↓callVC, ↓argsVC, ↓argVC, ↓bindR, ↓bindR1, ↓bindRs, ↓retW_eq, ↓extW_eq, ↓rowW_eq, ↓aggW_eq, ↓plv_nil, ↓plv_tk, ↓plv_fz, ↓plv_ld, ↓pt_eq, ↓pz_eq, ↓pl_eq, ↓delAll, ↓keepM, ↓extM, ↓leS, ↓leA, ↓retVC, ↓retR, ↓resVC, ↓resV1, ↓ressVC, ↓strU, ↓xAdd64, ↓xSub64, ↓vc_jn, ↓vc_je, ↓vc_jr, ↓pickA, ↓stU_env, ↓stU_mem, ↓vc_jn, ↓vc_je, ↓vc_jr, ↓pickA, ↓stU_env, ↓stU_mem, both_true, both_false, both_dec, both_ndec, ev, absC, getA, setA, delA, tt, AV.good, AV.plain, AV.isSl, AV.cells, AV.one, Cells.len, Cells.get, Cells.sub, Cells.part, Cells.agg, Cells.upd, Cells.set, Cells.cat, Cells.rep, Cells.ones, TDsc.agg, zOf, putE, dstB, letGo, quietOp, slotOp, pickA, pickA, List.append_eq, Int.cast_ofNat_Int, List.any_cons, List.any_nil, beq_iff_eq, Bool.decide_eq_true, Option.getD_some, Option.getD_none, Option.map_some, Option.map_none, Option.bind_some, Option.isSome_some, Option.isNone_some, Option.isNone_none, Option.isSome_none, ↓reduceIte, Nat.reduceEqDiff, Nat.reduceLT, Nat.reduceLeDiff, Nat.reduceAdd, Nat.reduceSub, Nat.reduceMul, Nat.reduceBEq, Int.reduceLE, Int.reduceLT, Int.reduceToNat, Int.reduceNeg, BitVec.reduceToNat, decide_true, decide_false, and_true, true_and, and_self, Bool.or_true, Bool.true_or, Bool.or_false, Bool.false_or, Bool.not_true, Bool.not_false, List.map_cons, List.map_nil, List.length_cons, List.length_nil, List.getElem?_toArray, List.getElem?_cons_zero, List.getElem?_cons_succ, List.getElem?_nil, forall_const, true_implies, reduceCtorEq, false_and, and_false, false_implies, implies_true, Bool.false_eq_true, Bool.true_eq_false, ne_eq, not_true, not_false_iff, Nat.sub_zero, Nat.zero_add, Nat.add_zero, List.drop_zero, List.drop_succ_cons, List.drop_nil, List.take_zero, List.take_succ_cons, List.take_nil, List.set_cons_zero, List.set_cons_succ, List.nil_append, List.cons_append, List.append_nil, List.replicate_zero, List.replicate_succ, BitVec.ofNat_eq_ofNat, Option.some.injEq, AV.int.injEq, AV.u64.injEq, AV.u32.injEq, AV.u8.injEq, AV.bool.injEq, AV.a64.injEq, AV.a32.injEq, AV.a8.injEq, Nat.zero_le, Int.toNat_natCast, l2, cBase, cOnP, cNegP, cPackP, cZeroP, cAddP, cMulP, cUnpackP, cBothP, cMulF, cSubF, cNumber, byts_len, mkP_len, words_len, beq_self_eq_true, eq_self, Bool.and_self, Bool.and_true, Bool.true_and, Bool.and_false, Bool.false_and, cOrder]
    refine (?_ : K _)
    have e : words 4 57896044618658097711785492504343953926856930875039260848015607506283634007912 = [g64 (words 4 7237005577332262213973186563042994240857116359379907606001950938285454250989) 0 <<< 3, g64 (words 4 7237005577332262213973186563042994240857116359379907606001950938285454250989) 1 <<< 3 ||| g64 (words 4 7237005577332262213973186563042994240857116359379907606001950938285454250989) 0 >>> 61, g64 (words 4 7237005577332262213973186563042994240857116359379907606001950938285454250989) 2 <<< 3 ||| g64 (words 4 7237005577332262213973186563042994240857116359379907606001950938285454250989) 1 >>> 61, g64 (words 4 7237005577332262213973186563042994240857116359379907606001950938285454250989) 3 <<< 3 ||| g64 (words 4 7237005577332262213973186563042994240857116359379907606001950938285454250989) 2 >>> 61] := by decide
    rw [e] at h
    exact h
  · exact h.elim
def l3 : CTab := fun F => match F with
  | 15 => .fn cBase
  | 16 => .fn cOnP
  | 18 => .fn cNegP
  | 20 => .fn cPackP
  | 22 => .fn cZeroP
  | 25 => .fn cAddP
  | 27 => .fn cMulP
  | 29 => .fn cUnpackP
  | 33 => .fn cBothP
  | 14 => .fn cMulF
  | 12 => .fn cSubF
  | 11 => .fn cNumber
  | 17 => .fn cOnP
  | 19 => .fn cNegP
  | 21 => .fn cPackP
  | 23 => .fn cZeroP
  | 24 => .fn cBase
  | 26 => .fn cAddP
  | 28 => .fn cMulP
  | 30 => .fn cUnpackP
  | 13 => .fn cAlive
  | 32 => .fn cOrder
  | 31 => .fn cEight
  | _ => .fn noCT
theorem l3_ok : CTok Try.prog l3 := by
  intro F
  unfold l3
  split
  · exact sBaseP
  · exact sOnP
  · exact sNegP
  · exact sPackP
  · exact sZeroP
  · exact sAddP
  · exact sMulP
  · exact sUnpackP
  · exact sBothP
  · exact sMulF
  · exact sSubF
  · exact sRD
  · exact sROn
  · exact sRNeg
  · exact sRPackP
  · exact sRZero
  · exact sRBaseP
  · exact sRAddP
  · exact sRMulP
  · exact sRUnpackP
  · exact sAlive
  · exact sOrder
  · exact sEight
  · exact sound_none _ _
set_option maxRecDepth 100000 in
set_option maxHeartbeats 1000000 in
theorem sEdwardsTimes : Sound Try.prog 10 cLT := by
  refine sound_vc (tt := tt) (ct := l3) ttok l3_ok mixed Try.func10 rfl (by decide) (rs := [.tmp 6]) rfl (ts := [4]) (k := 0) ?_
  intro cas K h
  unfold cLT at h
  split at h
  · rename_i a b p
    rw [Try.ntmps10]
    refine ⟨by simp, ?_⟩
    obtain ⟨⟨ha, hb, hp⟩, h⟩ := h
    have oP := onP_tk (pp p)
    obtain ⟨P, hP⟩ : ∃ P, tk (pp p) = P := ⟨_, rfl⟩
    rw [hP] at oP
    have hlt := val_mask ha
    obtain ⟨A, hA⟩ : ∃ A, a.set 3 (g64 a 3 &&& 4611686018427387903#64) = A := ⟨_, rfl⟩
    have hAl : A.length = 4 := by rw [← hA, List.length_set]; exact ha
    rw [hA] at hlt
    have hv1 := val_tw hAl hlt
    have hv2 := val_tw1 hAl hlt
    have n1 := nsm_two oP (val A)
    have n2 : nsm P (2 * val A + 1) = addP (addP (nsm P (val A)) (nsm P (val A))) P := by rw [nsm, n1]
    have n3 := all_order oP
    have n4 := base_order
    have t1 := tk_mkP (onP_nsm oP (val A))
    have t2 := tk_mkP (onP_add (onP_nsm oP (val A)) (onP_nsm oP (val A)))
    have t3 := tk_mkP (onP_nsm oP (val b))
    have t4 := tk_mkP onP_base
    have v8 : val (words 4 57896044618658097711785492504343953926856930875039260848015607506283634007912) = 57896044618658097711785492504343953926856930875039260848015607506283634007912 := val4_of (by decide)
    have v1 : val (words 4 7237005577332262213973186563042994240857116359379907606001950938285454250989) = 7237005577332262213973186563042994240857116359379907606001950938285454250989 := val4_of (by decide)
    (try simp (maxSteps := 10000000) (implicitDefEqProofs := false) only [↓both_true, ↓both_false, ↓entryVC, ↓vc_skip, ↓vc_draw, ↓vc_list, ↓vc_seq, ↓vc_seqn, ↓vc_seqe, ↓vc_seqr, ↓vc_cond, ↓condVC, ↓vc_block, ↓vc_blockn, ↓vc_blockr, ↓vc_blocke, ↓vc_loop, ↓vc_exit, ↓vc_ret, ↓vc_loopn, ↓vc_loope, ↓vc_loopr, ↓vcl_nil, ↓vcl_cons, ↓lw_eq, ↓listVC, ↓memK, ↓memR, ↓envOf, ↓guardVC, ↓opVC, ↓pureVC, ↓binVC, ↓bin8, ↓bin32, ↓bin64, ↓binInt, ↓shVC, ↓unVC, ↓cvVC, ↓rdVC, ↓loadVC, ↓pickC, ↓fillVC, ↓bndVC, ↓sliceVC, ↓bltVC, ↓storeVC, ↓appVC, ↓apzVC, ↓markVC, ↓copyVC, ↓callVC, ↓argsVC, ↓argVC, ↓bindR, ↓bindR1, ↓bindRs, ↓retW_eq, ↓extW_eq, ↓rowW_eq, ↓aggW_eq, ↓plv_nil, ↓plv_tk, ↓plv_fz, ↓plv_ld, ↓pt_eq, ↓pz_eq, ↓pl_eq, ↓delAll, ↓keepM, ↓extM, ↓leS, ↓leA, ↓retVC, ↓retR, ↓resVC, ↓resV1, ↓ressVC, ↓strU, ↓xAdd64, ↓xSub64, ↓vc_jn, ↓vc_je, ↓vc_jr, ↓pickA, ↓stU_env, ↓stU_mem, ↓vc_jn, ↓vc_je, ↓vc_jr, ↓pickA, ↓stU_env, ↓stU_mem, both_true, both_false, both_dec, both_ndec, ev, absC, getA, setA, delA, tt, AV.good, AV.plain, AV.isSl, AV.cells, AV.one, Cells.len, Cells.get, Cells.sub, Cells.part, Cells.agg, Cells.upd, Cells.set, Cells.cat, Cells.rep, Cells.ones, TDsc.agg, zOf, putE, dstB, letGo, quietOp, slotOp, pickA, pickA, List.append_eq, Int.cast_ofNat_Int, List.any_cons, List.any_nil, beq_iff_eq, Bool.decide_eq_true, Option.getD_some, Option.getD_none, Option.map_some, Option.map_none, Option.bind_some, Option.isSome_some, Option.isNone_some, Option.isNone_none, Option.isSome_none, ↓reduceIte, Nat.reduceEqDiff, Nat.reduceLT, Nat.reduceLeDiff, Nat.reduceAdd, Nat.reduceSub, Nat.reduceMul, Nat.reduceBEq, Int.reduceLE, Int.reduceLT, Int.reduceToNat, Int.reduceNeg, BitVec.reduceToNat, decide_true, decide_false, and_true, true_and, and_self, Bool.or_true, Bool.true_or, Bool.or_false, Bool.false_or, Bool.not_true, Bool.not_false, List.map_cons, List.map_nil, List.length_cons, List.length_nil, List.getElem?_toArray, List.getElem?_cons_zero, List.getElem?_cons_succ, List.getElem?_nil, forall_const, true_implies, reduceCtorEq, false_and, and_false, false_implies, implies_true, Bool.false_eq_true, Bool.true_eq_false, ne_eq, not_true, not_false_iff, Nat.sub_zero, Nat.zero_add, Nat.add_zero, List.drop_zero, List.drop_succ_cons, List.drop_nil, List.take_zero, List.take_succ_cons, List.take_nil, List.set_cons_zero, List.set_cons_succ, List.nil_append, List.cons_append, List.append_nil, List.replicate_zero, List.replicate_succ, BitVec.ofNat_eq_ofNat, Option.some.injEq, AV.int.injEq, AV.u64.injEq, AV.u32.injEq, AV.u8.injEq, AV.bool.injEq, AV.a64.injEq, AV.a32.injEq, AV.a8.injEq, Nat.zero_le, Int.toNat_natCast, l3, cBase, cOnP, cNegP, cPackP, cZeroP, cAddP, cMulP, cUnpackP, cBothP, cMulF, cSubF, cNumber, byts_len, mkP_len, words_len, beq_self_eq_true, eq_self, Bool.and_self, Bool.and_true, Bool.true_and, Bool.and_false, Bool.false_and, ha, hb, hp, hA, hAl, hv1, hv2, n1, n2, n3, n4, t1, t2, t3, t4, v8, v1, hP, g64_c0, cOrder, cEight, cAlive])
    repeat' (first | (intro _) | ((first | refine draw_ _ _ _ [(.tk, 0), (.tk, 1), (.tk, 3), (.tk, 4), (.ld, 2), (.ld, 5), (.ld, 6), (.ld, 7), (.ld, 8), (.ld, 9)] [6, 7] [] (by decide +kernel) ?_ | refine draw_ _ _ _ [(.tk, 0), (.tk, 1), (.tk, 3), (.tk, 4), (.ld, 2), (.ld, 5), (.fz, 6), (.fz, 7)] [] [] (by decide +kernel) ?_ | refine draw_ _ _ _ [(.tk, 0), (.tk, 1), (.tk, 3), (.tk, 4), (.tk, 6), (.ld, 2), (.ld, 5), (.ld, 7), (.fz, 8), (.fz, 9)] [] [] (by decide +kernel) ?_ | refine draw_ _ _ _ [(.tk, 1), (.tk, 3), (.ld, 0), (.ld, 2), (.fz, 4), (.fz, 5), (.tk, 9), (.ld, 6), (.ld, 7), (.ld, 8), (.fz, 10), (.fz, 11), (.fz, 12)] [] [] (by decide +kernel) ?_ | refine draw_ _ _ _ [(.tk, 0), (.tk, 1), (.tk, 2), (.tk, 3), (.tk, 5), (.tk, 6), (.ld, 4), (.ld, 7), (.fz, 8), (.fz, 9)] [] [] (by decide +kernel) ?_); simp (maxSteps := 10000000) (implicitDefEqProofs := false) only [↓both_true, ↓both_false, ↓entryVC, ↓vc_skip, ↓vc_draw, ↓vc_list, ↓vc_seq, ↓vc_seqn, ↓vc_seqe, ↓vc_seqr, ↓vc_cond, ↓condVC, ↓vc_block, ↓vc_blockn, ↓vc_blockr, ↓vc_blocke, ↓vc_loop, ↓vc_exit, ↓vc_ret, ↓vc_loopn, ↓vc_loope, ↓vc_loopr, ↓vcl_nil, ↓vcl_cons, ↓lw_eq, ↓listVC, ↓memK, ↓memR, ↓envOf, ↓guardVC, ↓opVC, ↓pureVC, ↓binVC, ↓bin8, ↓bin32, ↓bin64, ↓binInt, ↓shVC, ↓unVC, ↓cvVC, ↓rdVC, ↓loadVC, ↓pickC, ↓fillVC, ↓bndVC, ↓sliceVC, ↓bltVC, ↓storeVC, ↓appVC, ↓apzVC, ↓markVC, ↓copyVC, ↓callVC, ↓argsVC, ↓argVC, ↓bindR, ↓bindR1, ↓bindRs, ↓retW_eq, ↓extW_eq, ↓rowW_eq, ↓aggW_eq, ↓plv_nil, ↓plv_tk, ↓plv_fz, ↓plv_ld, ↓pt_eq, ↓pz_eq, ↓pl_eq, ↓delAll, ↓keepM, ↓extM, ↓leS, ↓leA, ↓retVC, ↓retR, ↓resVC, ↓resV1, ↓ressVC, ↓strU, ↓xAdd64, ↓xSub64, ↓vc_jn, ↓vc_je, ↓vc_jr, ↓pickA, ↓stU_env, ↓stU_mem, ↓vc_jn, ↓vc_je, ↓vc_jr, ↓pickA, ↓stU_env, ↓stU_mem, both_true, both_false, both_dec, both_ndec, ev, absC, getA, setA, delA, tt, AV.good, AV.plain, AV.isSl, AV.cells, AV.one, Cells.len, Cells.get, Cells.sub, Cells.part, Cells.agg, Cells.upd, Cells.set, Cells.cat, Cells.rep, Cells.ones, TDsc.agg, zOf, putE, dstB, letGo, quietOp, slotOp, pickA, pickA, List.append_eq, Int.cast_ofNat_Int, List.any_cons, List.any_nil, beq_iff_eq, Bool.decide_eq_true, Option.getD_some, Option.getD_none, Option.map_some, Option.map_none, Option.bind_some, Option.isSome_some, Option.isNone_some, Option.isNone_none, Option.isSome_none, ↓reduceIte, Nat.reduceEqDiff, Nat.reduceLT, Nat.reduceLeDiff, Nat.reduceAdd, Nat.reduceSub, Nat.reduceMul, Nat.reduceBEq, Int.reduceLE, Int.reduceLT, Int.reduceToNat, Int.reduceNeg, BitVec.reduceToNat, decide_true, decide_false, and_true, true_and, and_self, Bool.or_true, Bool.true_or, Bool.or_false, Bool.false_or, Bool.not_true, Bool.not_false, List.map_cons, List.map_nil, List.length_cons, List.length_nil, List.getElem?_toArray, List.getElem?_cons_zero, List.getElem?_cons_succ, List.getElem?_nil, forall_const, true_implies, reduceCtorEq, false_and, and_false, false_implies, implies_true, Bool.false_eq_true, Bool.true_eq_false, ne_eq, not_true, not_false_iff, Nat.sub_zero, Nat.zero_add, Nat.add_zero, List.drop_zero, List.drop_succ_cons, List.drop_nil, List.take_zero, List.take_succ_cons, List.take_nil, List.set_cons_zero, List.set_cons_succ, List.nil_append, List.cons_append, List.append_nil, List.replicate_zero, List.replicate_succ, BitVec.ofNat_eq_ofNat, Option.some.injEq, AV.int.injEq, AV.u64.injEq, AV.u32.injEq, AV.u8.injEq, AV.bool.injEq, AV.a64.injEq, AV.a32.injEq, AV.a8.injEq, Nat.zero_le, Int.toNat_natCast, l3, cBase, cOnP, cNegP, cPackP, cZeroP, cAddP, cMulP, cUnpackP, cBothP, cMulF, cSubF, cNumber, byts_len, mkP_len, words_len, beq_self_eq_true, eq_self, Bool.and_self, Bool.and_true, Bool.true_and, Bool.and_false, Bool.false_and, ha, hb, hp, hA, hAl, hv1, hv2, n1, n2, n3, n4, t1, t2, t3, t4, v8, v1, hP, g64_c0, cOrder, cEight, cAlive]) | exact h | exact ⟨by decide, h⟩ | (refine And.intro (by decide) ?_))
  · exact h.elim
end Go.Proofs.Ytjhfmlnfbmckfaa
