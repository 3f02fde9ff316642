/- What is left, by the field and by whole numbers: the law, by the engine. -/
import Derived.Test.YtkpbjkhgiackpaaSc1
import Derived.Test.YtkpbjkhgiackpaaFq
import Derived.Test.YtkpbjkhgiackpaaQu
namespace Go.Proofs.Ytkpbjkhgiackpaa
open Go Go.RowKit
set_option linter.unusedVariables false
set_option linter.unusedSimpArgs false

def cFl : CT := fun cas K => match cas with
  | [.v (.a64 xs), .v (.a64 ys)] => (xs.length = 4 ∧ ys.length = 4) ∧ K (.one (.v (.bool true)))
  | _ => False
theorem fsgnEq (a b : Nat) : sgn a b = 0 ↔ a = b := by unfold sgn; split <;> (try split) <;> simp <;> omega
theorem fPP : Fld.PP = 2 ^ 255 - 19 := by decide
theorem fPP0 : ¬ Fld.PP = 0 := by decide
theorem fval (v : Nat) : val (words 4 (v % Fld.PP)) = v % Fld.PP := by
  rw [val_words]
  exact Nat.mod_eq_of_lt (Nat.lt_trans (Nat.mod_lt v (by decide)) (by decide))
def cSubY : CT := fun cas K => match cas with
  | [.s (.c32 a), .s (.c32 b)] => (a.length ≤ 100000 ∧ b.length ≤ 100000 ∧ nv32 b ≤ nv32 a) ∧ ∀ e, Can32 e → nv32 e = nv32 a - nv32 b → e.length ≤ a.length → K (.tup [.al (.c32 e), .v (.int 0)])
  | _ => False
theorem sSubY : Sound Try.prog 69 cSubY := sSubN.weak fun cas K h => by
  unfold cSubY at h
  unfold cSubN
  split at h
  · exact ⟨⟨h.1.1, h.1.2.1⟩, fun hbad => absurd hbad (by omega), fun _ e he hev hel => wkK.same (h.2 e he hev hel)⟩
  · exact h.elim
def cDivY : CT := fun cas K => match cas with
  | [.s (.c32 a), .s (.c32 b)] => (a.length ≤ 3000 ∧ b.length ≤ 3000 ∧ nv32 b ≠ 0) ∧ ∀ q r, Can32 q → Can32 r → nv32 q = nv32 a / nv32 b → nv32 r = nv32 a % nv32 b → q.length ≤ a.length → r.length ≤ b.length → K (.tup [.al (.c32 q), .al (.c32 r), .v (.int 0)])
  | _ => False
theorem sDivY : Sound Try.prog 70 cDivY := sDivU.weak fun cas K h => by
  unfold cDivY at h
  unfold cDivM
  split at h
  · exact ⟨⟨h.1.1, h.1.2.1⟩, fun hbad => absurd hbad h.1.2.2, fun _ q r hq hr h1 h2 h3 h4 => wkK.same (h.2 q r hq hr h1 h2 h3 h4)⟩
  · exact h.elim
def ll0 : CTab := fun F => match F with
  | 72 => .fn Fld.cAlive
  | 71 => .fn Sc.cNatl
  | 73 => .fn Fld.cMul
  | 74 => .fn Fld.cAdd
  | 67 => .fn cShlD
  | 68 => .fn cFromR
  | 69 => .fn cSubY
  | 70 => .fn cDivY
  | 33 => .fn cMulU
  | 32 => .fn cAddU
  | 66 => .fn cCmpU
  | _ => .fn noCT
theorem ll0_ok : CTok Try.prog ll0 := by
  intro F
  unfold ll0
  split
  · exact Fld.sAlive
  · exact Sc.sNatlL
  · exact Fld.sMul
  · exact Fld.sAdd
  · exact sShlD
  · exact sFromN
  · exact sSubY
  · exact sDivY
  · exact sMulU
  · exact sAddU
  · exact sCmpV
  · exact sound_none _ _
set_option maxRecDepth 100000 in
set_option maxHeartbeats 1000000 in
theorem sFieldLeft : Sound Try.prog 17 cFl := by
  refine sound_vc (tt := tt) (ct := ll0) ttok ll0_ok mixed Try.func17 rfl (by decide) (rs := [.tmp 4]) rfl (ts := [4]) (k := 0) ?_
  intro cas K h
  unfold cFl at h
  split at h
  · rename_i xs ys
    rw [Try.ntmps17]
    refine ⟨by simp, ?_⟩
    obtain ⟨⟨hx, hy⟩, h⟩ := h
    simp (maxSteps := 10000000) (implicitDefEqProofs := false) only [↓both_true, ↓both_false, ↓entryVC, ↓vc_skip, ↓vc_draw, ↓vc_list, ↓vc_seq, ↓vc_seqn, ↓vc_seqe, ↓vc_seqr, ↓vc_cond, ↓condVC, ↓vc_block, ↓vc_blockn, ↓vc_blockr, ↓vc_blocke, ↓vc_loop, ↓vc_exit, ↓vc_ret, ↓vc_loopn, ↓vc_loope, ↓vc_loopr, ↓vcl_nil, ↓vcl_cons, ↓lw_eq, ↓listVC, ↓memK, ↓memR, ↓envOf, ↓guardVC, ↓opVC, ↓pureVC, ↓binT, ↓wrapT, ↓TDsc.isW, ↓binW, ↓binVC, ↓bin8, ↓bin32, ↓bin64, ↓binInt, ↓shVC, ↓unVC, ↓cvVC, ↓rdVC, ↓loadVC, ↓pickC, ↓fillVC, ↓bndVC, ↓sliceVC, ↓bltVC, ↓storeVC, ↓appVC, ↓apzVC, ↓markVC, ↓copyVC, ↓callVC, ↓argsVC, ↓argVC, ↓bindR, ↓bindR1, ↓bindRs, ↓retW_eq, ↓extW_eq, ↓rowW_eq, ↓aggW_eq, ↓plv_nil, ↓plv_tk, ↓plv_fz, ↓plv_ld, ↓pt_eq, ↓pz_eq, ↓pl_eq, ↓delAll, ↓keepM_nil, ↓keepM, ↓extE, ↓extM, ↓leS, ↓leA, ↓retVC, ↓retR, ↓resVC, ↓resV1, ↓ressVC, ↓strU, ↓xAdd64, ↓xSub64, ↓vc_jn, ↓vc_je, ↓vc_jr, ↓pickA, ↓stU_env, ↓stU_mem, frz, frzs, both_true, both_false, both_dec, both_ndec, ev, absC, getA, setA, delA, tt, AV.good, AV.plain, AV.isSl, AV.cells, AV.one, Cells.len, Cells.get, Cells.sub, Cells.part, Cells.agg, Cells.upd, Cells.set, Cells.cat, Cells.rep, Cells.ones, TDsc.agg, zOf, putE, dstB, letGo, quietOp, slotOp, pickA, true_or, or_true, List.append_eq, Int.cast_ofNat_Int, List.any_cons, List.any_nil, beq_iff_eq, Bool.decide_eq_true, Option.getD_some, Option.getD_none, Option.map_some, Option.map_none, Option.bind_some, Option.isSome_some, Option.isNone_some, Option.isNone_none, Option.isSome_none, ↓reduceIte, Nat.reduceEqDiff, Nat.reduceLT, Nat.reduceLeDiff, Nat.reduceAdd, Nat.reduceSub, Nat.reduceMul, Nat.reduceBEq, Int.reduceLE, Int.reduceLT, Int.reduceToNat, Int.reduceNeg, BitVec.reduceToNat, decide_true, decide_false, and_true, true_and, and_self, Bool.or_true, Bool.true_or, Bool.or_false, Bool.false_or, Bool.not_true, Bool.not_false, List.map_cons, List.map_nil, List.length_cons, List.length_nil, List.getElem?_toArray, List.getElem?_cons_zero, List.getElem?_cons_succ, List.getElem?_nil, forall_const, true_implies, reduceCtorEq, false_and, and_false, false_implies, implies_true, Bool.false_eq_true, Bool.true_eq_false, ne_eq, not_true, not_false_iff, Nat.sub_zero, Nat.zero_add, Nat.add_zero, List.drop_zero, List.drop_succ_cons, List.drop_nil, List.take_zero, List.take_succ_cons, List.take_nil, List.set_cons_zero, List.set_cons_succ, List.nil_append, List.cons_append, List.append_nil, List.replicate_zero, List.replicate_succ, BitVec.ofNat_eq_ofNat, Option.some.injEq, AV.int.injEq, AV.u64.injEq, AV.u32.injEq, AV.u8.injEq, AV.bool.injEq, AV.a64.injEq, AV.a32.injEq, AV.a8.injEq, Nat.zero_le, Int.toNat_natCast, ll0, Fld.cAlive, Sc.cNatl, Fld.cMul, Fld.cAdd, cShlD, cFromR, cSubY, cDivY, cMulU, cAddU, cCmpU, List.getD_cons_zero, Int.reduceEq, Int.reduceNe, hx, hy, words_len, Sc.sp4_len, Sc.sp4_val, fval]
    intro g g1 e he hev hel A c _
    refine ⟨by omega, fun p hp hpv hpl A1 c1 _ e2 he2 hev2 hel2 A2 c2 _ => ?_⟩
    refine ⟨⟨by omega, by omega, by rw [hpv, hev, hev2]; decide⟩, fun m hm hmv hml A3 c3 _ => ?_⟩
    have hmP : nv32 m = Fld.PP := by rw [hmv, hpv, hev, hev2, fPP]
    have hm0 : ¬ nv32 m = 0 := by rw [hmP]; exact fPP0
    clear hmv hpv hev hev2
    refine draw_ _ _ _ [(.fz, 5), (.tk, 0), (.tk, 2), (.ld, 1), (.ld, 3), (.ld, 4), (.ld, 6), (.fz, 7), (.fz, 8), (.fz, 9), (.fz, 10), (.fz, 11), (.fz, 12), (.fz, 13)] [] [2, 3, 7] (by kernel_rfl) ?_
    simp (maxSteps := 10000000) (implicitDefEqProofs := false) only [↓both_true, ↓both_false, ↓entryVC, ↓vc_skip, ↓vc_draw, ↓vc_list, ↓vc_seq, ↓vc_seqn, ↓vc_seqe, ↓vc_seqr, ↓vc_cond, ↓condVC, ↓vc_block, ↓vc_blockn, ↓vc_blockr, ↓vc_blocke, ↓vc_loop, ↓vc_exit, ↓vc_ret, ↓vc_loopn, ↓vc_loope, ↓vc_loopr, ↓vcl_nil, ↓vcl_cons, ↓lw_eq, ↓listVC, ↓memK, ↓memR, ↓envOf, ↓guardVC, ↓opVC, ↓pureVC, ↓binT, ↓wrapT, ↓TDsc.isW, ↓binW, ↓binVC, ↓bin8, ↓bin32, ↓bin64, ↓binInt, ↓shVC, ↓unVC, ↓cvVC, ↓rdVC, ↓loadVC, ↓pickC, ↓fillVC, ↓bndVC, ↓sliceVC, ↓bltVC, ↓storeVC, ↓appVC, ↓apzVC, ↓markVC, ↓copyVC, ↓callVC, ↓argsVC, ↓argVC, ↓bindR, ↓bindR1, ↓bindRs, ↓retW_eq, ↓extW_eq, ↓rowW_eq, ↓aggW_eq, ↓plv_nil, ↓plv_tk, ↓plv_fz, ↓plv_ld, ↓pt_eq, ↓pz_eq, ↓pl_eq, ↓delAll, ↓keepM_nil, ↓keepM, ↓extE, ↓extM, ↓leS, ↓leA, ↓retVC, ↓retR, ↓resVC, ↓resV1, ↓ressVC, ↓strU, ↓xAdd64, ↓xSub64, ↓vc_jn, ↓vc_je, ↓vc_jr, ↓pickA, ↓stU_env, ↓stU_mem, frz, frzs, both_true, both_false, both_dec, both_ndec, ev, absC, getA, setA, delA, tt, AV.good, AV.plain, AV.isSl, AV.cells, AV.one, Cells.len, Cells.get, Cells.sub, Cells.part, Cells.agg, Cells.upd, Cells.set, Cells.cat, Cells.rep, Cells.ones, TDsc.agg, zOf, putE, dstB, letGo, quietOp, slotOp, pickA, true_or, or_true, List.append_eq, Int.cast_ofNat_Int, List.any_cons, List.any_nil, beq_iff_eq, Bool.decide_eq_true, Option.getD_some, Option.getD_none, Option.map_some, Option.map_none, Option.bind_some, Option.isSome_some, Option.isNone_some, Option.isNone_none, Option.isSome_none, ↓reduceIte, Nat.reduceEqDiff, Nat.reduceLT, Nat.reduceLeDiff, Nat.reduceAdd, Nat.reduceSub, Nat.reduceMul, Nat.reduceBEq, Int.reduceLE, Int.reduceLT, Int.reduceToNat, Int.reduceNeg, BitVec.reduceToNat, decide_true, decide_false, and_true, true_and, and_self, Bool.or_true, Bool.true_or, Bool.or_false, Bool.false_or, Bool.not_true, Bool.not_false, List.map_cons, List.map_nil, List.length_cons, List.length_nil, List.getElem?_toArray, List.getElem?_cons_zero, List.getElem?_cons_succ, List.getElem?_nil, forall_const, true_implies, reduceCtorEq, false_and, and_false, false_implies, implies_true, Bool.false_eq_true, Bool.true_eq_false, ne_eq, not_true, not_false_iff, Nat.sub_zero, Nat.zero_add, Nat.add_zero, List.drop_zero, List.drop_succ_cons, List.drop_nil, List.take_zero, List.take_succ_cons, List.take_nil, List.set_cons_zero, List.set_cons_succ, List.nil_append, List.cons_append, List.append_nil, List.replicate_zero, List.replicate_succ, BitVec.ofNat_eq_ofNat, Option.some.injEq, AV.int.injEq, AV.u64.injEq, AV.u32.injEq, AV.u8.injEq, AV.bool.injEq, AV.a64.injEq, AV.a32.injEq, AV.a8.injEq, Nat.zero_le, Int.toNat_natCast, ll0, Fld.cAlive, Sc.cNatl, Fld.cMul, Fld.cAdd, cShlD, cFromR, cSubY, cDivY, cMulU, cAddU, cCmpU, List.getD_cons_zero, Int.reduceEq, Int.reduceNe, hx, hy, words_len, Sc.sp4_len, Sc.sp4_val, fval]
    intro A4 c4 _ A5 c5 _ e3 he3 hev3 hel3 A6 c6 _
    refine ⟨⟨by omega, by omega, hm0⟩, fun q r hq hr hqv hrv hql hrl A7 c7 _ A8 c8 _ => ?_⟩
    rw [hev3, hmP] at hrv
    refine draw_ _ _ _ [(.fz, 5), (.tk, 0), (.tk, 2), (.ld, 1), (.ld, 3), (.ld, 4), (.ld, 6), (.fz, 7), (.fz, 8), (.fz, 9), (.fz, 10), (.fz, 11), (.fz, 12), (.fz, 13)] [] [2, 3, 7, 12] (by kernel_rfl) ?_
    simp (maxSteps := 10000000) (implicitDefEqProofs := false) only [↓both_true, ↓both_false, ↓entryVC, ↓vc_skip, ↓vc_draw, ↓vc_list, ↓vc_seq, ↓vc_seqn, ↓vc_seqe, ↓vc_seqr, ↓vc_cond, ↓condVC, ↓vc_block, ↓vc_blockn, ↓vc_blockr, ↓vc_blocke, ↓vc_loop, ↓vc_exit, ↓vc_ret, ↓vc_loopn, ↓vc_loope, ↓vc_loopr, ↓vcl_nil, ↓vcl_cons, ↓lw_eq, ↓listVC, ↓memK, ↓memR, ↓envOf, ↓guardVC, ↓opVC, ↓pureVC, ↓binT, ↓wrapT, ↓TDsc.isW, ↓binW, ↓binVC, ↓bin8, ↓bin32, ↓bin64, ↓binInt, ↓shVC, ↓unVC, ↓cvVC, ↓rdVC, ↓loadVC, ↓pickC, ↓fillVC, ↓bndVC, ↓sliceVC, ↓bltVC, ↓storeVC, ↓appVC, ↓apzVC, ↓markVC, ↓copyVC, ↓callVC, ↓argsVC, ↓argVC, ↓bindR, ↓bindR1, ↓bindRs, ↓retW_eq, ↓extW_eq, ↓rowW_eq, ↓aggW_eq, ↓plv_nil, ↓plv_tk, ↓plv_fz, ↓plv_ld, ↓pt_eq, ↓pz_eq, ↓pl_eq, ↓delAll, ↓keepM_nil, ↓keepM, ↓extE, ↓extM, ↓leS, ↓leA, ↓retVC, ↓retR, ↓resVC, ↓resV1, ↓ressVC, ↓strU, ↓xAdd64, ↓xSub64, ↓vc_jn, ↓vc_je, ↓vc_jr, ↓pickA, ↓stU_env, ↓stU_mem, frz, frzs, both_true, both_false, both_dec, both_ndec, ev, absC, getA, setA, delA, tt, AV.good, AV.plain, AV.isSl, AV.cells, AV.one, Cells.len, Cells.get, Cells.sub, Cells.part, Cells.agg, Cells.upd, Cells.set, Cells.cat, Cells.rep, Cells.ones, TDsc.agg, zOf, putE, dstB, letGo, quietOp, slotOp, pickA, true_or, or_true, List.append_eq, Int.cast_ofNat_Int, List.any_cons, List.any_nil, beq_iff_eq, Bool.decide_eq_true, Option.getD_some, Option.getD_none, Option.map_some, Option.map_none, Option.bind_some, Option.isSome_some, Option.isNone_some, Option.isNone_none, Option.isSome_none, ↓reduceIte, Nat.reduceEqDiff, Nat.reduceLT, Nat.reduceLeDiff, Nat.reduceAdd, Nat.reduceSub, Nat.reduceMul, Nat.reduceBEq, Int.reduceLE, Int.reduceLT, Int.reduceToNat, Int.reduceNeg, BitVec.reduceToNat, decide_true, decide_false, and_true, true_and, and_self, Bool.or_true, Bool.true_or, Bool.or_false, Bool.false_or, Bool.not_true, Bool.not_false, List.map_cons, List.map_nil, List.length_cons, List.length_nil, List.getElem?_toArray, List.getElem?_cons_zero, List.getElem?_cons_succ, List.getElem?_nil, forall_const, true_implies, reduceCtorEq, false_and, and_false, false_implies, implies_true, Bool.false_eq_true, Bool.true_eq_false, ne_eq, not_true, not_false_iff, Nat.sub_zero, Nat.zero_add, Nat.add_zero, List.drop_zero, List.drop_succ_cons, List.drop_nil, List.take_zero, List.take_succ_cons, List.take_nil, List.set_cons_zero, List.set_cons_succ, List.nil_append, List.cons_append, List.append_nil, List.replicate_zero, List.replicate_succ, BitVec.ofNat_eq_ofNat, Option.some.injEq, AV.int.injEq, AV.u64.injEq, AV.u32.injEq, AV.u8.injEq, AV.bool.injEq, AV.a64.injEq, AV.a32.injEq, AV.a8.injEq, Nat.zero_le, Int.toNat_natCast, ll0, Fld.cAlive, Sc.cNatl, Fld.cMul, Fld.cAdd, cShlD, cFromR, cSubY, cDivY, cMulU, cAddU, cCmpU, List.getD_cons_zero, Int.reduceEq, Int.reduceNe, hx, hy, words_len, Sc.sp4_len, Sc.sp4_val, fval]
    intro _ _ _ _ e4 he4 hev4 hel4 _ _
    refine ⟨⟨by omega, by omega, hm0⟩, fun q2 r2 hq2 hr2 hqv2 hrv2 hql2 hrl2 _ _ _ _ _ _ => ?_⟩
    rw [hev4, hmP] at hrv2
    simp only [fsgnEq, hrv, hrv2, true_implies, not_true, false_implies, and_true, decide_true]
    exact ⟨by omega, fun _ _ => ⟨by omega, h⟩⟩
  · exact h.elim
end Go.Proofs.Ytkpbjkhgiackpaa
