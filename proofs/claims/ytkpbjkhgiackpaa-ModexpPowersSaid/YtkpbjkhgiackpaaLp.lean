/- The law of powers, by the engine. -/
import Derived.Test.YtkpbjkhgiackpaaLm0
namespace Go.Proofs.Ytkpbjkhgiackpaa
open Go Go.RowKit
set_option linter.unusedVariables false
set_option linter.unusedSimpArgs false

set_option maxRecDepth 100000 in
set_option maxHeartbeats 4000000 in
theorem sModexpPowers : Sound Try.prog 6 cLawMP := by
  refine sound_mid (tt := tt) (ct := lm1) ttok lm1_ok mixed Try.func6 rfl (by decide) (rs := [.tmp 6]) rfl (ts := [4]) [_, _] _ _ _ rfl ?_
  intro cas K h
  unfold cLawMP at h
  split at h
  · rename_i a m x
    rw [Try.ntmps6]
    refine ⟨by simp, ?_⟩
    obtain ⟨hx, h⟩ := h
    simp only [seqs]
    simp (maxSteps := 10000000) (implicitDefEqProofs := false) only [↓both_true, ↓both_false, ↓entryVC, ↓vc_skip, ↓vc_draw, ↓vc_list, ↓vc_seq, ↓vc_seqn, ↓vc_seqe, ↓vc_seqr, ↓vc_cond, ↓condVC, ↓vc_block, ↓vc_blockn, ↓vc_blockr, ↓vc_blocke, ↓vc_loop, ↓vc_exit, ↓vc_ret, ↓vc_loopn, ↓vc_loope, ↓vc_loopr, ↓vcl_nil, ↓vcl_cons, ↓lw_eq, ↓listVC, ↓memK, ↓memR, ↓envOf, ↓guardVC, ↓opVC, ↓pureVC, ↓binT, ↓wrapT, ↓TDsc.isW, ↓binW, ↓binVC, ↓bin8, ↓bin32, ↓bin64, ↓binInt, ↓shVC, ↓unVC, ↓cvVC, ↓rdVC, ↓loadVC, ↓pickC, ↓fillVC, ↓bndVC, ↓sliceVC, ↓bltVC, ↓storeVC, ↓appVC, ↓apzVC, ↓markVC, ↓copyVC, ↓callVC, ↓argsVC, ↓argVC, ↓bindR, ↓bindR1, ↓bindRs, ↓retW_eq, ↓extW_eq, ↓rowW_eq, ↓aggW_eq, ↓plv_nil, ↓plv_tk, ↓plv_fz, ↓plv_ld, ↓pt_eq, ↓pz_eq, ↓pl_eq, ↓delAll, ↓keepM_nil, ↓keepM, ↓extE, ↓extM, ↓leS, ↓leA, ↓retVC, ↓retR, ↓resVC, ↓resV1, ↓ressVC, ↓strU, ↓xAdd64, ↓xSub64, ↓vc_jn, ↓vc_je, ↓vc_jr, ↓pickA, ↓stU_env, ↓stU_mem, frz, frzs, both_true, both_false, both_dec, both_ndec, ev, absC, getA, setA, delA, tt, AV.good, AV.plain, AV.isSl, AV.cells, AV.one, Cells.len, Cells.get, Cells.sub, Cells.part, Cells.agg, Cells.upd, Cells.set, Cells.cat, Cells.rep, Cells.ones, TDsc.agg, zOf, putE, dstB, letGo, quietOp, slotOp, pickA, true_or, or_true, List.append_eq, Int.cast_ofNat_Int, List.any_cons, List.any_nil, beq_iff_eq, Bool.decide_eq_true, Option.getD_some, Option.getD_none, Option.map_some, Option.map_none, Option.bind_some, Option.isSome_some, Option.isNone_some, Option.isNone_none, Option.isSome_none, ↓reduceIte, Nat.reduceEqDiff, Nat.reduceLT, Nat.reduceLeDiff, Nat.reduceAdd, Nat.reduceSub, Nat.reduceMul, Nat.reduceBEq, Int.reduceLE, Int.reduceLT, Int.reduceToNat, Int.reduceNeg, BitVec.reduceToNat, decide_true, decide_false, and_true, true_and, and_self, Bool.or_true, Bool.true_or, Bool.or_false, Bool.false_or, Bool.not_true, Bool.not_false, List.map_cons, List.map_nil, List.length_cons, List.length_nil, List.getElem?_toArray, List.getElem?_cons_zero, List.getElem?_cons_succ, List.getElem?_nil, forall_const, true_implies, reduceCtorEq, false_and, and_false, false_implies, implies_true, Bool.false_eq_true, Bool.true_eq_false, ne_eq, not_true, not_false_iff, Nat.sub_zero, Nat.zero_add, Nat.add_zero, List.drop_zero, List.drop_succ_cons, List.drop_nil, List.take_zero, List.take_succ_cons, List.take_nil, List.set_cons_zero, List.set_cons_succ, List.nil_append, List.cons_append, List.append_nil, List.replicate_zero, List.replicate_succ, BitVec.ofNat_eq_ofNat, Option.some.injEq, AV.int.injEq, AV.u64.injEq, AV.u32.injEq, AV.u8.injEq, AV.bool.injEq, AV.a64.injEq, AV.a32.injEq, AV.a8.injEq, Nat.zero_le, Int.toNat_natCast, lm1, cTrue0, cExpM, cMulM, cBits, cCmpU, cAddU, cMulU, List.getD_cons_zero, Int.reduceEq, Int.reduceNe, midK_n, midK_r]
    intro Aa ca _ Am cm _
    intros
    by_cases c1 : 24 < (a.length : Int)
    · simp (maxSteps := 10000000) (implicitDefEqProofs := false) only [↓both_true, ↓both_false, ↓entryVC, ↓vc_skip, ↓vc_draw, ↓vc_list, ↓vc_seq, ↓vc_seqn, ↓vc_seqe, ↓vc_seqr, ↓vc_cond, ↓condVC, ↓vc_block, ↓vc_blockn, ↓vc_blockr, ↓vc_blocke, ↓vc_loop, ↓vc_exit, ↓vc_ret, ↓vc_loopn, ↓vc_loope, ↓vc_loopr, ↓vcl_nil, ↓vcl_cons, ↓lw_eq, ↓listVC, ↓memK, ↓memR, ↓envOf, ↓guardVC, ↓opVC, ↓pureVC, ↓binT, ↓wrapT, ↓TDsc.isW, ↓binW, ↓binVC, ↓bin8, ↓bin32, ↓bin64, ↓binInt, ↓shVC, ↓unVC, ↓cvVC, ↓rdVC, ↓loadVC, ↓pickC, ↓fillVC, ↓bndVC, ↓sliceVC, ↓bltVC, ↓storeVC, ↓appVC, ↓apzVC, ↓markVC, ↓copyVC, ↓callVC, ↓argsVC, ↓argVC, ↓bindR, ↓bindR1, ↓bindRs, ↓retW_eq, ↓extW_eq, ↓rowW_eq, ↓aggW_eq, ↓plv_nil, ↓plv_tk, ↓plv_fz, ↓plv_ld, ↓pt_eq, ↓pz_eq, ↓pl_eq, ↓delAll, ↓keepM_nil, ↓keepM, ↓extE, ↓extM, ↓leS, ↓leA, ↓retVC, ↓retR, ↓resVC, ↓resV1, ↓ressVC, ↓strU, ↓xAdd64, ↓xSub64, ↓vc_jn, ↓vc_je, ↓vc_jr, ↓pickA, ↓stU_env, ↓stU_mem, frz, frzs, both_true, both_false, both_dec, both_ndec, ev, absC, getA, setA, delA, tt, AV.good, AV.plain, AV.isSl, AV.cells, AV.one, Cells.len, Cells.get, Cells.sub, Cells.part, Cells.agg, Cells.upd, Cells.set, Cells.cat, Cells.rep, Cells.ones, TDsc.agg, zOf, putE, dstB, letGo, quietOp, slotOp, pickA, true_or, or_true, List.append_eq, Int.cast_ofNat_Int, List.any_cons, List.any_nil, beq_iff_eq, Bool.decide_eq_true, Option.getD_some, Option.getD_none, Option.map_some, Option.map_none, Option.bind_some, Option.isSome_some, Option.isNone_some, Option.isNone_none, Option.isSome_none, ↓reduceIte, Nat.reduceEqDiff, Nat.reduceLT, Nat.reduceLeDiff, Nat.reduceAdd, Nat.reduceSub, Nat.reduceMul, Nat.reduceBEq, Int.reduceLE, Int.reduceLT, Int.reduceToNat, Int.reduceNeg, BitVec.reduceToNat, decide_true, decide_false, and_true, true_and, and_self, Bool.or_true, Bool.true_or, Bool.or_false, Bool.false_or, Bool.not_true, Bool.not_false, List.map_cons, List.map_nil, List.length_cons, List.length_nil, List.getElem?_toArray, List.getElem?_cons_zero, List.getElem?_cons_succ, List.getElem?_nil, forall_const, true_implies, reduceCtorEq, false_and, and_false, false_implies, implies_true, Bool.false_eq_true, Bool.true_eq_false, ne_eq, not_true, not_false_iff, Nat.sub_zero, Nat.zero_add, Nat.add_zero, List.drop_zero, List.drop_succ_cons, List.drop_nil, List.take_zero, List.take_succ_cons, List.take_nil, List.set_cons_zero, List.set_cons_succ, List.nil_append, List.cons_append, List.append_nil, List.replicate_zero, List.replicate_succ, BitVec.ofNat_eq_ofNat, Option.some.injEq, AV.int.injEq, AV.u64.injEq, AV.u32.injEq, AV.u8.injEq, AV.bool.injEq, AV.a64.injEq, AV.a32.injEq, AV.a8.injEq, Nat.zero_le, Int.toNat_natCast, lm1, cTrue0, cExpM, cMulM, cBits, cCmpU, cAddU, cMulU, List.getD_cons_zero, Int.reduceEq, Int.reduceNe, midK_n, midK_r, c1]
      exact h
    · by_cases c2 : 24 < (m.length : Int)
      · simp (maxSteps := 10000000) (implicitDefEqProofs := false) only [↓both_true, ↓both_false, ↓entryVC, ↓vc_skip, ↓vc_draw, ↓vc_list, ↓vc_seq, ↓vc_seqn, ↓vc_seqe, ↓vc_seqr, ↓vc_cond, ↓condVC, ↓vc_block, ↓vc_blockn, ↓vc_blockr, ↓vc_blocke, ↓vc_loop, ↓vc_exit, ↓vc_ret, ↓vc_loopn, ↓vc_loope, ↓vc_loopr, ↓vcl_nil, ↓vcl_cons, ↓lw_eq, ↓listVC, ↓memK, ↓memR, ↓envOf, ↓guardVC, ↓opVC, ↓pureVC, ↓binT, ↓wrapT, ↓TDsc.isW, ↓binW, ↓binVC, ↓bin8, ↓bin32, ↓bin64, ↓binInt, ↓shVC, ↓unVC, ↓cvVC, ↓rdVC, ↓loadVC, ↓pickC, ↓fillVC, ↓bndVC, ↓sliceVC, ↓bltVC, ↓storeVC, ↓appVC, ↓apzVC, ↓markVC, ↓copyVC, ↓callVC, ↓argsVC, ↓argVC, ↓bindR, ↓bindR1, ↓bindRs, ↓retW_eq, ↓extW_eq, ↓rowW_eq, ↓aggW_eq, ↓plv_nil, ↓plv_tk, ↓plv_fz, ↓plv_ld, ↓pt_eq, ↓pz_eq, ↓pl_eq, ↓delAll, ↓keepM_nil, ↓keepM, ↓extE, ↓extM, ↓leS, ↓leA, ↓retVC, ↓retR, ↓resVC, ↓resV1, ↓ressVC, ↓strU, ↓xAdd64, ↓xSub64, ↓vc_jn, ↓vc_je, ↓vc_jr, ↓pickA, ↓stU_env, ↓stU_mem, frz, frzs, both_true, both_false, both_dec, both_ndec, ev, absC, getA, setA, delA, tt, AV.good, AV.plain, AV.isSl, AV.cells, AV.one, Cells.len, Cells.get, Cells.sub, Cells.part, Cells.agg, Cells.upd, Cells.set, Cells.cat, Cells.rep, Cells.ones, TDsc.agg, zOf, putE, dstB, letGo, quietOp, slotOp, pickA, true_or, or_true, List.append_eq, Int.cast_ofNat_Int, List.any_cons, List.any_nil, beq_iff_eq, Bool.decide_eq_true, Option.getD_some, Option.getD_none, Option.map_some, Option.map_none, Option.bind_some, Option.isSome_some, Option.isNone_some, Option.isNone_none, Option.isSome_none, ↓reduceIte, Nat.reduceEqDiff, Nat.reduceLT, Nat.reduceLeDiff, Nat.reduceAdd, Nat.reduceSub, Nat.reduceMul, Nat.reduceBEq, Int.reduceLE, Int.reduceLT, Int.reduceToNat, Int.reduceNeg, BitVec.reduceToNat, decide_true, decide_false, and_true, true_and, and_self, Bool.or_true, Bool.true_or, Bool.or_false, Bool.false_or, Bool.not_true, Bool.not_false, List.map_cons, List.map_nil, List.length_cons, List.length_nil, List.getElem?_toArray, List.getElem?_cons_zero, List.getElem?_cons_succ, List.getElem?_nil, forall_const, true_implies, reduceCtorEq, false_and, and_false, false_implies, implies_true, Bool.false_eq_true, Bool.true_eq_false, ne_eq, not_true, not_false_iff, Nat.sub_zero, Nat.zero_add, Nat.add_zero, List.drop_zero, List.drop_succ_cons, List.drop_nil, List.take_zero, List.take_succ_cons, List.take_nil, List.set_cons_zero, List.set_cons_succ, List.nil_append, List.cons_append, List.append_nil, List.replicate_zero, List.replicate_succ, BitVec.ofNat_eq_ofNat, Option.some.injEq, AV.int.injEq, AV.u64.injEq, AV.u32.injEq, AV.u8.injEq, AV.bool.injEq, AV.a64.injEq, AV.a32.injEq, AV.a8.injEq, Nat.zero_le, Int.toNat_natCast, lm1, cTrue0, cExpM, cMulM, cBits, cCmpU, cAddU, cMulU, List.getD_cons_zero, Int.reduceEq, Int.reduceNe, midK_n, midK_r, c1, c2]
        exact h
      · simp (maxSteps := 10000000) (implicitDefEqProofs := false) only [↓both_true, ↓both_false, ↓entryVC, ↓vc_skip, ↓vc_draw, ↓vc_list, ↓vc_seq, ↓vc_seqn, ↓vc_seqe, ↓vc_seqr, ↓vc_cond, ↓condVC, ↓vc_block, ↓vc_blockn, ↓vc_blockr, ↓vc_blocke, ↓vc_loop, ↓vc_exit, ↓vc_ret, ↓vc_loopn, ↓vc_loope, ↓vc_loopr, ↓vcl_nil, ↓vcl_cons, ↓lw_eq, ↓listVC, ↓memK, ↓memR, ↓envOf, ↓guardVC, ↓opVC, ↓pureVC, ↓binT, ↓wrapT, ↓TDsc.isW, ↓binW, ↓binVC, ↓bin8, ↓bin32, ↓bin64, ↓binInt, ↓shVC, ↓unVC, ↓cvVC, ↓rdVC, ↓loadVC, ↓pickC, ↓fillVC, ↓bndVC, ↓sliceVC, ↓bltVC, ↓storeVC, ↓appVC, ↓apzVC, ↓markVC, ↓copyVC, ↓callVC, ↓argsVC, ↓argVC, ↓bindR, ↓bindR1, ↓bindRs, ↓retW_eq, ↓extW_eq, ↓rowW_eq, ↓aggW_eq, ↓plv_nil, ↓plv_tk, ↓plv_fz, ↓plv_ld, ↓pt_eq, ↓pz_eq, ↓pl_eq, ↓delAll, ↓keepM_nil, ↓keepM, ↓extE, ↓extM, ↓leS, ↓leA, ↓retVC, ↓retR, ↓resVC, ↓resV1, ↓ressVC, ↓strU, ↓xAdd64, ↓xSub64, ↓vc_jn, ↓vc_je, ↓vc_jr, ↓pickA, ↓stU_env, ↓stU_mem, frz, frzs, both_true, both_false, both_dec, both_ndec, ev, absC, getA, setA, delA, tt, AV.good, AV.plain, AV.isSl, AV.cells, AV.one, Cells.len, Cells.get, Cells.sub, Cells.part, Cells.agg, Cells.upd, Cells.set, Cells.cat, Cells.rep, Cells.ones, TDsc.agg, zOf, putE, dstB, letGo, quietOp, slotOp, pickA, true_or, or_true, List.append_eq, Int.cast_ofNat_Int, List.any_cons, List.any_nil, beq_iff_eq, Bool.decide_eq_true, Option.getD_some, Option.getD_none, Option.map_some, Option.map_none, Option.bind_some, Option.isSome_some, Option.isNone_some, Option.isNone_none, Option.isSome_none, ↓reduceIte, Nat.reduceEqDiff, Nat.reduceLT, Nat.reduceLeDiff, Nat.reduceAdd, Nat.reduceSub, Nat.reduceMul, Nat.reduceBEq, Int.reduceLE, Int.reduceLT, Int.reduceToNat, Int.reduceNeg, BitVec.reduceToNat, decide_true, decide_false, and_true, true_and, and_self, Bool.or_true, Bool.true_or, Bool.or_false, Bool.false_or, Bool.not_true, Bool.not_false, List.map_cons, List.map_nil, List.length_cons, List.length_nil, List.getElem?_toArray, List.getElem?_cons_zero, List.getElem?_cons_succ, List.getElem?_nil, forall_const, true_implies, reduceCtorEq, false_and, and_false, false_implies, implies_true, Bool.false_eq_true, Bool.true_eq_false, ne_eq, not_true, not_false_iff, Nat.sub_zero, Nat.zero_add, Nat.add_zero, List.drop_zero, List.drop_succ_cons, List.drop_nil, List.take_zero, List.take_succ_cons, List.take_nil, List.set_cons_zero, List.set_cons_succ, List.nil_append, List.cons_append, List.append_nil, List.replicate_zero, List.replicate_succ, BitVec.ofNat_eq_ofNat, Option.some.injEq, AV.int.injEq, AV.u64.injEq, AV.u32.injEq, AV.u8.injEq, AV.bool.injEq, AV.a64.injEq, AV.a32.injEq, AV.a8.injEq, Nat.zero_le, Int.toNat_natCast, lm1, cTrue0, cExpM, cMulM, cBits, cCmpU, cAddU, cMulU, List.getD_cons_zero, Int.reduceEq, Int.reduceNe, midK_n, midK_r, c1, c2]
        refine ⟨by omega, fun _ => h, fun hb => ?_⟩
        have hm0 : ¬ nv32 m = 0 := fun hh => hb ((blZ _).2 hh)
        refine midU [0, 1] [0, 1] 200 (ι := Option Addr × Nat × Option Addr × Nat) (fun s => [(7, .ros 100 s.1 1 s.2.1), (8, .ros 101 s.2.2.1 1 s.2.2.2)]) (fun s => [(100, .ro s.1 s.2.1 (.c32 [g32 x 0])), (101, .ro s.2.2.1 s.2.2.2 (.c32 [g32 x 1]))]) ?_ ?_
        · show anyVC _ _ _ _ _ 8 _ _ _ _
          refine any_step 0 [3] (by decide +kernel) ?_
          refine ⟨?_, ?_, trivial⟩
          · (unfold anyI)
            simp (maxSteps := 10000000) (implicitDefEqProofs := false) only [AV.good, BitVec.ofNat_eq_ofNat, Bool.false_eq_true, Cells.get, Cells.len, Cells.rep, Cells.set, Int.cast_ofNat_Int, Int.reduceLE, Int.reduceLT, Int.reduceToNat, List.getElem?_cons_succ, List.getElem?_cons_zero, List.getElem?_toArray, List.length_cons, List.length_nil, List.map_cons, List.map_nil, List.replicate_succ, List.replicate_zero, List.set_cons_zero, Nat.add_zero, Nat.reduceAdd, Nat.reduceEqDiff, Nat.reduceLT, Nat.reduceLeDiff, Nat.zero_add, Option.getD_some, Option.map_some, TDsc.agg, absC, and_false, and_self, decide_true, dstB, ev, getA, hx, reduceCtorEq, true_and, tt, ↓anyAt, ↓fillVC, ↓guardVC, ↓loadVC, ↓opVC, ↓pickC, ↓pureVC, ↓reduceIte, ↓rowW_eq]
            refine any_w _ _ _ _ _ _ _ _ _ _ _ _ ?_
            simp only [putE]
            refine any_step 1 [3] (by decide +kernel) ?_
            refine ⟨?_, ?_, trivial⟩
            · (unfold anyI)
              simp (maxSteps := 10000000) (implicitDefEqProofs := false) only [AV.good, BitVec.ofNat_eq_ofNat, Bool.false_eq_true, Cells.get, Cells.len, Cells.rep, Cells.set, Int.cast_ofNat_Int, Int.reduceLE, Int.reduceLT, Int.reduceToNat, List.getElem?_cons_succ, List.getElem?_cons_zero, List.getElem?_toArray, List.length_cons, List.length_nil, List.map_cons, List.map_nil, List.replicate_succ, List.replicate_zero, List.set_cons_zero, Nat.add_zero, Nat.reduceAdd, Nat.reduceEqDiff, Nat.reduceLT, Nat.reduceLeDiff, Nat.zero_add, Option.getD_some, Option.map_some, TDsc.agg, absC, and_false, and_self, decide_true, dstB, ev, getA, hx, reduceCtorEq, true_and, tt, ↓anyAt, ↓fillVC, ↓guardVC, ↓loadVC, ↓opVC, ↓pickC, ↓pureVC, ↓reduceIte, ↓rowW_eq]
              refine any_w _ _ _ _ _ _ _ _ _ _ _ _ ?_
              simp only [putE]
              refine any_step 2 [3] (by decide +kernel) ?_
              refine ⟨?_, ?_, trivial⟩
              · (unfold anyI)
                simp (maxSteps := 10000000) (implicitDefEqProofs := false) only [AV.good, BitVec.ofNat_eq_ofNat, Bool.false_eq_true, Cells.get, Cells.len, Cells.rep, Cells.set, Int.cast_ofNat_Int, Int.reduceLE, Int.reduceLT, Int.reduceToNat, List.getElem?_cons_succ, List.getElem?_cons_zero, List.getElem?_toArray, List.length_cons, List.length_nil, List.map_cons, List.map_nil, List.replicate_succ, List.replicate_zero, List.set_cons_zero, Nat.add_zero, Nat.reduceAdd, Nat.reduceEqDiff, Nat.reduceLT, Nat.reduceLeDiff, Nat.zero_add, Option.getD_some, Option.map_some, TDsc.agg, absC, and_false, and_self, decide_true, dstB, ev, getA, hx, reduceCtorEq, true_and, tt, ↓anyAt, ↓fillVC, ↓guardVC, ↓loadVC, ↓opVC, ↓pickC, ↓pureVC, ↓reduceIte, ↓rowW_eq]
                intro g_2
                refine any_w _ _ _ _ _ _ _ _ _ _ _ _ ?_
                simp only [putE]
                refine any_step 3 [6] (by decide +kernel) ?_
                refine ⟨?_, ?_, trivial⟩
                · (unfold anyI)
                  simp (maxSteps := 10000000) (implicitDefEqProofs := false) only [AV.good, BitVec.ofNat_eq_ofNat, Bool.false_eq_true, Cells.get, Cells.len, Cells.rep, Cells.set, Int.cast_ofNat_Int, Int.reduceLE, Int.reduceLT, Int.reduceToNat, List.getElem?_cons_succ, List.getElem?_cons_zero, List.getElem?_toArray, List.length_cons, List.length_nil, List.map_cons, List.map_nil, List.replicate_succ, List.replicate_zero, List.set_cons_zero, Nat.add_zero, Nat.reduceAdd, Nat.reduceEqDiff, Nat.reduceLT, Nat.reduceLeDiff, Nat.zero_add, Option.getD_some, Option.map_some, TDsc.agg, absC, and_false, and_self, decide_true, dstB, ev, getA, hx, reduceCtorEq, true_and, tt, ↓anyAt, ↓fillVC, ↓guardVC, ↓loadVC, ↓opVC, ↓pickC, ↓pureVC, ↓reduceIte, ↓rowW_eq]
                  refine any_w _ _ _ _ _ _ _ _ _ _ _ _ ?_
                  simp only [putE]
                  refine any_step 4 [6] (by decide +kernel) ?_
                  refine ⟨?_, ?_, trivial⟩
                  · (unfold anyI)
                    simp (maxSteps := 10000000) (implicitDefEqProofs := false) only [AV.good, BitVec.ofNat_eq_ofNat, Bool.false_eq_true, Cells.get, Cells.len, Cells.rep, Cells.set, Int.cast_ofNat_Int, Int.reduceLE, Int.reduceLT, Int.reduceToNat, List.getElem?_cons_succ, List.getElem?_cons_zero, List.getElem?_toArray, List.length_cons, List.length_nil, List.map_cons, List.map_nil, List.replicate_succ, List.replicate_zero, List.set_cons_zero, Nat.add_zero, Nat.reduceAdd, Nat.reduceEqDiff, Nat.reduceLT, Nat.reduceLeDiff, Nat.zero_add, Option.getD_some, Option.map_some, TDsc.agg, absC, and_false, and_self, decide_true, dstB, ev, getA, hx, reduceCtorEq, true_and, tt, ↓anyAt, ↓fillVC, ↓guardVC, ↓loadVC, ↓opVC, ↓pickC, ↓pureVC, ↓reduceIte, ↓rowW_eq]
                    refine any_w _ _ _ _ _ _ _ _ _ _ _ _ ?_
                    simp only [putE]
                    refine any_step 5 [6] (by decide +kernel) ?_
                    refine ⟨?_, ?_, trivial⟩
                    · (unfold anyI)
                      simp (maxSteps := 10000000) (implicitDefEqProofs := false) only [AV.good, BitVec.ofNat_eq_ofNat, Bool.false_eq_true, Cells.get, Cells.len, Cells.rep, Cells.set, Int.cast_ofNat_Int, Int.reduceLE, Int.reduceLT, Int.reduceToNat, List.getElem?_cons_succ, List.getElem?_cons_zero, List.getElem?_toArray, List.length_cons, List.length_nil, List.map_cons, List.map_nil, List.replicate_succ, List.replicate_zero, List.set_cons_zero, Nat.add_zero, Nat.reduceAdd, Nat.reduceEqDiff, Nat.reduceLT, Nat.reduceLeDiff, Nat.zero_add, Option.getD_some, Option.map_some, TDsc.agg, absC, and_false, and_self, decide_true, dstB, ev, getA, hx, reduceCtorEq, true_and, tt, ↓anyAt, ↓fillVC, ↓guardVC, ↓loadVC, ↓opVC, ↓pickC, ↓pureVC, ↓reduceIte, ↓rowW_eq]
                      intro g_5
                      refine any_w _ _ _ _ _ _ _ _ _ _ _ _ ?_
                      simp only [putE]
                      refine any_step 6 [] (by decide +kernel) ?_
                      refine ⟨?_, trivial⟩
                      · (unfold anyI)
                        simp (maxSteps := 10000000) (implicitDefEqProofs := false) only [AV.good, BitVec.ofNat_eq_ofNat, Bool.false_eq_true, Cells.get, Cells.len, Cells.rep, Cells.set, Int.cast_ofNat_Int, Int.reduceLE, Int.reduceLT, Int.reduceToNat, List.getElem?_cons_succ, List.getElem?_cons_zero, List.getElem?_toArray, List.length_cons, List.length_nil, List.map_cons, List.map_nil, List.replicate_succ, List.replicate_zero, List.set_cons_zero, Nat.add_zero, Nat.reduceAdd, Nat.reduceEqDiff, Nat.reduceLT, Nat.reduceLeDiff, Nat.zero_add, Option.getD_some, Option.map_some, TDsc.agg, absC, and_false, and_self, decide_true, dstB, ev, getA, hx, reduceCtorEq, true_and, tt, ↓anyAt, ↓fillVC, ↓guardVC, ↓loadVC, ↓opVC, ↓pickC, ↓pureVC, ↓reduceIte, ↓rowW_eq]
                        refine any_w _ _ _ _ _ _ _ _ _ _ _ _ ?_
                        simp only [putE]
                        refine any_step 7 [] (by decide +kernel) ?_
                        refine ⟨?_, trivial⟩
                        · (unfold anyI)
                          simp (maxSteps := 10000000) (implicitDefEqProofs := false) only [AV.good, BitVec.ofNat_eq_ofNat, Bool.false_eq_true, Cells.get, Cells.len, Cells.rep, Cells.set, Int.cast_ofNat_Int, Int.reduceLE, Int.reduceLT, Int.reduceToNat, List.getElem?_cons_succ, List.getElem?_cons_zero, List.getElem?_toArray, List.length_cons, List.length_nil, List.map_cons, List.map_nil, List.replicate_succ, List.replicate_zero, List.set_cons_zero, Nat.add_zero, Nat.reduceAdd, Nat.reduceEqDiff, Nat.reduceLT, Nat.reduceLeDiff, Nat.zero_add, Option.getD_some, Option.map_some, TDsc.agg, absC, and_false, and_self, decide_true, dstB, ev, getA, hx, reduceCtorEq, true_and, tt, ↓anyAt, ↓fillVC, ↓guardVC, ↓loadVC, ↓opVC, ↓pickC, ↓pureVC, ↓reduceIte, ↓rowW_eq]
                          refine any_w _ _ _ _ _ _ _ _ _ _ _ _ ?_
                          simp only [putE]
                          (refine ⟨by decide +kernel, ?_⟩)
                          refine LeJ.roS 7 100 rfl rfl ⟨by simp [Cells.len], by simp, by simp [Cells.len]⟩ (LeJ.roS 8 101 rfl rfl ⟨by simp [Cells.len], by simp, by simp [Cells.len]⟩ ?_)
                          refine LeJ.mk (some ⟨g_2, 0, none⟩, 1, some ⟨g_5, 0, none⟩, 1) trivial ?_
                          simp (maxSteps := 1000000) only [leS, leA, stU_env, stU_mem, pickA, getA, delA, setA, Cells.part, Cells.len, List.take_nil, List.drop_nil, List.length_nil, Nat.zero_add, ↓reduceIte, Nat.reduceEqDiff, Option.some.injEq, List.nil_append, List.cons_append, true_and, and_true, and_self, reduceCtorEq, AV.int.injEq, ME.own.injEq, ME.row.injEq, Cells.c32.injEq, Cells.c64.injEq, Cells.c8.injEq, AV.ptr.injEq, AV.ros.injEq, AV.grow.injEq, AV.u64.injEq, AV.u32.injEq]
                          first | done | rfl | trivial | omega | exact ⟨rfl, rfl⟩
                    · (unfold anyI)
                      simp (maxSteps := 10000000) (implicitDefEqProofs := false) only [AV.good, BitVec.ofNat_eq_ofNat, Bool.false_eq_true, Cells.get, Cells.len, Cells.rep, Cells.set, Int.cast_ofNat_Int, Int.reduceLE, Int.reduceLT, Int.reduceToNat, List.getElem?_cons_succ, List.getElem?_cons_zero, List.getElem?_toArray, List.length_cons, List.length_nil, List.map_cons, List.map_nil, List.replicate_succ, List.replicate_zero, List.set_cons_zero, Nat.add_zero, Nat.reduceAdd, Nat.reduceEqDiff, Nat.reduceLT, Nat.reduceLeDiff, Nat.zero_add, Option.getD_some, Option.map_some, TDsc.agg, absC, and_false, and_self, decide_true, dstB, ev, getA, hx, reduceCtorEq, true_and, tt, ↓anyAt, ↓fillVC, ↓guardVC, ↓loadVC, ↓opVC, ↓pickC, ↓pureVC, ↓reduceIte, ↓rowW_eq]
                      refine any_w _ _ _ _ _ _ _ _ _ _ _ _ ?_
                      simp only [putE]
                      refine any_step 5 [] (by decide +kernel) ?_
                      refine ⟨?_, trivial⟩
                      · (unfold anyI)
                        simp (maxSteps := 10000000) (implicitDefEqProofs := false) only [AV.good, BitVec.ofNat_eq_ofNat, Bool.false_eq_true, Cells.get, Cells.len, Cells.rep, Cells.set, Int.cast_ofNat_Int, Int.reduceLE, Int.reduceLT, Int.reduceToNat, List.getElem?_cons_succ, List.getElem?_cons_zero, List.getElem?_toArray, List.length_cons, List.length_nil, List.map_cons, List.map_nil, List.replicate_succ, List.replicate_zero, List.set_cons_zero, Nat.add_zero, Nat.reduceAdd, Nat.reduceEqDiff, Nat.reduceLT, Nat.reduceLeDiff, Nat.zero_add, Option.getD_some, Option.map_some, TDsc.agg, absC, and_false, and_self, decide_true, dstB, ev, getA, hx, reduceCtorEq, true_and, tt, ↓anyAt, ↓fillVC, ↓guardVC, ↓loadVC, ↓opVC, ↓pickC, ↓pureVC, ↓reduceIte, ↓rowW_eq]
                        intro g_5
                        refine any_w _ _ _ _ _ _ _ _ _ _ _ _ ?_
                        simp only [putE]
                        refine any_step 7 [] (by decide +kernel) ?_
                        refine ⟨?_, trivial⟩
                        · (unfold anyI)
                          simp (maxSteps := 10000000) (implicitDefEqProofs := false) only [AV.good, BitVec.ofNat_eq_ofNat, Bool.false_eq_true, Cells.get, Cells.len, Cells.rep, Cells.set, Int.cast_ofNat_Int, Int.reduceLE, Int.reduceLT, Int.reduceToNat, List.getElem?_cons_succ, List.getElem?_cons_zero, List.getElem?_toArray, List.length_cons, List.length_nil, List.map_cons, List.map_nil, List.replicate_succ, List.replicate_zero, List.set_cons_zero, Nat.add_zero, Nat.reduceAdd, Nat.reduceEqDiff, Nat.reduceLT, Nat.reduceLeDiff, Nat.zero_add, Option.getD_some, Option.map_some, TDsc.agg, absC, and_false, and_self, decide_true, dstB, ev, getA, hx, reduceCtorEq, true_and, tt, ↓anyAt, ↓fillVC, ↓guardVC, ↓loadVC, ↓opVC, ↓pickC, ↓pureVC, ↓reduceIte, ↓rowW_eq]
                          refine any_w _ _ _ _ _ _ _ _ _ _ _ _ ?_
                          simp only [putE]
                          (refine ⟨by decide +kernel, ?_⟩)
                          refine LeJ.roS 7 100 rfl rfl ⟨by simp [Cells.len], by simp, by simp [Cells.len]⟩ (LeJ.roS 8 101 rfl rfl ⟨by simp [Cells.len], by simp, by simp [Cells.len]⟩ ?_)
                          refine LeJ.mk (some ⟨g_2, 0, none⟩, 1, some ⟨g_5, 0, none⟩, 1) trivial ?_
                          simp (maxSteps := 1000000) only [leS, leA, stU_env, stU_mem, pickA, getA, delA, setA, Cells.part, Cells.len, List.take_nil, List.drop_nil, List.length_nil, Nat.zero_add, ↓reduceIte, Nat.reduceEqDiff, Option.some.injEq, List.nil_append, List.cons_append, true_and, and_true, and_self, reduceCtorEq, AV.int.injEq, ME.own.injEq, ME.row.injEq, Cells.c32.injEq, Cells.c64.injEq, Cells.c8.injEq, AV.ptr.injEq, AV.ros.injEq, AV.grow.injEq, AV.u64.injEq, AV.u32.injEq]
                          first | done | rfl | trivial | omega | exact ⟨rfl, rfl⟩
                  · (unfold anyI)
                    simp (maxSteps := 10000000) (implicitDefEqProofs := false) only [AV.good, BitVec.ofNat_eq_ofNat, Bool.false_eq_true, Cells.get, Cells.len, Cells.rep, Cells.set, Int.cast_ofNat_Int, Int.reduceLE, Int.reduceLT, Int.reduceToNat, List.getElem?_cons_succ, List.getElem?_cons_zero, List.getElem?_toArray, List.length_cons, List.length_nil, List.map_cons, List.map_nil, List.replicate_succ, List.replicate_zero, List.set_cons_zero, Nat.add_zero, Nat.reduceAdd, Nat.reduceEqDiff, Nat.reduceLT, Nat.reduceLeDiff, Nat.zero_add, Option.getD_some, Option.map_some, TDsc.agg, absC, and_false, and_self, decide_true, dstB, ev, getA, hx, reduceCtorEq, true_and, tt, ↓anyAt, ↓fillVC, ↓guardVC, ↓loadVC, ↓opVC, ↓pickC, ↓pureVC, ↓reduceIte, ↓rowW_eq]
                    refine any_w _ _ _ _ _ _ _ _ _ _ _ _ ?_
                    simp only [putE]
                    refine any_step 4 [] (by decide +kernel) ?_
                    refine ⟨?_, trivial⟩
                    · (unfold anyI)
                      simp (maxSteps := 10000000) (implicitDefEqProofs := false) only [AV.good, BitVec.ofNat_eq_ofNat, Bool.false_eq_true, Cells.get, Cells.len, Cells.rep, Cells.set, Int.cast_ofNat_Int, Int.reduceLE, Int.reduceLT, Int.reduceToNat, List.getElem?_cons_succ, List.getElem?_cons_zero, List.getElem?_toArray, List.length_cons, List.length_nil, List.map_cons, List.map_nil, List.replicate_succ, List.replicate_zero, List.set_cons_zero, Nat.add_zero, Nat.reduceAdd, Nat.reduceEqDiff, Nat.reduceLT, Nat.reduceLeDiff, Nat.zero_add, Option.getD_some, Option.map_some, TDsc.agg, absC, and_false, and_self, decide_true, dstB, ev, getA, hx, reduceCtorEq, true_and, tt, ↓anyAt, ↓fillVC, ↓guardVC, ↓loadVC, ↓opVC, ↓pickC, ↓pureVC, ↓reduceIte, ↓rowW_eq]
                      refine any_w _ _ _ _ _ _ _ _ _ _ _ _ ?_
                      simp only [putE]
                      refine any_step 5 [] (by decide +kernel) ?_
                      refine ⟨?_, trivial⟩
                      · (unfold anyI)
                        simp (maxSteps := 10000000) (implicitDefEqProofs := false) only [AV.good, BitVec.ofNat_eq_ofNat, Bool.false_eq_true, Cells.get, Cells.len, Cells.rep, Cells.set, Int.cast_ofNat_Int, Int.reduceLE, Int.reduceLT, Int.reduceToNat, List.getElem?_cons_succ, List.getElem?_cons_zero, List.getElem?_toArray, List.length_cons, List.length_nil, List.map_cons, List.map_nil, List.replicate_succ, List.replicate_zero, List.set_cons_zero, Nat.add_zero, Nat.reduceAdd, Nat.reduceEqDiff, Nat.reduceLT, Nat.reduceLeDiff, Nat.zero_add, Option.getD_some, Option.map_some, TDsc.agg, absC, and_false, and_self, decide_true, dstB, ev, getA, hx, reduceCtorEq, true_and, tt, ↓anyAt, ↓fillVC, ↓guardVC, ↓loadVC, ↓opVC, ↓pickC, ↓pureVC, ↓reduceIte, ↓rowW_eq]
                        intro g_5
                        refine any_w _ _ _ _ _ _ _ _ _ _ _ _ ?_
                        simp only [putE]
                        refine any_step 7 [] (by decide +kernel) ?_
                        refine ⟨?_, trivial⟩
                        · (unfold anyI)
                          simp (maxSteps := 10000000) (implicitDefEqProofs := false) only [AV.good, BitVec.ofNat_eq_ofNat, Bool.false_eq_true, Cells.get, Cells.len, Cells.rep, Cells.set, Int.cast_ofNat_Int, Int.reduceLE, Int.reduceLT, Int.reduceToNat, List.getElem?_cons_succ, List.getElem?_cons_zero, List.getElem?_toArray, List.length_cons, List.length_nil, List.map_cons, List.map_nil, List.replicate_succ, List.replicate_zero, List.set_cons_zero, Nat.add_zero, Nat.reduceAdd, Nat.reduceEqDiff, Nat.reduceLT, Nat.reduceLeDiff, Nat.zero_add, Option.getD_some, Option.map_some, TDsc.agg, absC, and_false, and_self, decide_true, dstB, ev, getA, hx, reduceCtorEq, true_and, tt, ↓anyAt, ↓fillVC, ↓guardVC, ↓loadVC, ↓opVC, ↓pickC, ↓pureVC, ↓reduceIte, ↓rowW_eq]
                          refine any_w _ _ _ _ _ _ _ _ _ _ _ _ ?_
                          simp only [putE]
                          (refine ⟨by decide +kernel, ?_⟩)
                          refine LeJ.roS 7 100 rfl rfl ⟨by simp [Cells.len], by simp, by simp [Cells.len]⟩ (LeJ.roS 8 101 rfl rfl ⟨by simp [Cells.len], by simp, by simp [Cells.len]⟩ ?_)
                          refine LeJ.mk (some ⟨g_2, 0, none⟩, 1, some ⟨g_5, 0, none⟩, 1) trivial ?_
                          simp (maxSteps := 1000000) only [leS, leA, stU_env, stU_mem, pickA, getA, delA, setA, Cells.part, Cells.len, List.take_nil, List.drop_nil, List.length_nil, Nat.zero_add, ↓reduceIte, Nat.reduceEqDiff, Option.some.injEq, List.nil_append, List.cons_append, true_and, and_true, and_self, reduceCtorEq, AV.int.injEq, ME.own.injEq, ME.row.injEq, Cells.c32.injEq, Cells.c64.injEq, Cells.c8.injEq, AV.ptr.injEq, AV.ros.injEq, AV.grow.injEq, AV.u64.injEq, AV.u32.injEq]
                          first | done | rfl | trivial | omega | exact ⟨rfl, rfl⟩
                · (unfold anyI)
                  simp (maxSteps := 10000000) (implicitDefEqProofs := false) only [AV.good, BitVec.ofNat_eq_ofNat, Bool.false_eq_true, Cells.get, Cells.len, Cells.rep, Cells.set, Int.cast_ofNat_Int, Int.reduceLE, Int.reduceLT, Int.reduceToNat, List.getElem?_cons_succ, List.getElem?_cons_zero, List.getElem?_toArray, List.length_cons, List.length_nil, List.map_cons, List.map_nil, List.replicate_succ, List.replicate_zero, List.set_cons_zero, Nat.add_zero, Nat.reduceAdd, Nat.reduceEqDiff, Nat.reduceLT, Nat.reduceLeDiff, Nat.zero_add, Option.getD_some, Option.map_some, TDsc.agg, absC, and_false, and_self, decide_true, dstB, ev, getA, hx, reduceCtorEq, true_and, tt, ↓anyAt, ↓fillVC, ↓guardVC, ↓loadVC, ↓opVC, ↓pickC, ↓pureVC, ↓reduceIte, ↓rowW_eq]
                  refine any_w _ _ _ _ _ _ _ _ _ _ _ _ ?_
                  simp only [putE]
                  refine any_step 3 [] (by decide +kernel) ?_
                  refine ⟨?_, trivial⟩
                  · (unfold anyI)
                    simp (maxSteps := 10000000) (implicitDefEqProofs := false) only [AV.good, BitVec.ofNat_eq_ofNat, Bool.false_eq_true, Cells.get, Cells.len, Cells.rep, Cells.set, Int.cast_ofNat_Int, Int.reduceLE, Int.reduceLT, Int.reduceToNat, List.getElem?_cons_succ, List.getElem?_cons_zero, List.getElem?_toArray, List.length_cons, List.length_nil, List.map_cons, List.map_nil, List.replicate_succ, List.replicate_zero, List.set_cons_zero, Nat.add_zero, Nat.reduceAdd, Nat.reduceEqDiff, Nat.reduceLT, Nat.reduceLeDiff, Nat.zero_add, Option.getD_some, Option.map_some, TDsc.agg, absC, and_false, and_self, decide_true, dstB, ev, getA, hx, reduceCtorEq, true_and, tt, ↓anyAt, ↓fillVC, ↓guardVC, ↓loadVC, ↓opVC, ↓pickC, ↓pureVC, ↓reduceIte, ↓rowW_eq]
                    refine any_w _ _ _ _ _ _ _ _ _ _ _ _ ?_
                    simp only [putE]
                    refine any_step 4 [] (by decide +kernel) ?_
                    refine ⟨?_, trivial⟩
                    · (unfold anyI)
                      simp (maxSteps := 10000000) (implicitDefEqProofs := false) only [AV.good, BitVec.ofNat_eq_ofNat, Bool.false_eq_true, Cells.get, Cells.len, Cells.rep, Cells.set, Int.cast_ofNat_Int, Int.reduceLE, Int.reduceLT, Int.reduceToNat, List.getElem?_cons_succ, List.getElem?_cons_zero, List.getElem?_toArray, List.length_cons, List.length_nil, List.map_cons, List.map_nil, List.replicate_succ, List.replicate_zero, List.set_cons_zero, Nat.add_zero, Nat.reduceAdd, Nat.reduceEqDiff, Nat.reduceLT, Nat.reduceLeDiff, Nat.zero_add, Option.getD_some, Option.map_some, TDsc.agg, absC, and_false, and_self, decide_true, dstB, ev, getA, hx, reduceCtorEq, true_and, tt, ↓anyAt, ↓fillVC, ↓guardVC, ↓loadVC, ↓opVC, ↓pickC, ↓pureVC, ↓reduceIte, ↓rowW_eq]
                      refine any_w _ _ _ _ _ _ _ _ _ _ _ _ ?_
                      simp only [putE]
                      refine any_step 5 [] (by decide +kernel) ?_
                      refine ⟨?_, trivial⟩
                      · (unfold anyI)
                        simp (maxSteps := 10000000) (implicitDefEqProofs := false) only [AV.good, BitVec.ofNat_eq_ofNat, Bool.false_eq_true, Cells.get, Cells.len, Cells.rep, Cells.set, Int.cast_ofNat_Int, Int.reduceLE, Int.reduceLT, Int.reduceToNat, List.getElem?_cons_succ, List.getElem?_cons_zero, List.getElem?_toArray, List.length_cons, List.length_nil, List.map_cons, List.map_nil, List.replicate_succ, List.replicate_zero, List.set_cons_zero, Nat.add_zero, Nat.reduceAdd, Nat.reduceEqDiff, Nat.reduceLT, Nat.reduceLeDiff, Nat.zero_add, Option.getD_some, Option.map_some, TDsc.agg, absC, and_false, and_self, decide_true, dstB, ev, getA, hx, reduceCtorEq, true_and, tt, ↓anyAt, ↓fillVC, ↓guardVC, ↓loadVC, ↓opVC, ↓pickC, ↓pureVC, ↓reduceIte, ↓rowW_eq]
                        intro g_5
                        refine any_w _ _ _ _ _ _ _ _ _ _ _ _ ?_
                        simp only [putE]
                        refine any_step 7 [] (by decide +kernel) ?_
                        refine ⟨?_, trivial⟩
                        · (unfold anyI)
                          simp (maxSteps := 10000000) (implicitDefEqProofs := false) only [AV.good, BitVec.ofNat_eq_ofNat, Bool.false_eq_true, Cells.get, Cells.len, Cells.rep, Cells.set, Int.cast_ofNat_Int, Int.reduceLE, Int.reduceLT, Int.reduceToNat, List.getElem?_cons_succ, List.getElem?_cons_zero, List.getElem?_toArray, List.length_cons, List.length_nil, List.map_cons, List.map_nil, List.replicate_succ, List.replicate_zero, List.set_cons_zero, Nat.add_zero, Nat.reduceAdd, Nat.reduceEqDiff, Nat.reduceLT, Nat.reduceLeDiff, Nat.zero_add, Option.getD_some, Option.map_some, TDsc.agg, absC, and_false, and_self, decide_true, dstB, ev, getA, hx, reduceCtorEq, true_and, tt, ↓anyAt, ↓fillVC, ↓guardVC, ↓loadVC, ↓opVC, ↓pickC, ↓pureVC, ↓reduceIte, ↓rowW_eq]
                          refine any_w _ _ _ _ _ _ _ _ _ _ _ _ ?_
                          simp only [putE]
                          (refine ⟨by decide +kernel, ?_⟩)
                          refine LeJ.roS 7 100 rfl rfl ⟨by simp [Cells.len], by simp, by simp [Cells.len]⟩ (LeJ.roS 8 101 rfl rfl ⟨by simp [Cells.len], by simp, by simp [Cells.len]⟩ ?_)
                          refine LeJ.mk (some ⟨g_2, 0, none⟩, 1, some ⟨g_5, 0, none⟩, 1) trivial ?_
                          simp (maxSteps := 1000000) only [leS, leA, stU_env, stU_mem, pickA, getA, delA, setA, Cells.part, Cells.len, List.take_nil, List.drop_nil, List.length_nil, Nat.zero_add, ↓reduceIte, Nat.reduceEqDiff, Option.some.injEq, List.nil_append, List.cons_append, true_and, and_true, and_self, reduceCtorEq, AV.int.injEq, ME.own.injEq, ME.row.injEq, Cells.c32.injEq, Cells.c64.injEq, Cells.c8.injEq, AV.ptr.injEq, AV.ros.injEq, AV.grow.injEq, AV.u64.injEq, AV.u32.injEq]
                          first | done | rfl | trivial | omega | exact ⟨rfl, rfl⟩
              · (unfold anyI)
                simp (maxSteps := 10000000) (implicitDefEqProofs := false) only [AV.good, BitVec.ofNat_eq_ofNat, Bool.false_eq_true, Cells.get, Cells.len, Cells.rep, Cells.set, Int.cast_ofNat_Int, Int.reduceLE, Int.reduceLT, Int.reduceToNat, List.getElem?_cons_succ, List.getElem?_cons_zero, List.getElem?_toArray, List.length_cons, List.length_nil, List.map_cons, List.map_nil, List.replicate_succ, List.replicate_zero, List.set_cons_zero, Nat.add_zero, Nat.reduceAdd, Nat.reduceEqDiff, Nat.reduceLT, Nat.reduceLeDiff, Nat.zero_add, Option.getD_some, Option.map_some, TDsc.agg, absC, and_false, and_self, decide_true, dstB, ev, getA, hx, reduceCtorEq, true_and, tt, ↓anyAt, ↓fillVC, ↓guardVC, ↓loadVC, ↓opVC, ↓pickC, ↓pureVC, ↓reduceIte, ↓rowW_eq]
                refine any_w _ _ _ _ _ _ _ _ _ _ _ _ ?_
                simp only [putE]
                refine any_step 2 [4] (by decide +kernel) ?_
                refine ⟨?_, ?_, trivial⟩
                · (unfold anyI)
                  simp (maxSteps := 10000000) (implicitDefEqProofs := false) only [AV.good, BitVec.ofNat_eq_ofNat, Bool.false_eq_true, Cells.get, Cells.len, Cells.rep, Cells.set, Int.cast_ofNat_Int, Int.reduceLE, Int.reduceLT, Int.reduceToNat, List.getElem?_cons_succ, List.getElem?_cons_zero, List.getElem?_toArray, List.length_cons, List.length_nil, List.map_cons, List.map_nil, List.replicate_succ, List.replicate_zero, List.set_cons_zero, Nat.add_zero, Nat.reduceAdd, Nat.reduceEqDiff, Nat.reduceLT, Nat.reduceLeDiff, Nat.zero_add, Option.getD_some, Option.map_some, TDsc.agg, absC, and_false, and_self, decide_true, dstB, ev, getA, hx, reduceCtorEq, true_and, tt, ↓anyAt, ↓fillVC, ↓guardVC, ↓loadVC, ↓opVC, ↓pickC, ↓pureVC, ↓reduceIte, ↓rowW_eq]
                  intro g_2
                  refine any_w _ _ _ _ _ _ _ _ _ _ _ _ ?_
                  simp only [putE]
                  refine any_step 4 [6] (by decide +kernel) ?_
                  refine ⟨?_, ?_, trivial⟩
                  · (unfold anyI)
                    simp (maxSteps := 10000000) (implicitDefEqProofs := false) only [AV.good, BitVec.ofNat_eq_ofNat, Bool.false_eq_true, Cells.get, Cells.len, Cells.rep, Cells.set, Int.cast_ofNat_Int, Int.reduceLE, Int.reduceLT, Int.reduceToNat, List.getElem?_cons_succ, List.getElem?_cons_zero, List.getElem?_toArray, List.length_cons, List.length_nil, List.map_cons, List.map_nil, List.replicate_succ, List.replicate_zero, List.set_cons_zero, Nat.add_zero, Nat.reduceAdd, Nat.reduceEqDiff, Nat.reduceLT, Nat.reduceLeDiff, Nat.zero_add, Option.getD_some, Option.map_some, TDsc.agg, absC, and_false, and_self, decide_true, dstB, ev, getA, hx, reduceCtorEq, true_and, tt, ↓anyAt, ↓fillVC, ↓guardVC, ↓loadVC, ↓opVC, ↓pickC, ↓pureVC, ↓reduceIte, ↓rowW_eq]
                    refine any_w _ _ _ _ _ _ _ _ _ _ _ _ ?_
                    simp only [putE]
                    refine any_step 5 [6] (by decide +kernel) ?_
                    refine ⟨?_, ?_, trivial⟩
                    · (unfold anyI)
                      simp (maxSteps := 10000000) (implicitDefEqProofs := false) only [AV.good, BitVec.ofNat_eq_ofNat, Bool.false_eq_true, Cells.get, Cells.len, Cells.rep, Cells.set, Int.cast_ofNat_Int, Int.reduceLE, Int.reduceLT, Int.reduceToNat, List.getElem?_cons_succ, List.getElem?_cons_zero, List.getElem?_toArray, List.length_cons, List.length_nil, List.map_cons, List.map_nil, List.replicate_succ, List.replicate_zero, List.set_cons_zero, Nat.add_zero, Nat.reduceAdd, Nat.reduceEqDiff, Nat.reduceLT, Nat.reduceLeDiff, Nat.zero_add, Option.getD_some, Option.map_some, TDsc.agg, absC, and_false, and_self, decide_true, dstB, ev, getA, hx, reduceCtorEq, true_and, tt, ↓anyAt, ↓fillVC, ↓guardVC, ↓loadVC, ↓opVC, ↓pickC, ↓pureVC, ↓reduceIte, ↓rowW_eq]
                      intro g_5
                      refine any_w _ _ _ _ _ _ _ _ _ _ _ _ ?_
                      simp only [putE]
                      refine any_step 6 [] (by decide +kernel) ?_
                      refine ⟨?_, trivial⟩
                      · (unfold anyI)
                        simp (maxSteps := 10000000) (implicitDefEqProofs := false) only [AV.good, BitVec.ofNat_eq_ofNat, Bool.false_eq_true, Cells.get, Cells.len, Cells.rep, Cells.set, Int.cast_ofNat_Int, Int.reduceLE, Int.reduceLT, Int.reduceToNat, List.getElem?_cons_succ, List.getElem?_cons_zero, List.getElem?_toArray, List.length_cons, List.length_nil, List.map_cons, List.map_nil, List.replicate_succ, List.replicate_zero, List.set_cons_zero, Nat.add_zero, Nat.reduceAdd, Nat.reduceEqDiff, Nat.reduceLT, Nat.reduceLeDiff, Nat.zero_add, Option.getD_some, Option.map_some, TDsc.agg, absC, and_false, and_self, decide_true, dstB, ev, getA, hx, reduceCtorEq, true_and, tt, ↓anyAt, ↓fillVC, ↓guardVC, ↓loadVC, ↓opVC, ↓pickC, ↓pureVC, ↓reduceIte, ↓rowW_eq]
                        refine any_w _ _ _ _ _ _ _ _ _ _ _ _ ?_
                        simp only [putE]
                        refine any_step 7 [] (by decide +kernel) ?_
                        refine ⟨?_, trivial⟩
                        · (unfold anyI)
                          simp (maxSteps := 10000000) (implicitDefEqProofs := false) only [AV.good, BitVec.ofNat_eq_ofNat, Bool.false_eq_true, Cells.get, Cells.len, Cells.rep, Cells.set, Int.cast_ofNat_Int, Int.reduceLE, Int.reduceLT, Int.reduceToNat, List.getElem?_cons_succ, List.getElem?_cons_zero, List.getElem?_toArray, List.length_cons, List.length_nil, List.map_cons, List.map_nil, List.replicate_succ, List.replicate_zero, List.set_cons_zero, Nat.add_zero, Nat.reduceAdd, Nat.reduceEqDiff, Nat.reduceLT, Nat.reduceLeDiff, Nat.zero_add, Option.getD_some, Option.map_some, TDsc.agg, absC, and_false, and_self, decide_true, dstB, ev, getA, hx, reduceCtorEq, true_and, tt, ↓anyAt, ↓fillVC, ↓guardVC, ↓loadVC, ↓opVC, ↓pickC, ↓pureVC, ↓reduceIte, ↓rowW_eq]
                          refine any_w _ _ _ _ _ _ _ _ _ _ _ _ ?_
                          simp only [putE]
                          (refine ⟨by decide +kernel, ?_⟩)
                          refine LeJ.roS 7 100 rfl rfl ⟨by simp [Cells.len], by simp, by simp [Cells.len]⟩ (LeJ.roS 8 101 rfl rfl ⟨by simp [Cells.len], by simp, by simp [Cells.len]⟩ ?_)
                          refine LeJ.mk (some ⟨g_2, 0, none⟩, 1, some ⟨g_5, 0, none⟩, 1) trivial ?_
                          simp (maxSteps := 1000000) only [leS, leA, stU_env, stU_mem, pickA, getA, delA, setA, Cells.part, Cells.len, List.take_nil, List.drop_nil, List.length_nil, Nat.zero_add, ↓reduceIte, Nat.reduceEqDiff, Option.some.injEq, List.nil_append, List.cons_append, true_and, and_true, and_self, reduceCtorEq, AV.int.injEq, ME.own.injEq, ME.row.injEq, Cells.c32.injEq, Cells.c64.injEq, Cells.c8.injEq, AV.ptr.injEq, AV.ros.injEq, AV.grow.injEq, AV.u64.injEq, AV.u32.injEq]
                          first | done | rfl | trivial | omega | exact ⟨rfl, rfl⟩
                    · (unfold anyI)
                      simp (maxSteps := 10000000) (implicitDefEqProofs := false) only [AV.good, BitVec.ofNat_eq_ofNat, Bool.false_eq_true, Cells.get, Cells.len, Cells.rep, Cells.set, Int.cast_ofNat_Int, Int.reduceLE, Int.reduceLT, Int.reduceToNat, List.getElem?_cons_succ, List.getElem?_cons_zero, List.getElem?_toArray, List.length_cons, List.length_nil, List.map_cons, List.map_nil, List.replicate_succ, List.replicate_zero, List.set_cons_zero, Nat.add_zero, Nat.reduceAdd, Nat.reduceEqDiff, Nat.reduceLT, Nat.reduceLeDiff, Nat.zero_add, Option.getD_some, Option.map_some, TDsc.agg, absC, and_false, and_self, decide_true, dstB, ev, getA, hx, reduceCtorEq, true_and, tt, ↓anyAt, ↓fillVC, ↓guardVC, ↓loadVC, ↓opVC, ↓pickC, ↓pureVC, ↓reduceIte, ↓rowW_eq]
                      refine any_w _ _ _ _ _ _ _ _ _ _ _ _ ?_
                      simp only [putE]
                      refine any_step 5 [] (by decide +kernel) ?_
                      refine ⟨?_, trivial⟩
                      · (unfold anyI)
                        simp (maxSteps := 10000000) (implicitDefEqProofs := false) only [AV.good, BitVec.ofNat_eq_ofNat, Bool.false_eq_true, Cells.get, Cells.len, Cells.rep, Cells.set, Int.cast_ofNat_Int, Int.reduceLE, Int.reduceLT, Int.reduceToNat, List.getElem?_cons_succ, List.getElem?_cons_zero, List.getElem?_toArray, List.length_cons, List.length_nil, List.map_cons, List.map_nil, List.replicate_succ, List.replicate_zero, List.set_cons_zero, Nat.add_zero, Nat.reduceAdd, Nat.reduceEqDiff, Nat.reduceLT, Nat.reduceLeDiff, Nat.zero_add, Option.getD_some, Option.map_some, TDsc.agg, absC, and_false, and_self, decide_true, dstB, ev, getA, hx, reduceCtorEq, true_and, tt, ↓anyAt, ↓fillVC, ↓guardVC, ↓loadVC, ↓opVC, ↓pickC, ↓pureVC, ↓reduceIte, ↓rowW_eq]
                        intro g_5
                        refine any_w _ _ _ _ _ _ _ _ _ _ _ _ ?_
                        simp only [putE]
                        refine any_step 7 [] (by decide +kernel) ?_
                        refine ⟨?_, trivial⟩
                        · (unfold anyI)
                          simp (maxSteps := 10000000) (implicitDefEqProofs := false) only [AV.good, BitVec.ofNat_eq_ofNat, Bool.false_eq_true, Cells.get, Cells.len, Cells.rep, Cells.set, Int.cast_ofNat_Int, Int.reduceLE, Int.reduceLT, Int.reduceToNat, List.getElem?_cons_succ, List.getElem?_cons_zero, List.getElem?_toArray, List.length_cons, List.length_nil, List.map_cons, List.map_nil, List.replicate_succ, List.replicate_zero, List.set_cons_zero, Nat.add_zero, Nat.reduceAdd, Nat.reduceEqDiff, Nat.reduceLT, Nat.reduceLeDiff, Nat.zero_add, Option.getD_some, Option.map_some, TDsc.agg, absC, and_false, and_self, decide_true, dstB, ev, getA, hx, reduceCtorEq, true_and, tt, ↓anyAt, ↓fillVC, ↓guardVC, ↓loadVC, ↓opVC, ↓pickC, ↓pureVC, ↓reduceIte, ↓rowW_eq]
                          refine any_w _ _ _ _ _ _ _ _ _ _ _ _ ?_
                          simp only [putE]
                          (refine ⟨by decide +kernel, ?_⟩)
                          refine LeJ.roS 7 100 rfl rfl ⟨by simp [Cells.len], by simp, by simp [Cells.len]⟩ (LeJ.roS 8 101 rfl rfl ⟨by simp [Cells.len], by simp, by simp [Cells.len]⟩ ?_)
                          refine LeJ.mk (some ⟨g_2, 0, none⟩, 1, some ⟨g_5, 0, none⟩, 1) trivial ?_
                          simp (maxSteps := 1000000) only [leS, leA, stU_env, stU_mem, pickA, getA, delA, setA, Cells.part, Cells.len, List.take_nil, List.drop_nil, List.length_nil, Nat.zero_add, ↓reduceIte, Nat.reduceEqDiff, Option.some.injEq, List.nil_append, List.cons_append, true_and, and_true, and_self, reduceCtorEq, AV.int.injEq, ME.own.injEq, ME.row.injEq, Cells.c32.injEq, Cells.c64.injEq, Cells.c8.injEq, AV.ptr.injEq, AV.ros.injEq, AV.grow.injEq, AV.u64.injEq, AV.u32.injEq]
                          first | done | rfl | trivial | omega | exact ⟨rfl, rfl⟩
                  · (unfold anyI)
                    simp (maxSteps := 10000000) (implicitDefEqProofs := false) only [AV.good, BitVec.ofNat_eq_ofNat, Bool.false_eq_true, Cells.get, Cells.len, Cells.rep, Cells.set, Int.cast_ofNat_Int, Int.reduceLE, Int.reduceLT, Int.reduceToNat, List.getElem?_cons_succ, List.getElem?_cons_zero, List.getElem?_toArray, List.length_cons, List.length_nil, List.map_cons, List.map_nil, List.replicate_succ, List.replicate_zero, List.set_cons_zero, Nat.add_zero, Nat.reduceAdd, Nat.reduceEqDiff, Nat.reduceLT, Nat.reduceLeDiff, Nat.zero_add, Option.getD_some, Option.map_some, TDsc.agg, absC, and_false, and_self, decide_true, dstB, ev, getA, hx, reduceCtorEq, true_and, tt, ↓anyAt, ↓fillVC, ↓guardVC, ↓loadVC, ↓opVC, ↓pickC, ↓pureVC, ↓reduceIte, ↓rowW_eq]
                    refine any_w _ _ _ _ _ _ _ _ _ _ _ _ ?_
                    simp only [putE]
                    refine any_step 4 [] (by decide +kernel) ?_
                    refine ⟨?_, trivial⟩
                    · (unfold anyI)
                      simp (maxSteps := 10000000) (implicitDefEqProofs := false) only [AV.good, BitVec.ofNat_eq_ofNat, Bool.false_eq_true, Cells.get, Cells.len, Cells.rep, Cells.set, Int.cast_ofNat_Int, Int.reduceLE, Int.reduceLT, Int.reduceToNat, List.getElem?_cons_succ, List.getElem?_cons_zero, List.getElem?_toArray, List.length_cons, List.length_nil, List.map_cons, List.map_nil, List.replicate_succ, List.replicate_zero, List.set_cons_zero, Nat.add_zero, Nat.reduceAdd, Nat.reduceEqDiff, Nat.reduceLT, Nat.reduceLeDiff, Nat.zero_add, Option.getD_some, Option.map_some, TDsc.agg, absC, and_false, and_self, decide_true, dstB, ev, getA, hx, reduceCtorEq, true_and, tt, ↓anyAt, ↓fillVC, ↓guardVC, ↓loadVC, ↓opVC, ↓pickC, ↓pureVC, ↓reduceIte, ↓rowW_eq]
                      refine any_w _ _ _ _ _ _ _ _ _ _ _ _ ?_
                      simp only [putE]
                      refine any_step 5 [] (by decide +kernel) ?_
                      refine ⟨?_, trivial⟩
                      · (unfold anyI)
                        simp (maxSteps := 10000000) (implicitDefEqProofs := false) only [AV.good, BitVec.ofNat_eq_ofNat, Bool.false_eq_true, Cells.get, Cells.len, Cells.rep, Cells.set, Int.cast_ofNat_Int, Int.reduceLE, Int.reduceLT, Int.reduceToNat, List.getElem?_cons_succ, List.getElem?_cons_zero, List.getElem?_toArray, List.length_cons, List.length_nil, List.map_cons, List.map_nil, List.replicate_succ, List.replicate_zero, List.set_cons_zero, Nat.add_zero, Nat.reduceAdd, Nat.reduceEqDiff, Nat.reduceLT, Nat.reduceLeDiff, Nat.zero_add, Option.getD_some, Option.map_some, TDsc.agg, absC, and_false, and_self, decide_true, dstB, ev, getA, hx, reduceCtorEq, true_and, tt, ↓anyAt, ↓fillVC, ↓guardVC, ↓loadVC, ↓opVC, ↓pickC, ↓pureVC, ↓reduceIte, ↓rowW_eq]
                        intro g_5
                        refine any_w _ _ _ _ _ _ _ _ _ _ _ _ ?_
                        simp only [putE]
                        refine any_step 7 [] (by decide +kernel) ?_
                        refine ⟨?_, trivial⟩
                        · (unfold anyI)
                          simp (maxSteps := 10000000) (implicitDefEqProofs := false) only [AV.good, BitVec.ofNat_eq_ofNat, Bool.false_eq_true, Cells.get, Cells.len, Cells.rep, Cells.set, Int.cast_ofNat_Int, Int.reduceLE, Int.reduceLT, Int.reduceToNat, List.getElem?_cons_succ, List.getElem?_cons_zero, List.getElem?_toArray, List.length_cons, List.length_nil, List.map_cons, List.map_nil, List.replicate_succ, List.replicate_zero, List.set_cons_zero, Nat.add_zero, Nat.reduceAdd, Nat.reduceEqDiff, Nat.reduceLT, Nat.reduceLeDiff, Nat.zero_add, Option.getD_some, Option.map_some, TDsc.agg, absC, and_false, and_self, decide_true, dstB, ev, getA, hx, reduceCtorEq, true_and, tt, ↓anyAt, ↓fillVC, ↓guardVC, ↓loadVC, ↓opVC, ↓pickC, ↓pureVC, ↓reduceIte, ↓rowW_eq]
                          refine any_w _ _ _ _ _ _ _ _ _ _ _ _ ?_
                          simp only [putE]
                          (refine ⟨by decide +kernel, ?_⟩)
                          refine LeJ.roS 7 100 rfl rfl ⟨by simp [Cells.len], by simp, by simp [Cells.len]⟩ (LeJ.roS 8 101 rfl rfl ⟨by simp [Cells.len], by simp, by simp [Cells.len]⟩ ?_)
                          refine LeJ.mk (some ⟨g_2, 0, none⟩, 1, some ⟨g_5, 0, none⟩, 1) trivial ?_
                          simp (maxSteps := 1000000) only [leS, leA, stU_env, stU_mem, pickA, getA, delA, setA, Cells.part, Cells.len, List.take_nil, List.drop_nil, List.length_nil, Nat.zero_add, ↓reduceIte, Nat.reduceEqDiff, Option.some.injEq, List.nil_append, List.cons_append, true_and, and_true, and_self, reduceCtorEq, AV.int.injEq, ME.own.injEq, ME.row.injEq, Cells.c32.injEq, Cells.c64.injEq, Cells.c8.injEq, AV.ptr.injEq, AV.ros.injEq, AV.grow.injEq, AV.u64.injEq, AV.u32.injEq]
                          first | done | rfl | trivial | omega | exact ⟨rfl, rfl⟩
                · (unfold anyI)
                  simp (maxSteps := 10000000) (implicitDefEqProofs := false) only [AV.good, BitVec.ofNat_eq_ofNat, Bool.false_eq_true, Cells.get, Cells.len, Cells.rep, Cells.set, Int.cast_ofNat_Int, Int.reduceLE, Int.reduceLT, Int.reduceToNat, List.getElem?_cons_succ, List.getElem?_cons_zero, List.getElem?_toArray, List.length_cons, List.length_nil, List.map_cons, List.map_nil, List.replicate_succ, List.replicate_zero, List.set_cons_zero, Nat.add_zero, Nat.reduceAdd, Nat.reduceEqDiff, Nat.reduceLT, Nat.reduceLeDiff, Nat.zero_add, Option.getD_some, Option.map_some, TDsc.agg, absC, and_false, and_self, decide_true, dstB, ev, getA, hx, reduceCtorEq, true_and, tt, ↓anyAt, ↓fillVC, ↓guardVC, ↓loadVC, ↓opVC, ↓pickC, ↓pureVC, ↓reduceIte, ↓rowW_eq]
                  refine any_w _ _ _ _ _ _ _ _ _ _ _ _ ?_
                  simp only [putE]
                  refine any_step 2 [5] (by decide +kernel) ?_
                  refine ⟨?_, ?_, trivial⟩
                  · (unfold anyI)
                    simp (maxSteps := 10000000) (implicitDefEqProofs := false) only [AV.good, BitVec.ofNat_eq_ofNat, Bool.false_eq_true, Cells.get, Cells.len, Cells.rep, Cells.set, Int.cast_ofNat_Int, Int.reduceLE, Int.reduceLT, Int.reduceToNat, List.getElem?_cons_succ, List.getElem?_cons_zero, List.getElem?_toArray, List.length_cons, List.length_nil, List.map_cons, List.map_nil, List.replicate_succ, List.replicate_zero, List.set_cons_zero, Nat.add_zero, Nat.reduceAdd, Nat.reduceEqDiff, Nat.reduceLT, Nat.reduceLeDiff, Nat.zero_add, Option.getD_some, Option.map_some, TDsc.agg, absC, and_false, and_self, decide_true, dstB, ev, getA, hx, reduceCtorEq, true_and, tt, ↓anyAt, ↓fillVC, ↓guardVC, ↓loadVC, ↓opVC, ↓pickC, ↓pureVC, ↓reduceIte, ↓rowW_eq]
                    intro g_2
                    refine any_w _ _ _ _ _ _ _ _ _ _ _ _ ?_
                    simp only [putE]
                    refine any_step 5 [6] (by decide +kernel) ?_
                    refine ⟨?_, ?_, trivial⟩
                    · (unfold anyI)
                      simp (maxSteps := 10000000) (implicitDefEqProofs := false) only [AV.good, BitVec.ofNat_eq_ofNat, Bool.false_eq_true, Cells.get, Cells.len, Cells.rep, Cells.set, Int.cast_ofNat_Int, Int.reduceLE, Int.reduceLT, Int.reduceToNat, List.getElem?_cons_succ, List.getElem?_cons_zero, List.getElem?_toArray, List.length_cons, List.length_nil, List.map_cons, List.map_nil, List.replicate_succ, List.replicate_zero, List.set_cons_zero, Nat.add_zero, Nat.reduceAdd, Nat.reduceEqDiff, Nat.reduceLT, Nat.reduceLeDiff, Nat.zero_add, Option.getD_some, Option.map_some, TDsc.agg, absC, and_false, and_self, decide_true, dstB, ev, getA, hx, reduceCtorEq, true_and, tt, ↓anyAt, ↓fillVC, ↓guardVC, ↓loadVC, ↓opVC, ↓pickC, ↓pureVC, ↓reduceIte, ↓rowW_eq]
                      intro g_5
                      refine any_w _ _ _ _ _ _ _ _ _ _ _ _ ?_
                      simp only [putE]
                      refine any_step 6 [] (by decide +kernel) ?_
                      refine ⟨?_, trivial⟩
                      · (unfold anyI)
                        simp (maxSteps := 10000000) (implicitDefEqProofs := false) only [AV.good, BitVec.ofNat_eq_ofNat, Bool.false_eq_true, Cells.get, Cells.len, Cells.rep, Cells.set, Int.cast_ofNat_Int, Int.reduceLE, Int.reduceLT, Int.reduceToNat, List.getElem?_cons_succ, List.getElem?_cons_zero, List.getElem?_toArray, List.length_cons, List.length_nil, List.map_cons, List.map_nil, List.replicate_succ, List.replicate_zero, List.set_cons_zero, Nat.add_zero, Nat.reduceAdd, Nat.reduceEqDiff, Nat.reduceLT, Nat.reduceLeDiff, Nat.zero_add, Option.getD_some, Option.map_some, TDsc.agg, absC, and_false, and_self, decide_true, dstB, ev, getA, hx, reduceCtorEq, true_and, tt, ↓anyAt, ↓fillVC, ↓guardVC, ↓loadVC, ↓opVC, ↓pickC, ↓pureVC, ↓reduceIte, ↓rowW_eq]
                        refine any_w _ _ _ _ _ _ _ _ _ _ _ _ ?_
                        simp only [putE]
                        refine any_step 7 [] (by decide +kernel) ?_
                        refine ⟨?_, trivial⟩
                        · (unfold anyI)
                          simp (maxSteps := 10000000) (implicitDefEqProofs := false) only [AV.good, BitVec.ofNat_eq_ofNat, Bool.false_eq_true, Cells.get, Cells.len, Cells.rep, Cells.set, Int.cast_ofNat_Int, Int.reduceLE, Int.reduceLT, Int.reduceToNat, List.getElem?_cons_succ, List.getElem?_cons_zero, List.getElem?_toArray, List.length_cons, List.length_nil, List.map_cons, List.map_nil, List.replicate_succ, List.replicate_zero, List.set_cons_zero, Nat.add_zero, Nat.reduceAdd, Nat.reduceEqDiff, Nat.reduceLT, Nat.reduceLeDiff, Nat.zero_add, Option.getD_some, Option.map_some, TDsc.agg, absC, and_false, and_self, decide_true, dstB, ev, getA, hx, reduceCtorEq, true_and, tt, ↓anyAt, ↓fillVC, ↓guardVC, ↓loadVC, ↓opVC, ↓pickC, ↓pureVC, ↓reduceIte, ↓rowW_eq]
                          refine any_w _ _ _ _ _ _ _ _ _ _ _ _ ?_
                          simp only [putE]
                          (refine ⟨by decide +kernel, ?_⟩)
                          refine LeJ.roS 7 100 rfl rfl ⟨by simp [Cells.len], by simp, by simp [Cells.len]⟩ (LeJ.roS 8 101 rfl rfl ⟨by simp [Cells.len], by simp, by simp [Cells.len]⟩ ?_)
                          refine LeJ.mk (some ⟨g_2, 0, none⟩, 1, some ⟨g_5, 0, none⟩, 1) trivial ?_
                          simp (maxSteps := 1000000) only [leS, leA, stU_env, stU_mem, pickA, getA, delA, setA, Cells.part, Cells.len, List.take_nil, List.drop_nil, List.length_nil, Nat.zero_add, ↓reduceIte, Nat.reduceEqDiff, Option.some.injEq, List.nil_append, List.cons_append, true_and, and_true, and_self, reduceCtorEq, AV.int.injEq, ME.own.injEq, ME.row.injEq, Cells.c32.injEq, Cells.c64.injEq, Cells.c8.injEq, AV.ptr.injEq, AV.ros.injEq, AV.grow.injEq, AV.u64.injEq, AV.u32.injEq]
                          first | done | rfl | trivial | omega | exact ⟨rfl, rfl⟩
                    · (unfold anyI)
                      simp (maxSteps := 10000000) (implicitDefEqProofs := false) only [AV.good, BitVec.ofNat_eq_ofNat, Bool.false_eq_true, Cells.get, Cells.len, Cells.rep, Cells.set, Int.cast_ofNat_Int, Int.reduceLE, Int.reduceLT, Int.reduceToNat, List.getElem?_cons_succ, List.getElem?_cons_zero, List.getElem?_toArray, List.length_cons, List.length_nil, List.map_cons, List.map_nil, List.replicate_succ, List.replicate_zero, List.set_cons_zero, Nat.add_zero, Nat.reduceAdd, Nat.reduceEqDiff, Nat.reduceLT, Nat.reduceLeDiff, Nat.zero_add, Option.getD_some, Option.map_some, TDsc.agg, absC, and_false, and_self, decide_true, dstB, ev, getA, hx, reduceCtorEq, true_and, tt, ↓anyAt, ↓fillVC, ↓guardVC, ↓loadVC, ↓opVC, ↓pickC, ↓pureVC, ↓reduceIte, ↓rowW_eq]
                      refine any_w _ _ _ _ _ _ _ _ _ _ _ _ ?_
                      simp only [putE]
                      refine any_step 5 [] (by decide +kernel) ?_
                      refine ⟨?_, trivial⟩
                      · (unfold anyI)
                        simp (maxSteps := 10000000) (implicitDefEqProofs := false) only [AV.good, BitVec.ofNat_eq_ofNat, Bool.false_eq_true, Cells.get, Cells.len, Cells.rep, Cells.set, Int.cast_ofNat_Int, Int.reduceLE, Int.reduceLT, Int.reduceToNat, List.getElem?_cons_succ, List.getElem?_cons_zero, List.getElem?_toArray, List.length_cons, List.length_nil, List.map_cons, List.map_nil, List.replicate_succ, List.replicate_zero, List.set_cons_zero, Nat.add_zero, Nat.reduceAdd, Nat.reduceEqDiff, Nat.reduceLT, Nat.reduceLeDiff, Nat.zero_add, Option.getD_some, Option.map_some, TDsc.agg, absC, and_false, and_self, decide_true, dstB, ev, getA, hx, reduceCtorEq, true_and, tt, ↓anyAt, ↓fillVC, ↓guardVC, ↓loadVC, ↓opVC, ↓pickC, ↓pureVC, ↓reduceIte, ↓rowW_eq]
                        intro g_5
                        refine any_w _ _ _ _ _ _ _ _ _ _ _ _ ?_
                        simp only [putE]
                        refine any_step 7 [] (by decide +kernel) ?_
                        refine ⟨?_, trivial⟩
                        · (unfold anyI)
                          simp (maxSteps := 10000000) (implicitDefEqProofs := false) only [AV.good, BitVec.ofNat_eq_ofNat, Bool.false_eq_true, Cells.get, Cells.len, Cells.rep, Cells.set, Int.cast_ofNat_Int, Int.reduceLE, Int.reduceLT, Int.reduceToNat, List.getElem?_cons_succ, List.getElem?_cons_zero, List.getElem?_toArray, List.length_cons, List.length_nil, List.map_cons, List.map_nil, List.replicate_succ, List.replicate_zero, List.set_cons_zero, Nat.add_zero, Nat.reduceAdd, Nat.reduceEqDiff, Nat.reduceLT, Nat.reduceLeDiff, Nat.zero_add, Option.getD_some, Option.map_some, TDsc.agg, absC, and_false, and_self, decide_true, dstB, ev, getA, hx, reduceCtorEq, true_and, tt, ↓anyAt, ↓fillVC, ↓guardVC, ↓loadVC, ↓opVC, ↓pickC, ↓pureVC, ↓reduceIte, ↓rowW_eq]
                          refine any_w _ _ _ _ _ _ _ _ _ _ _ _ ?_
                          simp only [putE]
                          (refine ⟨by decide +kernel, ?_⟩)
                          refine LeJ.roS 7 100 rfl rfl ⟨by simp [Cells.len], by simp, by simp [Cells.len]⟩ (LeJ.roS 8 101 rfl rfl ⟨by simp [Cells.len], by simp, by simp [Cells.len]⟩ ?_)
                          refine LeJ.mk (some ⟨g_2, 0, none⟩, 1, some ⟨g_5, 0, none⟩, 1) trivial ?_
                          simp (maxSteps := 1000000) only [leS, leA, stU_env, stU_mem, pickA, getA, delA, setA, Cells.part, Cells.len, List.take_nil, List.drop_nil, List.length_nil, Nat.zero_add, ↓reduceIte, Nat.reduceEqDiff, Option.some.injEq, List.nil_append, List.cons_append, true_and, and_true, and_self, reduceCtorEq, AV.int.injEq, ME.own.injEq, ME.row.injEq, Cells.c32.injEq, Cells.c64.injEq, Cells.c8.injEq, AV.ptr.injEq, AV.ros.injEq, AV.grow.injEq, AV.u64.injEq, AV.u32.injEq]
                          first | done | rfl | trivial | omega | exact ⟨rfl, rfl⟩
                  · (unfold anyI)
                    simp (maxSteps := 10000000) (implicitDefEqProofs := false) only [AV.good, BitVec.ofNat_eq_ofNat, Bool.false_eq_true, Cells.get, Cells.len, Cells.rep, Cells.set, Int.cast_ofNat_Int, Int.reduceLE, Int.reduceLT, Int.reduceToNat, List.getElem?_cons_succ, List.getElem?_cons_zero, List.getElem?_toArray, List.length_cons, List.length_nil, List.map_cons, List.map_nil, List.replicate_succ, List.replicate_zero, List.set_cons_zero, Nat.add_zero, Nat.reduceAdd, Nat.reduceEqDiff, Nat.reduceLT, Nat.reduceLeDiff, Nat.zero_add, Option.getD_some, Option.map_some, TDsc.agg, absC, and_false, and_self, decide_true, dstB, ev, getA, hx, reduceCtorEq, true_and, tt, ↓anyAt, ↓fillVC, ↓guardVC, ↓loadVC, ↓opVC, ↓pickC, ↓pureVC, ↓reduceIte, ↓rowW_eq]
                    intro g_5
                    refine any_w _ _ _ _ _ _ _ _ _ _ _ _ ?_
                    simp only [putE]
                    refine any_step 2 [] (by decide +kernel) ?_
                    refine ⟨?_, trivial⟩
                    · (unfold anyI)
                      simp (maxSteps := 10000000) (implicitDefEqProofs := false) only [AV.good, BitVec.ofNat_eq_ofNat, Bool.false_eq_true, Cells.get, Cells.len, Cells.rep, Cells.set, Int.cast_ofNat_Int, Int.reduceLE, Int.reduceLT, Int.reduceToNat, List.getElem?_cons_succ, List.getElem?_cons_zero, List.getElem?_toArray, List.length_cons, List.length_nil, List.map_cons, List.map_nil, List.replicate_succ, List.replicate_zero, List.set_cons_zero, Nat.add_zero, Nat.reduceAdd, Nat.reduceEqDiff, Nat.reduceLT, Nat.reduceLeDiff, Nat.zero_add, Option.getD_some, Option.map_some, TDsc.agg, absC, and_false, and_self, decide_true, dstB, ev, getA, hx, reduceCtorEq, true_and, tt, ↓anyAt, ↓fillVC, ↓guardVC, ↓loadVC, ↓opVC, ↓pickC, ↓pureVC, ↓reduceIte, ↓rowW_eq]
                      intro g_2
                      refine any_w _ _ _ _ _ _ _ _ _ _ _ _ ?_
                      simp only [putE]
                      refine any_step 6 [] (by decide +kernel) ?_
                      refine ⟨?_, trivial⟩
                      · (unfold anyI)
                        simp (maxSteps := 10000000) (implicitDefEqProofs := false) only [AV.good, BitVec.ofNat_eq_ofNat, Bool.false_eq_true, Cells.get, Cells.len, Cells.rep, Cells.set, Int.cast_ofNat_Int, Int.reduceLE, Int.reduceLT, Int.reduceToNat, List.getElem?_cons_succ, List.getElem?_cons_zero, List.getElem?_toArray, List.length_cons, List.length_nil, List.map_cons, List.map_nil, List.replicate_succ, List.replicate_zero, List.set_cons_zero, Nat.add_zero, Nat.reduceAdd, Nat.reduceEqDiff, Nat.reduceLT, Nat.reduceLeDiff, Nat.zero_add, Option.getD_some, Option.map_some, TDsc.agg, absC, and_false, and_self, decide_true, dstB, ev, getA, hx, reduceCtorEq, true_and, tt, ↓anyAt, ↓fillVC, ↓guardVC, ↓loadVC, ↓opVC, ↓pickC, ↓pureVC, ↓reduceIte, ↓rowW_eq]
                        refine any_w _ _ _ _ _ _ _ _ _ _ _ _ ?_
                        simp only [putE]
                        refine any_step 7 [] (by decide +kernel) ?_
                        refine ⟨?_, trivial⟩
                        · (unfold anyI)
                          simp (maxSteps := 10000000) (implicitDefEqProofs := false) only [AV.good, BitVec.ofNat_eq_ofNat, Bool.false_eq_true, Cells.get, Cells.len, Cells.rep, Cells.set, Int.cast_ofNat_Int, Int.reduceLE, Int.reduceLT, Int.reduceToNat, List.getElem?_cons_succ, List.getElem?_cons_zero, List.getElem?_toArray, List.length_cons, List.length_nil, List.map_cons, List.map_nil, List.replicate_succ, List.replicate_zero, List.set_cons_zero, Nat.add_zero, Nat.reduceAdd, Nat.reduceEqDiff, Nat.reduceLT, Nat.reduceLeDiff, Nat.zero_add, Option.getD_some, Option.map_some, TDsc.agg, absC, and_false, and_self, decide_true, dstB, ev, getA, hx, reduceCtorEq, true_and, tt, ↓anyAt, ↓fillVC, ↓guardVC, ↓loadVC, ↓opVC, ↓pickC, ↓pureVC, ↓reduceIte, ↓rowW_eq]
                          refine any_w _ _ _ _ _ _ _ _ _ _ _ _ ?_
                          simp only [putE]
                          (refine ⟨by decide +kernel, ?_⟩)
                          refine LeJ.roS 7 100 rfl rfl ⟨by simp [Cells.len], by simp, by simp [Cells.len]⟩ (LeJ.roS 8 101 rfl rfl ⟨by simp [Cells.len], by simp, by simp [Cells.len]⟩ ?_)
                          refine LeJ.mk (some ⟨g_2, 0, none⟩, 1, some ⟨g_5, 0, none⟩, 1) trivial ?_
                          simp (maxSteps := 1000000) only [leS, leA, stU_env, stU_mem, pickA, getA, delA, setA, Cells.part, Cells.len, List.take_nil, List.drop_nil, List.length_nil, Nat.zero_add, ↓reduceIte, Nat.reduceEqDiff, Option.some.injEq, List.nil_append, List.cons_append, true_and, and_true, and_self, reduceCtorEq, AV.int.injEq, ME.own.injEq, ME.row.injEq, Cells.c32.injEq, Cells.c64.injEq, Cells.c8.injEq, AV.ptr.injEq, AV.ros.injEq, AV.grow.injEq, AV.u64.injEq, AV.u32.injEq]
                          first | done | rfl | trivial | omega | exact ⟨rfl, rfl⟩
            · (unfold anyI)
              simp (maxSteps := 10000000) (implicitDefEqProofs := false) only [AV.good, BitVec.ofNat_eq_ofNat, Bool.false_eq_true, Cells.get, Cells.len, Cells.rep, Cells.set, Int.cast_ofNat_Int, Int.reduceLE, Int.reduceLT, Int.reduceToNat, List.getElem?_cons_succ, List.getElem?_cons_zero, List.getElem?_toArray, List.length_cons, List.length_nil, List.map_cons, List.map_nil, List.replicate_succ, List.replicate_zero, List.set_cons_zero, Nat.add_zero, Nat.reduceAdd, Nat.reduceEqDiff, Nat.reduceLT, Nat.reduceLeDiff, Nat.zero_add, Option.getD_some, Option.map_some, TDsc.agg, absC, and_false, and_self, decide_true, dstB, ev, getA, hx, reduceCtorEq, true_and, tt, ↓anyAt, ↓fillVC, ↓guardVC, ↓loadVC, ↓opVC, ↓pickC, ↓pureVC, ↓reduceIte, ↓rowW_eq]
              refine any_w _ _ _ _ _ _ _ _ _ _ _ _ ?_
              simp only [putE]
              refine any_step 1 [4] (by decide +kernel) ?_
              refine ⟨?_, ?_, trivial⟩
              · (unfold anyI)
                simp (maxSteps := 10000000) (implicitDefEqProofs := false) only [AV.good, BitVec.ofNat_eq_ofNat, Bool.false_eq_true, Cells.get, Cells.len, Cells.rep, Cells.set, Int.cast_ofNat_Int, Int.reduceLE, Int.reduceLT, Int.reduceToNat, List.getElem?_cons_succ, List.getElem?_cons_zero, List.getElem?_toArray, List.length_cons, List.length_nil, List.map_cons, List.map_nil, List.replicate_succ, List.replicate_zero, List.set_cons_zero, Nat.add_zero, Nat.reduceAdd, Nat.reduceEqDiff, Nat.reduceLT, Nat.reduceLeDiff, Nat.zero_add, Option.getD_some, Option.map_some, TDsc.agg, absC, and_false, and_self, decide_true, dstB, ev, getA, hx, reduceCtorEq, true_and, tt, ↓anyAt, ↓fillVC, ↓guardVC, ↓loadVC, ↓opVC, ↓pickC, ↓pureVC, ↓reduceIte, ↓rowW_eq]
                refine any_w _ _ _ _ _ _ _ _ _ _ _ _ ?_
                simp only [putE]
                refine any_step 2 [4] (by decide +kernel) ?_
                refine ⟨?_, ?_, trivial⟩
                · (unfold anyI)
                  simp (maxSteps := 10000000) (implicitDefEqProofs := false) only [AV.good, BitVec.ofNat_eq_ofNat, Bool.false_eq_true, Cells.get, Cells.len, Cells.rep, Cells.set, Int.cast_ofNat_Int, Int.reduceLE, Int.reduceLT, Int.reduceToNat, List.getElem?_cons_succ, List.getElem?_cons_zero, List.getElem?_toArray, List.length_cons, List.length_nil, List.map_cons, List.map_nil, List.replicate_succ, List.replicate_zero, List.set_cons_zero, Nat.add_zero, Nat.reduceAdd, Nat.reduceEqDiff, Nat.reduceLT, Nat.reduceLeDiff, Nat.zero_add, Option.getD_some, Option.map_some, TDsc.agg, absC, and_false, and_self, decide_true, dstB, ev, getA, hx, reduceCtorEq, true_and, tt, ↓anyAt, ↓fillVC, ↓guardVC, ↓loadVC, ↓opVC, ↓pickC, ↓pureVC, ↓reduceIte, ↓rowW_eq]
                  intro g_2
                  refine any_w _ _ _ _ _ _ _ _ _ _ _ _ ?_
                  simp only [putE]
                  refine any_step 4 [6] (by decide +kernel) ?_
                  refine ⟨?_, ?_, trivial⟩
                  · (unfold anyI)
                    simp (maxSteps := 10000000) (implicitDefEqProofs := false) only [AV.good, BitVec.ofNat_eq_ofNat, Bool.false_eq_true, Cells.get, Cells.len, Cells.rep, Cells.set, Int.cast_ofNat_Int, Int.reduceLE, Int.reduceLT, Int.reduceToNat, List.getElem?_cons_succ, List.getElem?_cons_zero, List.getElem?_toArray, List.length_cons, List.length_nil, List.map_cons, List.map_nil, List.replicate_succ, List.replicate_zero, List.set_cons_zero, Nat.add_zero, Nat.reduceAdd, Nat.reduceEqDiff, Nat.reduceLT, Nat.reduceLeDiff, Nat.zero_add, Option.getD_some, Option.map_some, TDsc.agg, absC, and_false, and_self, decide_true, dstB, ev, getA, hx, reduceCtorEq, true_and, tt, ↓anyAt, ↓fillVC, ↓guardVC, ↓loadVC, ↓opVC, ↓pickC, ↓pureVC, ↓reduceIte, ↓rowW_eq]
                    refine any_w _ _ _ _ _ _ _ _ _ _ _ _ ?_
                    simp only [putE]
                    refine any_step 5 [6] (by decide +kernel) ?_
                    refine ⟨?_, ?_, trivial⟩
                    · (unfold anyI)
                      simp (maxSteps := 10000000) (implicitDefEqProofs := false) only [AV.good, BitVec.ofNat_eq_ofNat, Bool.false_eq_true, Cells.get, Cells.len, Cells.rep, Cells.set, Int.cast_ofNat_Int, Int.reduceLE, Int.reduceLT, Int.reduceToNat, List.getElem?_cons_succ, List.getElem?_cons_zero, List.getElem?_toArray, List.length_cons, List.length_nil, List.map_cons, List.map_nil, List.replicate_succ, List.replicate_zero, List.set_cons_zero, Nat.add_zero, Nat.reduceAdd, Nat.reduceEqDiff, Nat.reduceLT, Nat.reduceLeDiff, Nat.zero_add, Option.getD_some, Option.map_some, TDsc.agg, absC, and_false, and_self, decide_true, dstB, ev, getA, hx, reduceCtorEq, true_and, tt, ↓anyAt, ↓fillVC, ↓guardVC, ↓loadVC, ↓opVC, ↓pickC, ↓pureVC, ↓reduceIte, ↓rowW_eq]
                      intro g_5
                      refine any_w _ _ _ _ _ _ _ _ _ _ _ _ ?_
                      simp only [putE]
                      refine any_step 6 [] (by decide +kernel) ?_
                      refine ⟨?_, trivial⟩
                      · (unfold anyI)
                        simp (maxSteps := 10000000) (implicitDefEqProofs := false) only [AV.good, BitVec.ofNat_eq_ofNat, Bool.false_eq_true, Cells.get, Cells.len, Cells.rep, Cells.set, Int.cast_ofNat_Int, Int.reduceLE, Int.reduceLT, Int.reduceToNat, List.getElem?_cons_succ, List.getElem?_cons_zero, List.getElem?_toArray, List.length_cons, List.length_nil, List.map_cons, List.map_nil, List.replicate_succ, List.replicate_zero, List.set_cons_zero, Nat.add_zero, Nat.reduceAdd, Nat.reduceEqDiff, Nat.reduceLT, Nat.reduceLeDiff, Nat.zero_add, Option.getD_some, Option.map_some, TDsc.agg, absC, and_false, and_self, decide_true, dstB, ev, getA, hx, reduceCtorEq, true_and, tt, ↓anyAt, ↓fillVC, ↓guardVC, ↓loadVC, ↓opVC, ↓pickC, ↓pureVC, ↓reduceIte, ↓rowW_eq]
                        refine any_w _ _ _ _ _ _ _ _ _ _ _ _ ?_
                        simp only [putE]
                        refine any_step 7 [] (by decide +kernel) ?_
                        refine ⟨?_, trivial⟩
                        · (unfold anyI)
                          simp (maxSteps := 10000000) (implicitDefEqProofs := false) only [AV.good, BitVec.ofNat_eq_ofNat, Bool.false_eq_true, Cells.get, Cells.len, Cells.rep, Cells.set, Int.cast_ofNat_Int, Int.reduceLE, Int.reduceLT, Int.reduceToNat, List.getElem?_cons_succ, List.getElem?_cons_zero, List.getElem?_toArray, List.length_cons, List.length_nil, List.map_cons, List.map_nil, List.replicate_succ, List.replicate_zero, List.set_cons_zero, Nat.add_zero, Nat.reduceAdd, Nat.reduceEqDiff, Nat.reduceLT, Nat.reduceLeDiff, Nat.zero_add, Option.getD_some, Option.map_some, TDsc.agg, absC, and_false, and_self, decide_true, dstB, ev, getA, hx, reduceCtorEq, true_and, tt, ↓anyAt, ↓fillVC, ↓guardVC, ↓loadVC, ↓opVC, ↓pickC, ↓pureVC, ↓reduceIte, ↓rowW_eq]
                          refine any_w _ _ _ _ _ _ _ _ _ _ _ _ ?_
                          simp only [putE]
                          (refine ⟨by decide +kernel, ?_⟩)
                          refine LeJ.roS 7 100 rfl rfl ⟨by simp [Cells.len], by simp, by simp [Cells.len]⟩ (LeJ.roS 8 101 rfl rfl ⟨by simp [Cells.len], by simp, by simp [Cells.len]⟩ ?_)
                          refine LeJ.mk (some ⟨g_2, 0, none⟩, 1, some ⟨g_5, 0, none⟩, 1) trivial ?_
                          simp (maxSteps := 1000000) only [leS, leA, stU_env, stU_mem, pickA, getA, delA, setA, Cells.part, Cells.len, List.take_nil, List.drop_nil, List.length_nil, Nat.zero_add, ↓reduceIte, Nat.reduceEqDiff, Option.some.injEq, List.nil_append, List.cons_append, true_and, and_true, and_self, reduceCtorEq, AV.int.injEq, ME.own.injEq, ME.row.injEq, Cells.c32.injEq, Cells.c64.injEq, Cells.c8.injEq, AV.ptr.injEq, AV.ros.injEq, AV.grow.injEq, AV.u64.injEq, AV.u32.injEq]
                          first | done | rfl | trivial | omega | exact ⟨rfl, rfl⟩
                    · (unfold anyI)
                      simp (maxSteps := 10000000) (implicitDefEqProofs := false) only [AV.good, BitVec.ofNat_eq_ofNat, Bool.false_eq_true, Cells.get, Cells.len, Cells.rep, Cells.set, Int.cast_ofNat_Int, Int.reduceLE, Int.reduceLT, Int.reduceToNat, List.getElem?_cons_succ, List.getElem?_cons_zero, List.getElem?_toArray, List.length_cons, List.length_nil, List.map_cons, List.map_nil, List.replicate_succ, List.replicate_zero, List.set_cons_zero, Nat.add_zero, Nat.reduceAdd, Nat.reduceEqDiff, Nat.reduceLT, Nat.reduceLeDiff, Nat.zero_add, Option.getD_some, Option.map_some, TDsc.agg, absC, and_false, and_self, decide_true, dstB, ev, getA, hx, reduceCtorEq, true_and, tt, ↓anyAt, ↓fillVC, ↓guardVC, ↓loadVC, ↓opVC, ↓pickC, ↓pureVC, ↓reduceIte, ↓rowW_eq]
                      refine any_w _ _ _ _ _ _ _ _ _ _ _ _ ?_
                      simp only [putE]
                      refine any_step 5 [] (by decide +kernel) ?_
                      refine ⟨?_, trivial⟩
                      · (unfold anyI)
                        simp (maxSteps := 10000000) (implicitDefEqProofs := false) only [AV.good, BitVec.ofNat_eq_ofNat, Bool.false_eq_true, Cells.get, Cells.len, Cells.rep, Cells.set, Int.cast_ofNat_Int, Int.reduceLE, Int.reduceLT, Int.reduceToNat, List.getElem?_cons_succ, List.getElem?_cons_zero, List.getElem?_toArray, List.length_cons, List.length_nil, List.map_cons, List.map_nil, List.replicate_succ, List.replicate_zero, List.set_cons_zero, Nat.add_zero, Nat.reduceAdd, Nat.reduceEqDiff, Nat.reduceLT, Nat.reduceLeDiff, Nat.zero_add, Option.getD_some, Option.map_some, TDsc.agg, absC, and_false, and_self, decide_true, dstB, ev, getA, hx, reduceCtorEq, true_and, tt, ↓anyAt, ↓fillVC, ↓guardVC, ↓loadVC, ↓opVC, ↓pickC, ↓pureVC, ↓reduceIte, ↓rowW_eq]
                        intro g_5
                        refine any_w _ _ _ _ _ _ _ _ _ _ _ _ ?_
                        simp only [putE]
                        refine any_step 7 [] (by decide +kernel) ?_
                        refine ⟨?_, trivial⟩
                        · (unfold anyI)
                          simp (maxSteps := 10000000) (implicitDefEqProofs := false) only [AV.good, BitVec.ofNat_eq_ofNat, Bool.false_eq_true, Cells.get, Cells.len, Cells.rep, Cells.set, Int.cast_ofNat_Int, Int.reduceLE, Int.reduceLT, Int.reduceToNat, List.getElem?_cons_succ, List.getElem?_cons_zero, List.getElem?_toArray, List.length_cons, List.length_nil, List.map_cons, List.map_nil, List.replicate_succ, List.replicate_zero, List.set_cons_zero, Nat.add_zero, Nat.reduceAdd, Nat.reduceEqDiff, Nat.reduceLT, Nat.reduceLeDiff, Nat.zero_add, Option.getD_some, Option.map_some, TDsc.agg, absC, and_false, and_self, decide_true, dstB, ev, getA, hx, reduceCtorEq, true_and, tt, ↓anyAt, ↓fillVC, ↓guardVC, ↓loadVC, ↓opVC, ↓pickC, ↓pureVC, ↓reduceIte, ↓rowW_eq]
                          refine any_w _ _ _ _ _ _ _ _ _ _ _ _ ?_
                          simp only [putE]
                          (refine ⟨by decide +kernel, ?_⟩)
                          refine LeJ.roS 7 100 rfl rfl ⟨by simp [Cells.len], by simp, by simp [Cells.len]⟩ (LeJ.roS 8 101 rfl rfl ⟨by simp [Cells.len], by simp, by simp [Cells.len]⟩ ?_)
                          refine LeJ.mk (some ⟨g_2, 0, none⟩, 1, some ⟨g_5, 0, none⟩, 1) trivial ?_
                          simp (maxSteps := 1000000) only [leS, leA, stU_env, stU_mem, pickA, getA, delA, setA, Cells.part, Cells.len, List.take_nil, List.drop_nil, List.length_nil, Nat.zero_add, ↓reduceIte, Nat.reduceEqDiff, Option.some.injEq, List.nil_append, List.cons_append, true_and, and_true, and_self, reduceCtorEq, AV.int.injEq, ME.own.injEq, ME.row.injEq, Cells.c32.injEq, Cells.c64.injEq, Cells.c8.injEq, AV.ptr.injEq, AV.ros.injEq, AV.grow.injEq, AV.u64.injEq, AV.u32.injEq]
                          first | done | rfl | trivial | omega | exact ⟨rfl, rfl⟩
                  · (unfold anyI)
                    simp (maxSteps := 10000000) (implicitDefEqProofs := false) only [AV.good, BitVec.ofNat_eq_ofNat, Bool.false_eq_true, Cells.get, Cells.len, Cells.rep, Cells.set, Int.cast_ofNat_Int, Int.reduceLE, Int.reduceLT, Int.reduceToNat, List.getElem?_cons_succ, List.getElem?_cons_zero, List.getElem?_toArray, List.length_cons, List.length_nil, List.map_cons, List.map_nil, List.replicate_succ, List.replicate_zero, List.set_cons_zero, Nat.add_zero, Nat.reduceAdd, Nat.reduceEqDiff, Nat.reduceLT, Nat.reduceLeDiff, Nat.zero_add, Option.getD_some, Option.map_some, TDsc.agg, absC, and_false, and_self, decide_true, dstB, ev, getA, hx, reduceCtorEq, true_and, tt, ↓anyAt, ↓fillVC, ↓guardVC, ↓loadVC, ↓opVC, ↓pickC, ↓pureVC, ↓reduceIte, ↓rowW_eq]
                    refine any_w _ _ _ _ _ _ _ _ _ _ _ _ ?_
                    simp only [putE]
                    refine any_step 4 [] (by decide +kernel) ?_
                    refine ⟨?_, trivial⟩
                    · (unfold anyI)
                      simp (maxSteps := 10000000) (implicitDefEqProofs := false) only [AV.good, BitVec.ofNat_eq_ofNat, Bool.false_eq_true, Cells.get, Cells.len, Cells.rep, Cells.set, Int.cast_ofNat_Int, Int.reduceLE, Int.reduceLT, Int.reduceToNat, List.getElem?_cons_succ, List.getElem?_cons_zero, List.getElem?_toArray, List.length_cons, List.length_nil, List.map_cons, List.map_nil, List.replicate_succ, List.replicate_zero, List.set_cons_zero, Nat.add_zero, Nat.reduceAdd, Nat.reduceEqDiff, Nat.reduceLT, Nat.reduceLeDiff, Nat.zero_add, Option.getD_some, Option.map_some, TDsc.agg, absC, and_false, and_self, decide_true, dstB, ev, getA, hx, reduceCtorEq, true_and, tt, ↓anyAt, ↓fillVC, ↓guardVC, ↓loadVC, ↓opVC, ↓pickC, ↓pureVC, ↓reduceIte, ↓rowW_eq]
                      refine any_w _ _ _ _ _ _ _ _ _ _ _ _ ?_
                      simp only [putE]
                      refine any_step 5 [] (by decide +kernel) ?_
                      refine ⟨?_, trivial⟩
                      · (unfold anyI)
                        simp (maxSteps := 10000000) (implicitDefEqProofs := false) only [AV.good, BitVec.ofNat_eq_ofNat, Bool.false_eq_true, Cells.get, Cells.len, Cells.rep, Cells.set, Int.cast_ofNat_Int, Int.reduceLE, Int.reduceLT, Int.reduceToNat, List.getElem?_cons_succ, List.getElem?_cons_zero, List.getElem?_toArray, List.length_cons, List.length_nil, List.map_cons, List.map_nil, List.replicate_succ, List.replicate_zero, List.set_cons_zero, Nat.add_zero, Nat.reduceAdd, Nat.reduceEqDiff, Nat.reduceLT, Nat.reduceLeDiff, Nat.zero_add, Option.getD_some, Option.map_some, TDsc.agg, absC, and_false, and_self, decide_true, dstB, ev, getA, hx, reduceCtorEq, true_and, tt, ↓anyAt, ↓fillVC, ↓guardVC, ↓loadVC, ↓opVC, ↓pickC, ↓pureVC, ↓reduceIte, ↓rowW_eq]
                        intro g_5
                        refine any_w _ _ _ _ _ _ _ _ _ _ _ _ ?_
                        simp only [putE]
                        refine any_step 7 [] (by decide +kernel) ?_
                        refine ⟨?_, trivial⟩
                        · (unfold anyI)
                          simp (maxSteps := 10000000) (implicitDefEqProofs := false) only [AV.good, BitVec.ofNat_eq_ofNat, Bool.false_eq_true, Cells.get, Cells.len, Cells.rep, Cells.set, Int.cast_ofNat_Int, Int.reduceLE, Int.reduceLT, Int.reduceToNat, List.getElem?_cons_succ, List.getElem?_cons_zero, List.getElem?_toArray, List.length_cons, List.length_nil, List.map_cons, List.map_nil, List.replicate_succ, List.replicate_zero, List.set_cons_zero, Nat.add_zero, Nat.reduceAdd, Nat.reduceEqDiff, Nat.reduceLT, Nat.reduceLeDiff, Nat.zero_add, Option.getD_some, Option.map_some, TDsc.agg, absC, and_false, and_self, decide_true, dstB, ev, getA, hx, reduceCtorEq, true_and, tt, ↓anyAt, ↓fillVC, ↓guardVC, ↓loadVC, ↓opVC, ↓pickC, ↓pureVC, ↓reduceIte, ↓rowW_eq]
                          refine any_w _ _ _ _ _ _ _ _ _ _ _ _ ?_
                          simp only [putE]
                          (refine ⟨by decide +kernel, ?_⟩)
                          refine LeJ.roS 7 100 rfl rfl ⟨by simp [Cells.len], by simp, by simp [Cells.len]⟩ (LeJ.roS 8 101 rfl rfl ⟨by simp [Cells.len], by simp, by simp [Cells.len]⟩ ?_)
                          refine LeJ.mk (some ⟨g_2, 0, none⟩, 1, some ⟨g_5, 0, none⟩, 1) trivial ?_
                          simp (maxSteps := 1000000) only [leS, leA, stU_env, stU_mem, pickA, getA, delA, setA, Cells.part, Cells.len, List.take_nil, List.drop_nil, List.length_nil, Nat.zero_add, ↓reduceIte, Nat.reduceEqDiff, Option.some.injEq, List.nil_append, List.cons_append, true_and, and_true, and_self, reduceCtorEq, AV.int.injEq, ME.own.injEq, ME.row.injEq, Cells.c32.injEq, Cells.c64.injEq, Cells.c8.injEq, AV.ptr.injEq, AV.ros.injEq, AV.grow.injEq, AV.u64.injEq, AV.u32.injEq]
                          first | done | rfl | trivial | omega | exact ⟨rfl, rfl⟩
                · (unfold anyI)
                  simp (maxSteps := 10000000) (implicitDefEqProofs := false) only [AV.good, BitVec.ofNat_eq_ofNat, Bool.false_eq_true, Cells.get, Cells.len, Cells.rep, Cells.set, Int.cast_ofNat_Int, Int.reduceLE, Int.reduceLT, Int.reduceToNat, List.getElem?_cons_succ, List.getElem?_cons_zero, List.getElem?_toArray, List.length_cons, List.length_nil, List.map_cons, List.map_nil, List.replicate_succ, List.replicate_zero, List.set_cons_zero, Nat.add_zero, Nat.reduceAdd, Nat.reduceEqDiff, Nat.reduceLT, Nat.reduceLeDiff, Nat.zero_add, Option.getD_some, Option.map_some, TDsc.agg, absC, and_false, and_self, decide_true, dstB, ev, getA, hx, reduceCtorEq, true_and, tt, ↓anyAt, ↓fillVC, ↓guardVC, ↓loadVC, ↓opVC, ↓pickC, ↓pureVC, ↓reduceIte, ↓rowW_eq]
                  refine any_w _ _ _ _ _ _ _ _ _ _ _ _ ?_
                  simp only [putE]
                  refine any_step 2 [5] (by decide +kernel) ?_
                  refine ⟨?_, ?_, trivial⟩
                  · (unfold anyI)
                    simp (maxSteps := 10000000) (implicitDefEqProofs := false) only [AV.good, BitVec.ofNat_eq_ofNat, Bool.false_eq_true, Cells.get, Cells.len, Cells.rep, Cells.set, Int.cast_ofNat_Int, Int.reduceLE, Int.reduceLT, Int.reduceToNat, List.getElem?_cons_succ, List.getElem?_cons_zero, List.getElem?_toArray, List.length_cons, List.length_nil, List.map_cons, List.map_nil, List.replicate_succ, List.replicate_zero, List.set_cons_zero, Nat.add_zero, Nat.reduceAdd, Nat.reduceEqDiff, Nat.reduceLT, Nat.reduceLeDiff, Nat.zero_add, Option.getD_some, Option.map_some, TDsc.agg, absC, and_false, and_self, decide_true, dstB, ev, getA, hx, reduceCtorEq, true_and, tt, ↓anyAt, ↓fillVC, ↓guardVC, ↓loadVC, ↓opVC, ↓pickC, ↓pureVC, ↓reduceIte, ↓rowW_eq]
                    intro g_2
                    refine any_w _ _ _ _ _ _ _ _ _ _ _ _ ?_
                    simp only [putE]
                    refine any_step 5 [6] (by decide +kernel) ?_
                    refine ⟨?_, ?_, trivial⟩
                    · (unfold anyI)
                      simp (maxSteps := 10000000) (implicitDefEqProofs := false) only [AV.good, BitVec.ofNat_eq_ofNat, Bool.false_eq_true, Cells.get, Cells.len, Cells.rep, Cells.set, Int.cast_ofNat_Int, Int.reduceLE, Int.reduceLT, Int.reduceToNat, List.getElem?_cons_succ, List.getElem?_cons_zero, List.getElem?_toArray, List.length_cons, List.length_nil, List.map_cons, List.map_nil, List.replicate_succ, List.replicate_zero, List.set_cons_zero, Nat.add_zero, Nat.reduceAdd, Nat.reduceEqDiff, Nat.reduceLT, Nat.reduceLeDiff, Nat.zero_add, Option.getD_some, Option.map_some, TDsc.agg, absC, and_false, and_self, decide_true, dstB, ev, getA, hx, reduceCtorEq, true_and, tt, ↓anyAt, ↓fillVC, ↓guardVC, ↓loadVC, ↓opVC, ↓pickC, ↓pureVC, ↓reduceIte, ↓rowW_eq]
                      intro g_5
                      refine any_w _ _ _ _ _ _ _ _ _ _ _ _ ?_
                      simp only [putE]
                      refine any_step 6 [] (by decide +kernel) ?_
                      refine ⟨?_, trivial⟩
                      · (unfold anyI)
                        simp (maxSteps := 10000000) (implicitDefEqProofs := false) only [AV.good, BitVec.ofNat_eq_ofNat, Bool.false_eq_true, Cells.get, Cells.len, Cells.rep, Cells.set, Int.cast_ofNat_Int, Int.reduceLE, Int.reduceLT, Int.reduceToNat, List.getElem?_cons_succ, List.getElem?_cons_zero, List.getElem?_toArray, List.length_cons, List.length_nil, List.map_cons, List.map_nil, List.replicate_succ, List.replicate_zero, List.set_cons_zero, Nat.add_zero, Nat.reduceAdd, Nat.reduceEqDiff, Nat.reduceLT, Nat.reduceLeDiff, Nat.zero_add, Option.getD_some, Option.map_some, TDsc.agg, absC, and_false, and_self, decide_true, dstB, ev, getA, hx, reduceCtorEq, true_and, tt, ↓anyAt, ↓fillVC, ↓guardVC, ↓loadVC, ↓opVC, ↓pickC, ↓pureVC, ↓reduceIte, ↓rowW_eq]
                        refine any_w _ _ _ _ _ _ _ _ _ _ _ _ ?_
                        simp only [putE]
                        refine any_step 7 [] (by decide +kernel) ?_
                        refine ⟨?_, trivial⟩
                        · (unfold anyI)
                          simp (maxSteps := 10000000) (implicitDefEqProofs := false) only [AV.good, BitVec.ofNat_eq_ofNat, Bool.false_eq_true, Cells.get, Cells.len, Cells.rep, Cells.set, Int.cast_ofNat_Int, Int.reduceLE, Int.reduceLT, Int.reduceToNat, List.getElem?_cons_succ, List.getElem?_cons_zero, List.getElem?_toArray, List.length_cons, List.length_nil, List.map_cons, List.map_nil, List.replicate_succ, List.replicate_zero, List.set_cons_zero, Nat.add_zero, Nat.reduceAdd, Nat.reduceEqDiff, Nat.reduceLT, Nat.reduceLeDiff, Nat.zero_add, Option.getD_some, Option.map_some, TDsc.agg, absC, and_false, and_self, decide_true, dstB, ev, getA, hx, reduceCtorEq, true_and, tt, ↓anyAt, ↓fillVC, ↓guardVC, ↓loadVC, ↓opVC, ↓pickC, ↓pureVC, ↓reduceIte, ↓rowW_eq]
                          refine any_w _ _ _ _ _ _ _ _ _ _ _ _ ?_
                          simp only [putE]
                          (refine ⟨by decide +kernel, ?_⟩)
                          refine LeJ.roS 7 100 rfl rfl ⟨by simp [Cells.len], by simp, by simp [Cells.len]⟩ (LeJ.roS 8 101 rfl rfl ⟨by simp [Cells.len], by simp, by simp [Cells.len]⟩ ?_)
                          refine LeJ.mk (some ⟨g_2, 0, none⟩, 1, some ⟨g_5, 0, none⟩, 1) trivial ?_
                          simp (maxSteps := 1000000) only [leS, leA, stU_env, stU_mem, pickA, getA, delA, setA, Cells.part, Cells.len, List.take_nil, List.drop_nil, List.length_nil, Nat.zero_add, ↓reduceIte, Nat.reduceEqDiff, Option.some.injEq, List.nil_append, List.cons_append, true_and, and_true, and_self, reduceCtorEq, AV.int.injEq, ME.own.injEq, ME.row.injEq, Cells.c32.injEq, Cells.c64.injEq, Cells.c8.injEq, AV.ptr.injEq, AV.ros.injEq, AV.grow.injEq, AV.u64.injEq, AV.u32.injEq]
                          first | done | rfl | trivial | omega | exact ⟨rfl, rfl⟩
                    · (unfold anyI)
                      simp (maxSteps := 10000000) (implicitDefEqProofs := false) only [AV.good, BitVec.ofNat_eq_ofNat, Bool.false_eq_true, Cells.get, Cells.len, Cells.rep, Cells.set, Int.cast_ofNat_Int, Int.reduceLE, Int.reduceLT, Int.reduceToNat, List.getElem?_cons_succ, List.getElem?_cons_zero, List.getElem?_toArray, List.length_cons, List.length_nil, List.map_cons, List.map_nil, List.replicate_succ, List.replicate_zero, List.set_cons_zero, Nat.add_zero, Nat.reduceAdd, Nat.reduceEqDiff, Nat.reduceLT, Nat.reduceLeDiff, Nat.zero_add, Option.getD_some, Option.map_some, TDsc.agg, absC, and_false, and_self, decide_true, dstB, ev, getA, hx, reduceCtorEq, true_and, tt, ↓anyAt, ↓fillVC, ↓guardVC, ↓loadVC, ↓opVC, ↓pickC, ↓pureVC, ↓reduceIte, ↓rowW_eq]
                      refine any_w _ _ _ _ _ _ _ _ _ _ _ _ ?_
                      simp only [putE]
                      refine any_step 5 [] (by decide +kernel) ?_
                      refine ⟨?_, trivial⟩
                      · (unfold anyI)
                        simp (maxSteps := 10000000) (implicitDefEqProofs := false) only [AV.good, BitVec.ofNat_eq_ofNat, Bool.false_eq_true, Cells.get, Cells.len, Cells.rep, Cells.set, Int.cast_ofNat_Int, Int.reduceLE, Int.reduceLT, Int.reduceToNat, List.getElem?_cons_succ, List.getElem?_cons_zero, List.getElem?_toArray, List.length_cons, List.length_nil, List.map_cons, List.map_nil, List.replicate_succ, List.replicate_zero, List.set_cons_zero, Nat.add_zero, Nat.reduceAdd, Nat.reduceEqDiff, Nat.reduceLT, Nat.reduceLeDiff, Nat.zero_add, Option.getD_some, Option.map_some, TDsc.agg, absC, and_false, and_self, decide_true, dstB, ev, getA, hx, reduceCtorEq, true_and, tt, ↓anyAt, ↓fillVC, ↓guardVC, ↓loadVC, ↓opVC, ↓pickC, ↓pureVC, ↓reduceIte, ↓rowW_eq]
                        intro g_5
                        refine any_w _ _ _ _ _ _ _ _ _ _ _ _ ?_
                        simp only [putE]
                        refine any_step 7 [] (by decide +kernel) ?_
                        refine ⟨?_, trivial⟩
                        · (unfold anyI)
                          simp (maxSteps := 10000000) (implicitDefEqProofs := false) only [AV.good, BitVec.ofNat_eq_ofNat, Bool.false_eq_true, Cells.get, Cells.len, Cells.rep, Cells.set, Int.cast_ofNat_Int, Int.reduceLE, Int.reduceLT, Int.reduceToNat, List.getElem?_cons_succ, List.getElem?_cons_zero, List.getElem?_toArray, List.length_cons, List.length_nil, List.map_cons, List.map_nil, List.replicate_succ, List.replicate_zero, List.set_cons_zero, Nat.add_zero, Nat.reduceAdd, Nat.reduceEqDiff, Nat.reduceLT, Nat.reduceLeDiff, Nat.zero_add, Option.getD_some, Option.map_some, TDsc.agg, absC, and_false, and_self, decide_true, dstB, ev, getA, hx, reduceCtorEq, true_and, tt, ↓anyAt, ↓fillVC, ↓guardVC, ↓loadVC, ↓opVC, ↓pickC, ↓pureVC, ↓reduceIte, ↓rowW_eq]
                          refine any_w _ _ _ _ _ _ _ _ _ _ _ _ ?_
                          simp only [putE]
                          (refine ⟨by decide +kernel, ?_⟩)
                          refine LeJ.roS 7 100 rfl rfl ⟨by simp [Cells.len], by simp, by simp [Cells.len]⟩ (LeJ.roS 8 101 rfl rfl ⟨by simp [Cells.len], by simp, by simp [Cells.len]⟩ ?_)
                          refine LeJ.mk (some ⟨g_2, 0, none⟩, 1, some ⟨g_5, 0, none⟩, 1) trivial ?_
                          simp (maxSteps := 1000000) only [leS, leA, stU_env, stU_mem, pickA, getA, delA, setA, Cells.part, Cells.len, List.take_nil, List.drop_nil, List.length_nil, Nat.zero_add, ↓reduceIte, Nat.reduceEqDiff, Option.some.injEq, List.nil_append, List.cons_append, true_and, and_true, and_self, reduceCtorEq, AV.int.injEq, ME.own.injEq, ME.row.injEq, Cells.c32.injEq, Cells.c64.injEq, Cells.c8.injEq, AV.ptr.injEq, AV.ros.injEq, AV.grow.injEq, AV.u64.injEq, AV.u32.injEq]
                          first | done | rfl | trivial | omega | exact ⟨rfl, rfl⟩
                  · (unfold anyI)
                    simp (maxSteps := 10000000) (implicitDefEqProofs := false) only [AV.good, BitVec.ofNat_eq_ofNat, Bool.false_eq_true, Cells.get, Cells.len, Cells.rep, Cells.set, Int.cast_ofNat_Int, Int.reduceLE, Int.reduceLT, Int.reduceToNat, List.getElem?_cons_succ, List.getElem?_cons_zero, List.getElem?_toArray, List.length_cons, List.length_nil, List.map_cons, List.map_nil, List.replicate_succ, List.replicate_zero, List.set_cons_zero, Nat.add_zero, Nat.reduceAdd, Nat.reduceEqDiff, Nat.reduceLT, Nat.reduceLeDiff, Nat.zero_add, Option.getD_some, Option.map_some, TDsc.agg, absC, and_false, and_self, decide_true, dstB, ev, getA, hx, reduceCtorEq, true_and, tt, ↓anyAt, ↓fillVC, ↓guardVC, ↓loadVC, ↓opVC, ↓pickC, ↓pureVC, ↓reduceIte, ↓rowW_eq]
                    intro g_5
                    refine any_w _ _ _ _ _ _ _ _ _ _ _ _ ?_
                    simp only [putE]
                    refine any_step 2 [] (by decide +kernel) ?_
                    refine ⟨?_, trivial⟩
                    · (unfold anyI)
                      simp (maxSteps := 10000000) (implicitDefEqProofs := false) only [AV.good, BitVec.ofNat_eq_ofNat, Bool.false_eq_true, Cells.get, Cells.len, Cells.rep, Cells.set, Int.cast_ofNat_Int, Int.reduceLE, Int.reduceLT, Int.reduceToNat, List.getElem?_cons_succ, List.getElem?_cons_zero, List.getElem?_toArray, List.length_cons, List.length_nil, List.map_cons, List.map_nil, List.replicate_succ, List.replicate_zero, List.set_cons_zero, Nat.add_zero, Nat.reduceAdd, Nat.reduceEqDiff, Nat.reduceLT, Nat.reduceLeDiff, Nat.zero_add, Option.getD_some, Option.map_some, TDsc.agg, absC, and_false, and_self, decide_true, dstB, ev, getA, hx, reduceCtorEq, true_and, tt, ↓anyAt, ↓fillVC, ↓guardVC, ↓loadVC, ↓opVC, ↓pickC, ↓pureVC, ↓reduceIte, ↓rowW_eq]
                      intro g_2
                      refine any_w _ _ _ _ _ _ _ _ _ _ _ _ ?_
                      simp only [putE]
                      refine any_step 6 [] (by decide +kernel) ?_
                      refine ⟨?_, trivial⟩
                      · (unfold anyI)
                        simp (maxSteps := 10000000) (implicitDefEqProofs := false) only [AV.good, BitVec.ofNat_eq_ofNat, Bool.false_eq_true, Cells.get, Cells.len, Cells.rep, Cells.set, Int.cast_ofNat_Int, Int.reduceLE, Int.reduceLT, Int.reduceToNat, List.getElem?_cons_succ, List.getElem?_cons_zero, List.getElem?_toArray, List.length_cons, List.length_nil, List.map_cons, List.map_nil, List.replicate_succ, List.replicate_zero, List.set_cons_zero, Nat.add_zero, Nat.reduceAdd, Nat.reduceEqDiff, Nat.reduceLT, Nat.reduceLeDiff, Nat.zero_add, Option.getD_some, Option.map_some, TDsc.agg, absC, and_false, and_self, decide_true, dstB, ev, getA, hx, reduceCtorEq, true_and, tt, ↓anyAt, ↓fillVC, ↓guardVC, ↓loadVC, ↓opVC, ↓pickC, ↓pureVC, ↓reduceIte, ↓rowW_eq]
                        refine any_w _ _ _ _ _ _ _ _ _ _ _ _ ?_
                        simp only [putE]
                        refine any_step 7 [] (by decide +kernel) ?_
                        refine ⟨?_, trivial⟩
                        · (unfold anyI)
                          simp (maxSteps := 10000000) (implicitDefEqProofs := false) only [AV.good, BitVec.ofNat_eq_ofNat, Bool.false_eq_true, Cells.get, Cells.len, Cells.rep, Cells.set, Int.cast_ofNat_Int, Int.reduceLE, Int.reduceLT, Int.reduceToNat, List.getElem?_cons_succ, List.getElem?_cons_zero, List.getElem?_toArray, List.length_cons, List.length_nil, List.map_cons, List.map_nil, List.replicate_succ, List.replicate_zero, List.set_cons_zero, Nat.add_zero, Nat.reduceAdd, Nat.reduceEqDiff, Nat.reduceLT, Nat.reduceLeDiff, Nat.zero_add, Option.getD_some, Option.map_some, TDsc.agg, absC, and_false, and_self, decide_true, dstB, ev, getA, hx, reduceCtorEq, true_and, tt, ↓anyAt, ↓fillVC, ↓guardVC, ↓loadVC, ↓opVC, ↓pickC, ↓pureVC, ↓reduceIte, ↓rowW_eq]
                          refine any_w _ _ _ _ _ _ _ _ _ _ _ _ ?_
                          simp only [putE]
                          (refine ⟨by decide +kernel, ?_⟩)
                          refine LeJ.roS 7 100 rfl rfl ⟨by simp [Cells.len], by simp, by simp [Cells.len]⟩ (LeJ.roS 8 101 rfl rfl ⟨by simp [Cells.len], by simp, by simp [Cells.len]⟩ ?_)
                          refine LeJ.mk (some ⟨g_2, 0, none⟩, 1, some ⟨g_5, 0, none⟩, 1) trivial ?_
                          simp (maxSteps := 1000000) only [leS, leA, stU_env, stU_mem, pickA, getA, delA, setA, Cells.part, Cells.len, List.take_nil, List.drop_nil, List.length_nil, Nat.zero_add, ↓reduceIte, Nat.reduceEqDiff, Option.some.injEq, List.nil_append, List.cons_append, true_and, and_true, and_self, reduceCtorEq, AV.int.injEq, ME.own.injEq, ME.row.injEq, Cells.c32.injEq, Cells.c64.injEq, Cells.c8.injEq, AV.ptr.injEq, AV.ros.injEq, AV.grow.injEq, AV.u64.injEq, AV.u32.injEq]
                          first | done | rfl | trivial | omega | exact ⟨rfl, rfl⟩
              · (unfold anyI)
                simp (maxSteps := 10000000) (implicitDefEqProofs := false) only [AV.good, BitVec.ofNat_eq_ofNat, Bool.false_eq_true, Cells.get, Cells.len, Cells.rep, Cells.set, Int.cast_ofNat_Int, Int.reduceLE, Int.reduceLT, Int.reduceToNat, List.getElem?_cons_succ, List.getElem?_cons_zero, List.getElem?_toArray, List.length_cons, List.length_nil, List.map_cons, List.map_nil, List.replicate_succ, List.replicate_zero, List.set_cons_zero, Nat.add_zero, Nat.reduceAdd, Nat.reduceEqDiff, Nat.reduceLT, Nat.reduceLeDiff, Nat.zero_add, Option.getD_some, Option.map_some, TDsc.agg, absC, and_false, and_self, decide_true, dstB, ev, getA, hx, reduceCtorEq, true_and, tt, ↓anyAt, ↓fillVC, ↓guardVC, ↓loadVC, ↓opVC, ↓pickC, ↓pureVC, ↓reduceIte, ↓rowW_eq]
                refine any_w _ _ _ _ _ _ _ _ _ _ _ _ ?_
                simp only [putE]
                refine any_step 1 [5] (by decide +kernel) ?_
                refine ⟨?_, ?_, trivial⟩
                · (unfold anyI)
                  simp (maxSteps := 10000000) (implicitDefEqProofs := false) only [AV.good, BitVec.ofNat_eq_ofNat, Bool.false_eq_true, Cells.get, Cells.len, Cells.rep, Cells.set, Int.cast_ofNat_Int, Int.reduceLE, Int.reduceLT, Int.reduceToNat, List.getElem?_cons_succ, List.getElem?_cons_zero, List.getElem?_toArray, List.length_cons, List.length_nil, List.map_cons, List.map_nil, List.replicate_succ, List.replicate_zero, List.set_cons_zero, Nat.add_zero, Nat.reduceAdd, Nat.reduceEqDiff, Nat.reduceLT, Nat.reduceLeDiff, Nat.zero_add, Option.getD_some, Option.map_some, TDsc.agg, absC, and_false, and_self, decide_true, dstB, ev, getA, hx, reduceCtorEq, true_and, tt, ↓anyAt, ↓fillVC, ↓guardVC, ↓loadVC, ↓opVC, ↓pickC, ↓pureVC, ↓reduceIte, ↓rowW_eq]
                  refine any_w _ _ _ _ _ _ _ _ _ _ _ _ ?_
                  simp only [putE]
                  refine any_step 2 [5] (by decide +kernel) ?_
                  refine ⟨?_, ?_, trivial⟩
                  · (unfold anyI)
                    simp (maxSteps := 10000000) (implicitDefEqProofs := false) only [AV.good, BitVec.ofNat_eq_ofNat, Bool.false_eq_true, Cells.get, Cells.len, Cells.rep, Cells.set, Int.cast_ofNat_Int, Int.reduceLE, Int.reduceLT, Int.reduceToNat, List.getElem?_cons_succ, List.getElem?_cons_zero, List.getElem?_toArray, List.length_cons, List.length_nil, List.map_cons, List.map_nil, List.replicate_succ, List.replicate_zero, List.set_cons_zero, Nat.add_zero, Nat.reduceAdd, Nat.reduceEqDiff, Nat.reduceLT, Nat.reduceLeDiff, Nat.zero_add, Option.getD_some, Option.map_some, TDsc.agg, absC, and_false, and_self, decide_true, dstB, ev, getA, hx, reduceCtorEq, true_and, tt, ↓anyAt, ↓fillVC, ↓guardVC, ↓loadVC, ↓opVC, ↓pickC, ↓pureVC, ↓reduceIte, ↓rowW_eq]
                    intro g_2
                    refine any_w _ _ _ _ _ _ _ _ _ _ _ _ ?_
                    simp only [putE]
                    refine any_step 5 [6] (by decide +kernel) ?_
                    refine ⟨?_, ?_, trivial⟩
                    · (unfold anyI)
                      simp (maxSteps := 10000000) (implicitDefEqProofs := false) only [AV.good, BitVec.ofNat_eq_ofNat, Bool.false_eq_true, Cells.get, Cells.len, Cells.rep, Cells.set, Int.cast_ofNat_Int, Int.reduceLE, Int.reduceLT, Int.reduceToNat, List.getElem?_cons_succ, List.getElem?_cons_zero, List.getElem?_toArray, List.length_cons, List.length_nil, List.map_cons, List.map_nil, List.replicate_succ, List.replicate_zero, List.set_cons_zero, Nat.add_zero, Nat.reduceAdd, Nat.reduceEqDiff, Nat.reduceLT, Nat.reduceLeDiff, Nat.zero_add, Option.getD_some, Option.map_some, TDsc.agg, absC, and_false, and_self, decide_true, dstB, ev, getA, hx, reduceCtorEq, true_and, tt, ↓anyAt, ↓fillVC, ↓guardVC, ↓loadVC, ↓opVC, ↓pickC, ↓pureVC, ↓reduceIte, ↓rowW_eq]
                      intro g_5
                      refine any_w _ _ _ _ _ _ _ _ _ _ _ _ ?_
                      simp only [putE]
                      refine any_step 6 [] (by decide +kernel) ?_
                      refine ⟨?_, trivial⟩
                      · (unfold anyI)
                        simp (maxSteps := 10000000) (implicitDefEqProofs := false) only [AV.good, BitVec.ofNat_eq_ofNat, Bool.false_eq_true, Cells.get, Cells.len, Cells.rep, Cells.set, Int.cast_ofNat_Int, Int.reduceLE, Int.reduceLT, Int.reduceToNat, List.getElem?_cons_succ, List.getElem?_cons_zero, List.getElem?_toArray, List.length_cons, List.length_nil, List.map_cons, List.map_nil, List.replicate_succ, List.replicate_zero, List.set_cons_zero, Nat.add_zero, Nat.reduceAdd, Nat.reduceEqDiff, Nat.reduceLT, Nat.reduceLeDiff, Nat.zero_add, Option.getD_some, Option.map_some, TDsc.agg, absC, and_false, and_self, decide_true, dstB, ev, getA, hx, reduceCtorEq, true_and, tt, ↓anyAt, ↓fillVC, ↓guardVC, ↓loadVC, ↓opVC, ↓pickC, ↓pureVC, ↓reduceIte, ↓rowW_eq]
                        refine any_w _ _ _ _ _ _ _ _ _ _ _ _ ?_
                        simp only [putE]
                        refine any_step 7 [] (by decide +kernel) ?_
                        refine ⟨?_, trivial⟩
                        · (unfold anyI)
                          simp (maxSteps := 10000000) (implicitDefEqProofs := false) only [AV.good, BitVec.ofNat_eq_ofNat, Bool.false_eq_true, Cells.get, Cells.len, Cells.rep, Cells.set, Int.cast_ofNat_Int, Int.reduceLE, Int.reduceLT, Int.reduceToNat, List.getElem?_cons_succ, List.getElem?_cons_zero, List.getElem?_toArray, List.length_cons, List.length_nil, List.map_cons, List.map_nil, List.replicate_succ, List.replicate_zero, List.set_cons_zero, Nat.add_zero, Nat.reduceAdd, Nat.reduceEqDiff, Nat.reduceLT, Nat.reduceLeDiff, Nat.zero_add, Option.getD_some, Option.map_some, TDsc.agg, absC, and_false, and_self, decide_true, dstB, ev, getA, hx, reduceCtorEq, true_and, tt, ↓anyAt, ↓fillVC, ↓guardVC, ↓loadVC, ↓opVC, ↓pickC, ↓pureVC, ↓reduceIte, ↓rowW_eq]
                          refine any_w _ _ _ _ _ _ _ _ _ _ _ _ ?_
                          simp only [putE]
                          (refine ⟨by decide +kernel, ?_⟩)
                          refine LeJ.roS 7 100 rfl rfl ⟨by simp [Cells.len], by simp, by simp [Cells.len]⟩ (LeJ.roS 8 101 rfl rfl ⟨by simp [Cells.len], by simp, by simp [Cells.len]⟩ ?_)
                          refine LeJ.mk (some ⟨g_2, 0, none⟩, 1, some ⟨g_5, 0, none⟩, 1) trivial ?_
                          simp (maxSteps := 1000000) only [leS, leA, stU_env, stU_mem, pickA, getA, delA, setA, Cells.part, Cells.len, List.take_nil, List.drop_nil, List.length_nil, Nat.zero_add, ↓reduceIte, Nat.reduceEqDiff, Option.some.injEq, List.nil_append, List.cons_append, true_and, and_true, and_self, reduceCtorEq, AV.int.injEq, ME.own.injEq, ME.row.injEq, Cells.c32.injEq, Cells.c64.injEq, Cells.c8.injEq, AV.ptr.injEq, AV.ros.injEq, AV.grow.injEq, AV.u64.injEq, AV.u32.injEq]
                          first | done | rfl | trivial | omega | exact ⟨rfl, rfl⟩
                    · (unfold anyI)
                      simp (maxSteps := 10000000) (implicitDefEqProofs := false) only [AV.good, BitVec.ofNat_eq_ofNat, Bool.false_eq_true, Cells.get, Cells.len, Cells.rep, Cells.set, Int.cast_ofNat_Int, Int.reduceLE, Int.reduceLT, Int.reduceToNat, List.getElem?_cons_succ, List.getElem?_cons_zero, List.getElem?_toArray, List.length_cons, List.length_nil, List.map_cons, List.map_nil, List.replicate_succ, List.replicate_zero, List.set_cons_zero, Nat.add_zero, Nat.reduceAdd, Nat.reduceEqDiff, Nat.reduceLT, Nat.reduceLeDiff, Nat.zero_add, Option.getD_some, Option.map_some, TDsc.agg, absC, and_false, and_self, decide_true, dstB, ev, getA, hx, reduceCtorEq, true_and, tt, ↓anyAt, ↓fillVC, ↓guardVC, ↓loadVC, ↓opVC, ↓pickC, ↓pureVC, ↓reduceIte, ↓rowW_eq]
                      refine any_w _ _ _ _ _ _ _ _ _ _ _ _ ?_
                      simp only [putE]
                      refine any_step 5 [] (by decide +kernel) ?_
                      refine ⟨?_, trivial⟩
                      · (unfold anyI)
                        simp (maxSteps := 10000000) (implicitDefEqProofs := false) only [AV.good, BitVec.ofNat_eq_ofNat, Bool.false_eq_true, Cells.get, Cells.len, Cells.rep, Cells.set, Int.cast_ofNat_Int, Int.reduceLE, Int.reduceLT, Int.reduceToNat, List.getElem?_cons_succ, List.getElem?_cons_zero, List.getElem?_toArray, List.length_cons, List.length_nil, List.map_cons, List.map_nil, List.replicate_succ, List.replicate_zero, List.set_cons_zero, Nat.add_zero, Nat.reduceAdd, Nat.reduceEqDiff, Nat.reduceLT, Nat.reduceLeDiff, Nat.zero_add, Option.getD_some, Option.map_some, TDsc.agg, absC, and_false, and_self, decide_true, dstB, ev, getA, hx, reduceCtorEq, true_and, tt, ↓anyAt, ↓fillVC, ↓guardVC, ↓loadVC, ↓opVC, ↓pickC, ↓pureVC, ↓reduceIte, ↓rowW_eq]
                        intro g_5
                        refine any_w _ _ _ _ _ _ _ _ _ _ _ _ ?_
                        simp only [putE]
                        refine any_step 7 [] (by decide +kernel) ?_
                        refine ⟨?_, trivial⟩
                        · (unfold anyI)
                          simp (maxSteps := 10000000) (implicitDefEqProofs := false) only [AV.good, BitVec.ofNat_eq_ofNat, Bool.false_eq_true, Cells.get, Cells.len, Cells.rep, Cells.set, Int.cast_ofNat_Int, Int.reduceLE, Int.reduceLT, Int.reduceToNat, List.getElem?_cons_succ, List.getElem?_cons_zero, List.getElem?_toArray, List.length_cons, List.length_nil, List.map_cons, List.map_nil, List.replicate_succ, List.replicate_zero, List.set_cons_zero, Nat.add_zero, Nat.reduceAdd, Nat.reduceEqDiff, Nat.reduceLT, Nat.reduceLeDiff, Nat.zero_add, Option.getD_some, Option.map_some, TDsc.agg, absC, and_false, and_self, decide_true, dstB, ev, getA, hx, reduceCtorEq, true_and, tt, ↓anyAt, ↓fillVC, ↓guardVC, ↓loadVC, ↓opVC, ↓pickC, ↓pureVC, ↓reduceIte, ↓rowW_eq]
                          refine any_w _ _ _ _ _ _ _ _ _ _ _ _ ?_
                          simp only [putE]
                          (refine ⟨by decide +kernel, ?_⟩)
                          refine LeJ.roS 7 100 rfl rfl ⟨by simp [Cells.len], by simp, by simp [Cells.len]⟩ (LeJ.roS 8 101 rfl rfl ⟨by simp [Cells.len], by simp, by simp [Cells.len]⟩ ?_)
                          refine LeJ.mk (some ⟨g_2, 0, none⟩, 1, some ⟨g_5, 0, none⟩, 1) trivial ?_
                          simp (maxSteps := 1000000) only [leS, leA, stU_env, stU_mem, pickA, getA, delA, setA, Cells.part, Cells.len, List.take_nil, List.drop_nil, List.length_nil, Nat.zero_add, ↓reduceIte, Nat.reduceEqDiff, Option.some.injEq, List.nil_append, List.cons_append, true_and, and_true, and_self, reduceCtorEq, AV.int.injEq, ME.own.injEq, ME.row.injEq, Cells.c32.injEq, Cells.c64.injEq, Cells.c8.injEq, AV.ptr.injEq, AV.ros.injEq, AV.grow.injEq, AV.u64.injEq, AV.u32.injEq]
                          first | done | rfl | trivial | omega | exact ⟨rfl, rfl⟩
                  · (unfold anyI)
                    simp (maxSteps := 10000000) (implicitDefEqProofs := false) only [AV.good, BitVec.ofNat_eq_ofNat, Bool.false_eq_true, Cells.get, Cells.len, Cells.rep, Cells.set, Int.cast_ofNat_Int, Int.reduceLE, Int.reduceLT, Int.reduceToNat, List.getElem?_cons_succ, List.getElem?_cons_zero, List.getElem?_toArray, List.length_cons, List.length_nil, List.map_cons, List.map_nil, List.replicate_succ, List.replicate_zero, List.set_cons_zero, Nat.add_zero, Nat.reduceAdd, Nat.reduceEqDiff, Nat.reduceLT, Nat.reduceLeDiff, Nat.zero_add, Option.getD_some, Option.map_some, TDsc.agg, absC, and_false, and_self, decide_true, dstB, ev, getA, hx, reduceCtorEq, true_and, tt, ↓anyAt, ↓fillVC, ↓guardVC, ↓loadVC, ↓opVC, ↓pickC, ↓pureVC, ↓reduceIte, ↓rowW_eq]
                    intro g_5
                    refine any_w _ _ _ _ _ _ _ _ _ _ _ _ ?_
                    simp only [putE]
                    refine any_step 2 [] (by decide +kernel) ?_
                    refine ⟨?_, trivial⟩
                    · (unfold anyI)
                      simp (maxSteps := 10000000) (implicitDefEqProofs := false) only [AV.good, BitVec.ofNat_eq_ofNat, Bool.false_eq_true, Cells.get, Cells.len, Cells.rep, Cells.set, Int.cast_ofNat_Int, Int.reduceLE, Int.reduceLT, Int.reduceToNat, List.getElem?_cons_succ, List.getElem?_cons_zero, List.getElem?_toArray, List.length_cons, List.length_nil, List.map_cons, List.map_nil, List.replicate_succ, List.replicate_zero, List.set_cons_zero, Nat.add_zero, Nat.reduceAdd, Nat.reduceEqDiff, Nat.reduceLT, Nat.reduceLeDiff, Nat.zero_add, Option.getD_some, Option.map_some, TDsc.agg, absC, and_false, and_self, decide_true, dstB, ev, getA, hx, reduceCtorEq, true_and, tt, ↓anyAt, ↓fillVC, ↓guardVC, ↓loadVC, ↓opVC, ↓pickC, ↓pureVC, ↓reduceIte, ↓rowW_eq]
                      intro g_2
                      refine any_w _ _ _ _ _ _ _ _ _ _ _ _ ?_
                      simp only [putE]
                      refine any_step 6 [] (by decide +kernel) ?_
                      refine ⟨?_, trivial⟩
                      · (unfold anyI)
                        simp (maxSteps := 10000000) (implicitDefEqProofs := false) only [AV.good, BitVec.ofNat_eq_ofNat, Bool.false_eq_true, Cells.get, Cells.len, Cells.rep, Cells.set, Int.cast_ofNat_Int, Int.reduceLE, Int.reduceLT, Int.reduceToNat, List.getElem?_cons_succ, List.getElem?_cons_zero, List.getElem?_toArray, List.length_cons, List.length_nil, List.map_cons, List.map_nil, List.replicate_succ, List.replicate_zero, List.set_cons_zero, Nat.add_zero, Nat.reduceAdd, Nat.reduceEqDiff, Nat.reduceLT, Nat.reduceLeDiff, Nat.zero_add, Option.getD_some, Option.map_some, TDsc.agg, absC, and_false, and_self, decide_true, dstB, ev, getA, hx, reduceCtorEq, true_and, tt, ↓anyAt, ↓fillVC, ↓guardVC, ↓loadVC, ↓opVC, ↓pickC, ↓pureVC, ↓reduceIte, ↓rowW_eq]
                        refine any_w _ _ _ _ _ _ _ _ _ _ _ _ ?_
                        simp only [putE]
                        refine any_step 7 [] (by decide +kernel) ?_
                        refine ⟨?_, trivial⟩
                        · (unfold anyI)
                          simp (maxSteps := 10000000) (implicitDefEqProofs := false) only [AV.good, BitVec.ofNat_eq_ofNat, Bool.false_eq_true, Cells.get, Cells.len, Cells.rep, Cells.set, Int.cast_ofNat_Int, Int.reduceLE, Int.reduceLT, Int.reduceToNat, List.getElem?_cons_succ, List.getElem?_cons_zero, List.getElem?_toArray, List.length_cons, List.length_nil, List.map_cons, List.map_nil, List.replicate_succ, List.replicate_zero, List.set_cons_zero, Nat.add_zero, Nat.reduceAdd, Nat.reduceEqDiff, Nat.reduceLT, Nat.reduceLeDiff, Nat.zero_add, Option.getD_some, Option.map_some, TDsc.agg, absC, and_false, and_self, decide_true, dstB, ev, getA, hx, reduceCtorEq, true_and, tt, ↓anyAt, ↓fillVC, ↓guardVC, ↓loadVC, ↓opVC, ↓pickC, ↓pureVC, ↓reduceIte, ↓rowW_eq]
                          refine any_w _ _ _ _ _ _ _ _ _ _ _ _ ?_
                          simp only [putE]
                          (refine ⟨by decide +kernel, ?_⟩)
                          refine LeJ.roS 7 100 rfl rfl ⟨by simp [Cells.len], by simp, by simp [Cells.len]⟩ (LeJ.roS 8 101 rfl rfl ⟨by simp [Cells.len], by simp, by simp [Cells.len]⟩ ?_)
                          refine LeJ.mk (some ⟨g_2, 0, none⟩, 1, some ⟨g_5, 0, none⟩, 1) trivial ?_
                          simp (maxSteps := 1000000) only [leS, leA, stU_env, stU_mem, pickA, getA, delA, setA, Cells.part, Cells.len, List.take_nil, List.drop_nil, List.length_nil, Nat.zero_add, ↓reduceIte, Nat.reduceEqDiff, Option.some.injEq, List.nil_append, List.cons_append, true_and, and_true, and_self, reduceCtorEq, AV.int.injEq, ME.own.injEq, ME.row.injEq, Cells.c32.injEq, Cells.c64.injEq, Cells.c8.injEq, AV.ptr.injEq, AV.ros.injEq, AV.grow.injEq, AV.u64.injEq, AV.u32.injEq]
                          first | done | rfl | trivial | omega | exact ⟨rfl, rfl⟩
                · (unfold anyI)
                  simp (maxSteps := 10000000) (implicitDefEqProofs := false) only [AV.good, BitVec.ofNat_eq_ofNat, Bool.false_eq_true, Cells.get, Cells.len, Cells.rep, Cells.set, Int.cast_ofNat_Int, Int.reduceLE, Int.reduceLT, Int.reduceToNat, List.getElem?_cons_succ, List.getElem?_cons_zero, List.getElem?_toArray, List.length_cons, List.length_nil, List.map_cons, List.map_nil, List.replicate_succ, List.replicate_zero, List.set_cons_zero, Nat.add_zero, Nat.reduceAdd, Nat.reduceEqDiff, Nat.reduceLT, Nat.reduceLeDiff, Nat.zero_add, Option.getD_some, Option.map_some, TDsc.agg, absC, and_false, and_self, decide_true, dstB, ev, getA, hx, reduceCtorEq, true_and, tt, ↓anyAt, ↓fillVC, ↓guardVC, ↓loadVC, ↓opVC, ↓pickC, ↓pureVC, ↓reduceIte, ↓rowW_eq]
                  intro g_5
                  refine any_w _ _ _ _ _ _ _ _ _ _ _ _ ?_
                  simp only [putE]
                  refine any_step 1 [] (by decide +kernel) ?_
                  refine ⟨?_, trivial⟩
                  · (unfold anyI)
                    simp (maxSteps := 10000000) (implicitDefEqProofs := false) only [AV.good, BitVec.ofNat_eq_ofNat, Bool.false_eq_true, Cells.get, Cells.len, Cells.rep, Cells.set, Int.cast_ofNat_Int, Int.reduceLE, Int.reduceLT, Int.reduceToNat, List.getElem?_cons_succ, List.getElem?_cons_zero, List.getElem?_toArray, List.length_cons, List.length_nil, List.map_cons, List.map_nil, List.replicate_succ, List.replicate_zero, List.set_cons_zero, Nat.add_zero, Nat.reduceAdd, Nat.reduceEqDiff, Nat.reduceLT, Nat.reduceLeDiff, Nat.zero_add, Option.getD_some, Option.map_some, TDsc.agg, absC, and_false, and_self, decide_true, dstB, ev, getA, hx, reduceCtorEq, true_and, tt, ↓anyAt, ↓fillVC, ↓guardVC, ↓loadVC, ↓opVC, ↓pickC, ↓pureVC, ↓reduceIte, ↓rowW_eq]
                    refine any_w _ _ _ _ _ _ _ _ _ _ _ _ ?_
                    simp only [putE]
                    refine any_step 2 [] (by decide +kernel) ?_
                    refine ⟨?_, trivial⟩
                    · (unfold anyI)
                      simp (maxSteps := 10000000) (implicitDefEqProofs := false) only [AV.good, BitVec.ofNat_eq_ofNat, Bool.false_eq_true, Cells.get, Cells.len, Cells.rep, Cells.set, Int.cast_ofNat_Int, Int.reduceLE, Int.reduceLT, Int.reduceToNat, List.getElem?_cons_succ, List.getElem?_cons_zero, List.getElem?_toArray, List.length_cons, List.length_nil, List.map_cons, List.map_nil, List.replicate_succ, List.replicate_zero, List.set_cons_zero, Nat.add_zero, Nat.reduceAdd, Nat.reduceEqDiff, Nat.reduceLT, Nat.reduceLeDiff, Nat.zero_add, Option.getD_some, Option.map_some, TDsc.agg, absC, and_false, and_self, decide_true, dstB, ev, getA, hx, reduceCtorEq, true_and, tt, ↓anyAt, ↓fillVC, ↓guardVC, ↓loadVC, ↓opVC, ↓pickC, ↓pureVC, ↓reduceIte, ↓rowW_eq]
                      intro g_2
                      refine any_w _ _ _ _ _ _ _ _ _ _ _ _ ?_
                      simp only [putE]
                      refine any_step 6 [] (by decide +kernel) ?_
                      refine ⟨?_, trivial⟩
                      · (unfold anyI)
                        simp (maxSteps := 10000000) (implicitDefEqProofs := false) only [AV.good, BitVec.ofNat_eq_ofNat, Bool.false_eq_true, Cells.get, Cells.len, Cells.rep, Cells.set, Int.cast_ofNat_Int, Int.reduceLE, Int.reduceLT, Int.reduceToNat, List.getElem?_cons_succ, List.getElem?_cons_zero, List.getElem?_toArray, List.length_cons, List.length_nil, List.map_cons, List.map_nil, List.replicate_succ, List.replicate_zero, List.set_cons_zero, Nat.add_zero, Nat.reduceAdd, Nat.reduceEqDiff, Nat.reduceLT, Nat.reduceLeDiff, Nat.zero_add, Option.getD_some, Option.map_some, TDsc.agg, absC, and_false, and_self, decide_true, dstB, ev, getA, hx, reduceCtorEq, true_and, tt, ↓anyAt, ↓fillVC, ↓guardVC, ↓loadVC, ↓opVC, ↓pickC, ↓pureVC, ↓reduceIte, ↓rowW_eq]
                        refine any_w _ _ _ _ _ _ _ _ _ _ _ _ ?_
                        simp only [putE]
                        refine any_step 7 [] (by decide +kernel) ?_
                        refine ⟨?_, trivial⟩
                        · (unfold anyI)
                          simp (maxSteps := 10000000) (implicitDefEqProofs := false) only [AV.good, BitVec.ofNat_eq_ofNat, Bool.false_eq_true, Cells.get, Cells.len, Cells.rep, Cells.set, Int.cast_ofNat_Int, Int.reduceLE, Int.reduceLT, Int.reduceToNat, List.getElem?_cons_succ, List.getElem?_cons_zero, List.getElem?_toArray, List.length_cons, List.length_nil, List.map_cons, List.map_nil, List.replicate_succ, List.replicate_zero, List.set_cons_zero, Nat.add_zero, Nat.reduceAdd, Nat.reduceEqDiff, Nat.reduceLT, Nat.reduceLeDiff, Nat.zero_add, Option.getD_some, Option.map_some, TDsc.agg, absC, and_false, and_self, decide_true, dstB, ev, getA, hx, reduceCtorEq, true_and, tt, ↓anyAt, ↓fillVC, ↓guardVC, ↓loadVC, ↓opVC, ↓pickC, ↓pureVC, ↓reduceIte, ↓rowW_eq]
                          refine any_w _ _ _ _ _ _ _ _ _ _ _ _ ?_
                          simp only [putE]
                          (refine ⟨by decide +kernel, ?_⟩)
                          refine LeJ.roS 7 100 rfl rfl ⟨by simp [Cells.len], by simp, by simp [Cells.len]⟩ (LeJ.roS 8 101 rfl rfl ⟨by simp [Cells.len], by simp, by simp [Cells.len]⟩ ?_)
                          refine LeJ.mk (some ⟨g_2, 0, none⟩, 1, some ⟨g_5, 0, none⟩, 1) trivial ?_
                          simp (maxSteps := 1000000) only [leS, leA, stU_env, stU_mem, pickA, getA, delA, setA, Cells.part, Cells.len, List.take_nil, List.drop_nil, List.length_nil, Nat.zero_add, ↓reduceIte, Nat.reduceEqDiff, Option.some.injEq, List.nil_append, List.cons_append, true_and, and_true, and_self, reduceCtorEq, AV.int.injEq, ME.own.injEq, ME.row.injEq, Cells.c32.injEq, Cells.c64.injEq, Cells.c8.injEq, AV.ptr.injEq, AV.ros.injEq, AV.grow.injEq, AV.u64.injEq, AV.u32.injEq]
                          first | done | rfl | trivial | omega | exact ⟨rfl, rfl⟩
          · (unfold anyI)
            simp (maxSteps := 10000000) (implicitDefEqProofs := false) only [AV.good, BitVec.ofNat_eq_ofNat, Bool.false_eq_true, Cells.get, Cells.len, Cells.rep, Cells.set, Int.cast_ofNat_Int, Int.reduceLE, Int.reduceLT, Int.reduceToNat, List.getElem?_cons_succ, List.getElem?_cons_zero, List.getElem?_toArray, List.length_cons, List.length_nil, List.map_cons, List.map_nil, List.replicate_succ, List.replicate_zero, List.set_cons_zero, Nat.add_zero, Nat.reduceAdd, Nat.reduceEqDiff, Nat.reduceLT, Nat.reduceLeDiff, Nat.zero_add, Option.getD_some, Option.map_some, TDsc.agg, absC, and_false, and_self, decide_true, dstB, ev, getA, hx, reduceCtorEq, true_and, tt, ↓anyAt, ↓fillVC, ↓guardVC, ↓loadVC, ↓opVC, ↓pickC, ↓pureVC, ↓reduceIte, ↓rowW_eq]
            refine any_w _ _ _ _ _ _ _ _ _ _ _ _ ?_
            simp only [putE]
            refine any_step 0 [4] (by decide +kernel) ?_
            refine ⟨?_, ?_, trivial⟩
            · (unfold anyI)
              simp (maxSteps := 10000000) (implicitDefEqProofs := false) only [AV.good, BitVec.ofNat_eq_ofNat, Bool.false_eq_true, Cells.get, Cells.len, Cells.rep, Cells.set, Int.cast_ofNat_Int, Int.reduceLE, Int.reduceLT, Int.reduceToNat, List.getElem?_cons_succ, List.getElem?_cons_zero, List.getElem?_toArray, List.length_cons, List.length_nil, List.map_cons, List.map_nil, List.replicate_succ, List.replicate_zero, List.set_cons_zero, Nat.add_zero, Nat.reduceAdd, Nat.reduceEqDiff, Nat.reduceLT, Nat.reduceLeDiff, Nat.zero_add, Option.getD_some, Option.map_some, TDsc.agg, absC, and_false, and_self, decide_true, dstB, ev, getA, hx, reduceCtorEq, true_and, tt, ↓anyAt, ↓fillVC, ↓guardVC, ↓loadVC, ↓opVC, ↓pickC, ↓pureVC, ↓reduceIte, ↓rowW_eq]
              refine any_w _ _ _ _ _ _ _ _ _ _ _ _ ?_
              simp only [putE]
              refine any_step 1 [4] (by decide +kernel) ?_
              refine ⟨?_, ?_, trivial⟩
              · (unfold anyI)
                simp (maxSteps := 10000000) (implicitDefEqProofs := false) only [AV.good, BitVec.ofNat_eq_ofNat, Bool.false_eq_true, Cells.get, Cells.len, Cells.rep, Cells.set, Int.cast_ofNat_Int, Int.reduceLE, Int.reduceLT, Int.reduceToNat, List.getElem?_cons_succ, List.getElem?_cons_zero, List.getElem?_toArray, List.length_cons, List.length_nil, List.map_cons, List.map_nil, List.replicate_succ, List.replicate_zero, List.set_cons_zero, Nat.add_zero, Nat.reduceAdd, Nat.reduceEqDiff, Nat.reduceLT, Nat.reduceLeDiff, Nat.zero_add, Option.getD_some, Option.map_some, TDsc.agg, absC, and_false, and_self, decide_true, dstB, ev, getA, hx, reduceCtorEq, true_and, tt, ↓anyAt, ↓fillVC, ↓guardVC, ↓loadVC, ↓opVC, ↓pickC, ↓pureVC, ↓reduceIte, ↓rowW_eq]
                refine any_w _ _ _ _ _ _ _ _ _ _ _ _ ?_
                simp only [putE]
                refine any_step 2 [4] (by decide +kernel) ?_
                refine ⟨?_, ?_, trivial⟩
                · (unfold anyI)
                  simp (maxSteps := 10000000) (implicitDefEqProofs := false) only [AV.good, BitVec.ofNat_eq_ofNat, Bool.false_eq_true, Cells.get, Cells.len, Cells.rep, Cells.set, Int.cast_ofNat_Int, Int.reduceLE, Int.reduceLT, Int.reduceToNat, List.getElem?_cons_succ, List.getElem?_cons_zero, List.getElem?_toArray, List.length_cons, List.length_nil, List.map_cons, List.map_nil, List.replicate_succ, List.replicate_zero, List.set_cons_zero, Nat.add_zero, Nat.reduceAdd, Nat.reduceEqDiff, Nat.reduceLT, Nat.reduceLeDiff, Nat.zero_add, Option.getD_some, Option.map_some, TDsc.agg, absC, and_false, and_self, decide_true, dstB, ev, getA, hx, reduceCtorEq, true_and, tt, ↓anyAt, ↓fillVC, ↓guardVC, ↓loadVC, ↓opVC, ↓pickC, ↓pureVC, ↓reduceIte, ↓rowW_eq]
                  intro g_2
                  refine any_w _ _ _ _ _ _ _ _ _ _ _ _ ?_
                  simp only [putE]
                  refine any_step 4 [6] (by decide +kernel) ?_
                  refine ⟨?_, ?_, trivial⟩
                  · (unfold anyI)
                    simp (maxSteps := 10000000) (implicitDefEqProofs := false) only [AV.good, BitVec.ofNat_eq_ofNat, Bool.false_eq_true, Cells.get, Cells.len, Cells.rep, Cells.set, Int.cast_ofNat_Int, Int.reduceLE, Int.reduceLT, Int.reduceToNat, List.getElem?_cons_succ, List.getElem?_cons_zero, List.getElem?_toArray, List.length_cons, List.length_nil, List.map_cons, List.map_nil, List.replicate_succ, List.replicate_zero, List.set_cons_zero, Nat.add_zero, Nat.reduceAdd, Nat.reduceEqDiff, Nat.reduceLT, Nat.reduceLeDiff, Nat.zero_add, Option.getD_some, Option.map_some, TDsc.agg, absC, and_false, and_self, decide_true, dstB, ev, getA, hx, reduceCtorEq, true_and, tt, ↓anyAt, ↓fillVC, ↓guardVC, ↓loadVC, ↓opVC, ↓pickC, ↓pureVC, ↓reduceIte, ↓rowW_eq]
                    refine any_w _ _ _ _ _ _ _ _ _ _ _ _ ?_
                    simp only [putE]
                    refine any_step 5 [6] (by decide +kernel) ?_
                    refine ⟨?_, ?_, trivial⟩
                    · (unfold anyI)
                      simp (maxSteps := 10000000) (implicitDefEqProofs := false) only [AV.good, BitVec.ofNat_eq_ofNat, Bool.false_eq_true, Cells.get, Cells.len, Cells.rep, Cells.set, Int.cast_ofNat_Int, Int.reduceLE, Int.reduceLT, Int.reduceToNat, List.getElem?_cons_succ, List.getElem?_cons_zero, List.getElem?_toArray, List.length_cons, List.length_nil, List.map_cons, List.map_nil, List.replicate_succ, List.replicate_zero, List.set_cons_zero, Nat.add_zero, Nat.reduceAdd, Nat.reduceEqDiff, Nat.reduceLT, Nat.reduceLeDiff, Nat.zero_add, Option.getD_some, Option.map_some, TDsc.agg, absC, and_false, and_self, decide_true, dstB, ev, getA, hx, reduceCtorEq, true_and, tt, ↓anyAt, ↓fillVC, ↓guardVC, ↓loadVC, ↓opVC, ↓pickC, ↓pureVC, ↓reduceIte, ↓rowW_eq]
                      intro g_5
                      refine any_w _ _ _ _ _ _ _ _ _ _ _ _ ?_
                      simp only [putE]
                      refine any_step 6 [] (by decide +kernel) ?_
                      refine ⟨?_, trivial⟩
                      · (unfold anyI)
                        simp (maxSteps := 10000000) (implicitDefEqProofs := false) only [AV.good, BitVec.ofNat_eq_ofNat, Bool.false_eq_true, Cells.get, Cells.len, Cells.rep, Cells.set, Int.cast_ofNat_Int, Int.reduceLE, Int.reduceLT, Int.reduceToNat, List.getElem?_cons_succ, List.getElem?_cons_zero, List.getElem?_toArray, List.length_cons, List.length_nil, List.map_cons, List.map_nil, List.replicate_succ, List.replicate_zero, List.set_cons_zero, Nat.add_zero, Nat.reduceAdd, Nat.reduceEqDiff, Nat.reduceLT, Nat.reduceLeDiff, Nat.zero_add, Option.getD_some, Option.map_some, TDsc.agg, absC, and_false, and_self, decide_true, dstB, ev, getA, hx, reduceCtorEq, true_and, tt, ↓anyAt, ↓fillVC, ↓guardVC, ↓loadVC, ↓opVC, ↓pickC, ↓pureVC, ↓reduceIte, ↓rowW_eq]
                        refine any_w _ _ _ _ _ _ _ _ _ _ _ _ ?_
                        simp only [putE]
                        refine any_step 7 [] (by decide +kernel) ?_
                        refine ⟨?_, trivial⟩
                        · (unfold anyI)
                          simp (maxSteps := 10000000) (implicitDefEqProofs := false) only [AV.good, BitVec.ofNat_eq_ofNat, Bool.false_eq_true, Cells.get, Cells.len, Cells.rep, Cells.set, Int.cast_ofNat_Int, Int.reduceLE, Int.reduceLT, Int.reduceToNat, List.getElem?_cons_succ, List.getElem?_cons_zero, List.getElem?_toArray, List.length_cons, List.length_nil, List.map_cons, List.map_nil, List.replicate_succ, List.replicate_zero, List.set_cons_zero, Nat.add_zero, Nat.reduceAdd, Nat.reduceEqDiff, Nat.reduceLT, Nat.reduceLeDiff, Nat.zero_add, Option.getD_some, Option.map_some, TDsc.agg, absC, and_false, and_self, decide_true, dstB, ev, getA, hx, reduceCtorEq, true_and, tt, ↓anyAt, ↓fillVC, ↓guardVC, ↓loadVC, ↓opVC, ↓pickC, ↓pureVC, ↓reduceIte, ↓rowW_eq]
                          refine any_w _ _ _ _ _ _ _ _ _ _ _ _ ?_
                          simp only [putE]
                          (refine ⟨by decide +kernel, ?_⟩)
                          refine LeJ.roS 7 100 rfl rfl ⟨by simp [Cells.len], by simp, by simp [Cells.len]⟩ (LeJ.roS 8 101 rfl rfl ⟨by simp [Cells.len], by simp, by simp [Cells.len]⟩ ?_)
                          refine LeJ.mk (some ⟨g_2, 0, none⟩, 1, some ⟨g_5, 0, none⟩, 1) trivial ?_
                          simp (maxSteps := 1000000) only [leS, leA, stU_env, stU_mem, pickA, getA, delA, setA, Cells.part, Cells.len, List.take_nil, List.drop_nil, List.length_nil, Nat.zero_add, ↓reduceIte, Nat.reduceEqDiff, Option.some.injEq, List.nil_append, List.cons_append, true_and, and_true, and_self, reduceCtorEq, AV.int.injEq, ME.own.injEq, ME.row.injEq, Cells.c32.injEq, Cells.c64.injEq, Cells.c8.injEq, AV.ptr.injEq, AV.ros.injEq, AV.grow.injEq, AV.u64.injEq, AV.u32.injEq]
                          first | done | rfl | trivial | omega | exact ⟨rfl, rfl⟩
                    · (unfold anyI)
                      simp (maxSteps := 10000000) (implicitDefEqProofs := false) only [AV.good, BitVec.ofNat_eq_ofNat, Bool.false_eq_true, Cells.get, Cells.len, Cells.rep, Cells.set, Int.cast_ofNat_Int, Int.reduceLE, Int.reduceLT, Int.reduceToNat, List.getElem?_cons_succ, List.getElem?_cons_zero, List.getElem?_toArray, List.length_cons, List.length_nil, List.map_cons, List.map_nil, List.replicate_succ, List.replicate_zero, List.set_cons_zero, Nat.add_zero, Nat.reduceAdd, Nat.reduceEqDiff, Nat.reduceLT, Nat.reduceLeDiff, Nat.zero_add, Option.getD_some, Option.map_some, TDsc.agg, absC, and_false, and_self, decide_true, dstB, ev, getA, hx, reduceCtorEq, true_and, tt, ↓anyAt, ↓fillVC, ↓guardVC, ↓loadVC, ↓opVC, ↓pickC, ↓pureVC, ↓reduceIte, ↓rowW_eq]
                      refine any_w _ _ _ _ _ _ _ _ _ _ _ _ ?_
                      simp only [putE]
                      refine any_step 5 [] (by decide +kernel) ?_
                      refine ⟨?_, trivial⟩
                      · (unfold anyI)
                        simp (maxSteps := 10000000) (implicitDefEqProofs := false) only [AV.good, BitVec.ofNat_eq_ofNat, Bool.false_eq_true, Cells.get, Cells.len, Cells.rep, Cells.set, Int.cast_ofNat_Int, Int.reduceLE, Int.reduceLT, Int.reduceToNat, List.getElem?_cons_succ, List.getElem?_cons_zero, List.getElem?_toArray, List.length_cons, List.length_nil, List.map_cons, List.map_nil, List.replicate_succ, List.replicate_zero, List.set_cons_zero, Nat.add_zero, Nat.reduceAdd, Nat.reduceEqDiff, Nat.reduceLT, Nat.reduceLeDiff, Nat.zero_add, Option.getD_some, Option.map_some, TDsc.agg, absC, and_false, and_self, decide_true, dstB, ev, getA, hx, reduceCtorEq, true_and, tt, ↓anyAt, ↓fillVC, ↓guardVC, ↓loadVC, ↓opVC, ↓pickC, ↓pureVC, ↓reduceIte, ↓rowW_eq]
                        intro g_5
                        refine any_w _ _ _ _ _ _ _ _ _ _ _ _ ?_
                        simp only [putE]
                        refine any_step 7 [] (by decide +kernel) ?_
                        refine ⟨?_, trivial⟩
                        · (unfold anyI)
                          simp (maxSteps := 10000000) (implicitDefEqProofs := false) only [AV.good, BitVec.ofNat_eq_ofNat, Bool.false_eq_true, Cells.get, Cells.len, Cells.rep, Cells.set, Int.cast_ofNat_Int, Int.reduceLE, Int.reduceLT, Int.reduceToNat, List.getElem?_cons_succ, List.getElem?_cons_zero, List.getElem?_toArray, List.length_cons, List.length_nil, List.map_cons, List.map_nil, List.replicate_succ, List.replicate_zero, List.set_cons_zero, Nat.add_zero, Nat.reduceAdd, Nat.reduceEqDiff, Nat.reduceLT, Nat.reduceLeDiff, Nat.zero_add, Option.getD_some, Option.map_some, TDsc.agg, absC, and_false, and_self, decide_true, dstB, ev, getA, hx, reduceCtorEq, true_and, tt, ↓anyAt, ↓fillVC, ↓guardVC, ↓loadVC, ↓opVC, ↓pickC, ↓pureVC, ↓reduceIte, ↓rowW_eq]
                          refine any_w _ _ _ _ _ _ _ _ _ _ _ _ ?_
                          simp only [putE]
                          (refine ⟨by decide +kernel, ?_⟩)
                          refine LeJ.roS 7 100 rfl rfl ⟨by simp [Cells.len], by simp, by simp [Cells.len]⟩ (LeJ.roS 8 101 rfl rfl ⟨by simp [Cells.len], by simp, by simp [Cells.len]⟩ ?_)
                          refine LeJ.mk (some ⟨g_2, 0, none⟩, 1, some ⟨g_5, 0, none⟩, 1) trivial ?_
                          simp (maxSteps := 1000000) only [leS, leA, stU_env, stU_mem, pickA, getA, delA, setA, Cells.part, Cells.len, List.take_nil, List.drop_nil, List.length_nil, Nat.zero_add, ↓reduceIte, Nat.reduceEqDiff, Option.some.injEq, List.nil_append, List.cons_append, true_and, and_true, and_self, reduceCtorEq, AV.int.injEq, ME.own.injEq, ME.row.injEq, Cells.c32.injEq, Cells.c64.injEq, Cells.c8.injEq, AV.ptr.injEq, AV.ros.injEq, AV.grow.injEq, AV.u64.injEq, AV.u32.injEq]
                          first | done | rfl | trivial | omega | exact ⟨rfl, rfl⟩
                  · (unfold anyI)
                    simp (maxSteps := 10000000) (implicitDefEqProofs := false) only [AV.good, BitVec.ofNat_eq_ofNat, Bool.false_eq_true, Cells.get, Cells.len, Cells.rep, Cells.set, Int.cast_ofNat_Int, Int.reduceLE, Int.reduceLT, Int.reduceToNat, List.getElem?_cons_succ, List.getElem?_cons_zero, List.getElem?_toArray, List.length_cons, List.length_nil, List.map_cons, List.map_nil, List.replicate_succ, List.replicate_zero, List.set_cons_zero, Nat.add_zero, Nat.reduceAdd, Nat.reduceEqDiff, Nat.reduceLT, Nat.reduceLeDiff, Nat.zero_add, Option.getD_some, Option.map_some, TDsc.agg, absC, and_false, and_self, decide_true, dstB, ev, getA, hx, reduceCtorEq, true_and, tt, ↓anyAt, ↓fillVC, ↓guardVC, ↓loadVC, ↓opVC, ↓pickC, ↓pureVC, ↓reduceIte, ↓rowW_eq]
                    refine any_w _ _ _ _ _ _ _ _ _ _ _ _ ?_
                    simp only [putE]
                    refine any_step 4 [] (by decide +kernel) ?_
                    refine ⟨?_, trivial⟩
                    · (unfold anyI)
                      simp (maxSteps := 10000000) (implicitDefEqProofs := false) only [AV.good, BitVec.ofNat_eq_ofNat, Bool.false_eq_true, Cells.get, Cells.len, Cells.rep, Cells.set, Int.cast_ofNat_Int, Int.reduceLE, Int.reduceLT, Int.reduceToNat, List.getElem?_cons_succ, List.getElem?_cons_zero, List.getElem?_toArray, List.length_cons, List.length_nil, List.map_cons, List.map_nil, List.replicate_succ, List.replicate_zero, List.set_cons_zero, Nat.add_zero, Nat.reduceAdd, Nat.reduceEqDiff, Nat.reduceLT, Nat.reduceLeDiff, Nat.zero_add, Option.getD_some, Option.map_some, TDsc.agg, absC, and_false, and_self, decide_true, dstB, ev, getA, hx, reduceCtorEq, true_and, tt, ↓anyAt, ↓fillVC, ↓guardVC, ↓loadVC, ↓opVC, ↓pickC, ↓pureVC, ↓reduceIte, ↓rowW_eq]
                      refine any_w _ _ _ _ _ _ _ _ _ _ _ _ ?_
                      simp only [putE]
                      refine any_step 5 [] (by decide +kernel) ?_
                      refine ⟨?_, trivial⟩
                      · (unfold anyI)
                        simp (maxSteps := 10000000) (implicitDefEqProofs := false) only [AV.good, BitVec.ofNat_eq_ofNat, Bool.false_eq_true, Cells.get, Cells.len, Cells.rep, Cells.set, Int.cast_ofNat_Int, Int.reduceLE, Int.reduceLT, Int.reduceToNat, List.getElem?_cons_succ, List.getElem?_cons_zero, List.getElem?_toArray, List.length_cons, List.length_nil, List.map_cons, List.map_nil, List.replicate_succ, List.replicate_zero, List.set_cons_zero, Nat.add_zero, Nat.reduceAdd, Nat.reduceEqDiff, Nat.reduceLT, Nat.reduceLeDiff, Nat.zero_add, Option.getD_some, Option.map_some, TDsc.agg, absC, and_false, and_self, decide_true, dstB, ev, getA, hx, reduceCtorEq, true_and, tt, ↓anyAt, ↓fillVC, ↓guardVC, ↓loadVC, ↓opVC, ↓pickC, ↓pureVC, ↓reduceIte, ↓rowW_eq]
                        intro g_5
                        refine any_w _ _ _ _ _ _ _ _ _ _ _ _ ?_
                        simp only [putE]
                        refine any_step 7 [] (by decide +kernel) ?_
                        refine ⟨?_, trivial⟩
                        · (unfold anyI)
                          simp (maxSteps := 10000000) (implicitDefEqProofs := false) only [AV.good, BitVec.ofNat_eq_ofNat, Bool.false_eq_true, Cells.get, Cells.len, Cells.rep, Cells.set, Int.cast_ofNat_Int, Int.reduceLE, Int.reduceLT, Int.reduceToNat, List.getElem?_cons_succ, List.getElem?_cons_zero, List.getElem?_toArray, List.length_cons, List.length_nil, List.map_cons, List.map_nil, List.replicate_succ, List.replicate_zero, List.set_cons_zero, Nat.add_zero, Nat.reduceAdd, Nat.reduceEqDiff, Nat.reduceLT, Nat.reduceLeDiff, Nat.zero_add, Option.getD_some, Option.map_some, TDsc.agg, absC, and_false, and_self, decide_true, dstB, ev, getA, hx, reduceCtorEq, true_and, tt, ↓anyAt, ↓fillVC, ↓guardVC, ↓loadVC, ↓opVC, ↓pickC, ↓pureVC, ↓reduceIte, ↓rowW_eq]
                          refine any_w _ _ _ _ _ _ _ _ _ _ _ _ ?_
                          simp only [putE]
                          (refine ⟨by decide +kernel, ?_⟩)
                          refine LeJ.roS 7 100 rfl rfl ⟨by simp [Cells.len], by simp, by simp [Cells.len]⟩ (LeJ.roS 8 101 rfl rfl ⟨by simp [Cells.len], by simp, by simp [Cells.len]⟩ ?_)
                          refine LeJ.mk (some ⟨g_2, 0, none⟩, 1, some ⟨g_5, 0, none⟩, 1) trivial ?_
                          simp (maxSteps := 1000000) only [leS, leA, stU_env, stU_mem, pickA, getA, delA, setA, Cells.part, Cells.len, List.take_nil, List.drop_nil, List.length_nil, Nat.zero_add, ↓reduceIte, Nat.reduceEqDiff, Option.some.injEq, List.nil_append, List.cons_append, true_and, and_true, and_self, reduceCtorEq, AV.int.injEq, ME.own.injEq, ME.row.injEq, Cells.c32.injEq, Cells.c64.injEq, Cells.c8.injEq, AV.ptr.injEq, AV.ros.injEq, AV.grow.injEq, AV.u64.injEq, AV.u32.injEq]
                          first | done | rfl | trivial | omega | exact ⟨rfl, rfl⟩
                · (unfold anyI)
                  simp (maxSteps := 10000000) (implicitDefEqProofs := false) only [AV.good, BitVec.ofNat_eq_ofNat, Bool.false_eq_true, Cells.get, Cells.len, Cells.rep, Cells.set, Int.cast_ofNat_Int, Int.reduceLE, Int.reduceLT, Int.reduceToNat, List.getElem?_cons_succ, List.getElem?_cons_zero, List.getElem?_toArray, List.length_cons, List.length_nil, List.map_cons, List.map_nil, List.replicate_succ, List.replicate_zero, List.set_cons_zero, Nat.add_zero, Nat.reduceAdd, Nat.reduceEqDiff, Nat.reduceLT, Nat.reduceLeDiff, Nat.zero_add, Option.getD_some, Option.map_some, TDsc.agg, absC, and_false, and_self, decide_true, dstB, ev, getA, hx, reduceCtorEq, true_and, tt, ↓anyAt, ↓fillVC, ↓guardVC, ↓loadVC, ↓opVC, ↓pickC, ↓pureVC, ↓reduceIte, ↓rowW_eq]
                  refine any_w _ _ _ _ _ _ _ _ _ _ _ _ ?_
                  simp only [putE]
                  refine any_step 2 [5] (by decide +kernel) ?_
                  refine ⟨?_, ?_, trivial⟩
                  · (unfold anyI)
                    simp (maxSteps := 10000000) (implicitDefEqProofs := false) only [AV.good, BitVec.ofNat_eq_ofNat, Bool.false_eq_true, Cells.get, Cells.len, Cells.rep, Cells.set, Int.cast_ofNat_Int, Int.reduceLE, Int.reduceLT, Int.reduceToNat, List.getElem?_cons_succ, List.getElem?_cons_zero, List.getElem?_toArray, List.length_cons, List.length_nil, List.map_cons, List.map_nil, List.replicate_succ, List.replicate_zero, List.set_cons_zero, Nat.add_zero, Nat.reduceAdd, Nat.reduceEqDiff, Nat.reduceLT, Nat.reduceLeDiff, Nat.zero_add, Option.getD_some, Option.map_some, TDsc.agg, absC, and_false, and_self, decide_true, dstB, ev, getA, hx, reduceCtorEq, true_and, tt, ↓anyAt, ↓fillVC, ↓guardVC, ↓loadVC, ↓opVC, ↓pickC, ↓pureVC, ↓reduceIte, ↓rowW_eq]
                    intro g_2
                    refine any_w _ _ _ _ _ _ _ _ _ _ _ _ ?_
                    simp only [putE]
                    refine any_step 5 [6] (by decide +kernel) ?_
                    refine ⟨?_, ?_, trivial⟩
                    · (unfold anyI)
                      simp (maxSteps := 10000000) (implicitDefEqProofs := false) only [AV.good, BitVec.ofNat_eq_ofNat, Bool.false_eq_true, Cells.get, Cells.len, Cells.rep, Cells.set, Int.cast_ofNat_Int, Int.reduceLE, Int.reduceLT, Int.reduceToNat, List.getElem?_cons_succ, List.getElem?_cons_zero, List.getElem?_toArray, List.length_cons, List.length_nil, List.map_cons, List.map_nil, List.replicate_succ, List.replicate_zero, List.set_cons_zero, Nat.add_zero, Nat.reduceAdd, Nat.reduceEqDiff, Nat.reduceLT, Nat.reduceLeDiff, Nat.zero_add, Option.getD_some, Option.map_some, TDsc.agg, absC, and_false, and_self, decide_true, dstB, ev, getA, hx, reduceCtorEq, true_and, tt, ↓anyAt, ↓fillVC, ↓guardVC, ↓loadVC, ↓opVC, ↓pickC, ↓pureVC, ↓reduceIte, ↓rowW_eq]
                      intro g_5
                      refine any_w _ _ _ _ _ _ _ _ _ _ _ _ ?_
                      simp only [putE]
                      refine any_step 6 [] (by decide +kernel) ?_
                      refine ⟨?_, trivial⟩
                      · (unfold anyI)
                        simp (maxSteps := 10000000) (implicitDefEqProofs := false) only [AV.good, BitVec.ofNat_eq_ofNat, Bool.false_eq_true, Cells.get, Cells.len, Cells.rep, Cells.set, Int.cast_ofNat_Int, Int.reduceLE, Int.reduceLT, Int.reduceToNat, List.getElem?_cons_succ, List.getElem?_cons_zero, List.getElem?_toArray, List.length_cons, List.length_nil, List.map_cons, List.map_nil, List.replicate_succ, List.replicate_zero, List.set_cons_zero, Nat.add_zero, Nat.reduceAdd, Nat.reduceEqDiff, Nat.reduceLT, Nat.reduceLeDiff, Nat.zero_add, Option.getD_some, Option.map_some, TDsc.agg, absC, and_false, and_self, decide_true, dstB, ev, getA, hx, reduceCtorEq, true_and, tt, ↓anyAt, ↓fillVC, ↓guardVC, ↓loadVC, ↓opVC, ↓pickC, ↓pureVC, ↓reduceIte, ↓rowW_eq]
                        refine any_w _ _ _ _ _ _ _ _ _ _ _ _ ?_
                        simp only [putE]
                        refine any_step 7 [] (by decide +kernel) ?_
                        refine ⟨?_, trivial⟩
                        · (unfold anyI)
                          simp (maxSteps := 10000000) (implicitDefEqProofs := false) only [AV.good, BitVec.ofNat_eq_ofNat, Bool.false_eq_true, Cells.get, Cells.len, Cells.rep, Cells.set, Int.cast_ofNat_Int, Int.reduceLE, Int.reduceLT, Int.reduceToNat, List.getElem?_cons_succ, List.getElem?_cons_zero, List.getElem?_toArray, List.length_cons, List.length_nil, List.map_cons, List.map_nil, List.replicate_succ, List.replicate_zero, List.set_cons_zero, Nat.add_zero, Nat.reduceAdd, Nat.reduceEqDiff, Nat.reduceLT, Nat.reduceLeDiff, Nat.zero_add, Option.getD_some, Option.map_some, TDsc.agg, absC, and_false, and_self, decide_true, dstB, ev, getA, hx, reduceCtorEq, true_and, tt, ↓anyAt, ↓fillVC, ↓guardVC, ↓loadVC, ↓opVC, ↓pickC, ↓pureVC, ↓reduceIte, ↓rowW_eq]
                          refine any_w _ _ _ _ _ _ _ _ _ _ _ _ ?_
                          simp only [putE]
                          (refine ⟨by decide +kernel, ?_⟩)
                          refine LeJ.roS 7 100 rfl rfl ⟨by simp [Cells.len], by simp, by simp [Cells.len]⟩ (LeJ.roS 8 101 rfl rfl ⟨by simp [Cells.len], by simp, by simp [Cells.len]⟩ ?_)
                          refine LeJ.mk (some ⟨g_2, 0, none⟩, 1, some ⟨g_5, 0, none⟩, 1) trivial ?_
                          simp (maxSteps := 1000000) only [leS, leA, stU_env, stU_mem, pickA, getA, delA, setA, Cells.part, Cells.len, List.take_nil, List.drop_nil, List.length_nil, Nat.zero_add, ↓reduceIte, Nat.reduceEqDiff, Option.some.injEq, List.nil_append, List.cons_append, true_and, and_true, and_self, reduceCtorEq, AV.int.injEq, ME.own.injEq, ME.row.injEq, Cells.c32.injEq, Cells.c64.injEq, Cells.c8.injEq, AV.ptr.injEq, AV.ros.injEq, AV.grow.injEq, AV.u64.injEq, AV.u32.injEq]
                          first | done | rfl | trivial | omega | exact ⟨rfl, rfl⟩
                    · (unfold anyI)
                      simp (maxSteps := 10000000) (implicitDefEqProofs := false) only [AV.good, BitVec.ofNat_eq_ofNat, Bool.false_eq_true, Cells.get, Cells.len, Cells.rep, Cells.set, Int.cast_ofNat_Int, Int.reduceLE, Int.reduceLT, Int.reduceToNat, List.getElem?_cons_succ, List.getElem?_cons_zero, List.getElem?_toArray, List.length_cons, List.length_nil, List.map_cons, List.map_nil, List.replicate_succ, List.replicate_zero, List.set_cons_zero, Nat.add_zero, Nat.reduceAdd, Nat.reduceEqDiff, Nat.reduceLT, Nat.reduceLeDiff, Nat.zero_add, Option.getD_some, Option.map_some, TDsc.agg, absC, and_false, and_self, decide_true, dstB, ev, getA, hx, reduceCtorEq, true_and, tt, ↓anyAt, ↓fillVC, ↓guardVC, ↓loadVC, ↓opVC, ↓pickC, ↓pureVC, ↓reduceIte, ↓rowW_eq]
                      refine any_w _ _ _ _ _ _ _ _ _ _ _ _ ?_
                      simp only [putE]
                      refine any_step 5 [] (by decide +kernel) ?_
                      refine ⟨?_, trivial⟩
                      · (unfold anyI)
                        simp (maxSteps := 10000000) (implicitDefEqProofs := false) only [AV.good, BitVec.ofNat_eq_ofNat, Bool.false_eq_true, Cells.get, Cells.len, Cells.rep, Cells.set, Int.cast_ofNat_Int, Int.reduceLE, Int.reduceLT, Int.reduceToNat, List.getElem?_cons_succ, List.getElem?_cons_zero, List.getElem?_toArray, List.length_cons, List.length_nil, List.map_cons, List.map_nil, List.replicate_succ, List.replicate_zero, List.set_cons_zero, Nat.add_zero, Nat.reduceAdd, Nat.reduceEqDiff, Nat.reduceLT, Nat.reduceLeDiff, Nat.zero_add, Option.getD_some, Option.map_some, TDsc.agg, absC, and_false, and_self, decide_true, dstB, ev, getA, hx, reduceCtorEq, true_and, tt, ↓anyAt, ↓fillVC, ↓guardVC, ↓loadVC, ↓opVC, ↓pickC, ↓pureVC, ↓reduceIte, ↓rowW_eq]
                        intro g_5
                        refine any_w _ _ _ _ _ _ _ _ _ _ _ _ ?_
                        simp only [putE]
                        refine any_step 7 [] (by decide +kernel) ?_
                        refine ⟨?_, trivial⟩
                        · (unfold anyI)
                          simp (maxSteps := 10000000) (implicitDefEqProofs := false) only [AV.good, BitVec.ofNat_eq_ofNat, Bool.false_eq_true, Cells.get, Cells.len, Cells.rep, Cells.set, Int.cast_ofNat_Int, Int.reduceLE, Int.reduceLT, Int.reduceToNat, List.getElem?_cons_succ, List.getElem?_cons_zero, List.getElem?_toArray, List.length_cons, List.length_nil, List.map_cons, List.map_nil, List.replicate_succ, List.replicate_zero, List.set_cons_zero, Nat.add_zero, Nat.reduceAdd, Nat.reduceEqDiff, Nat.reduceLT, Nat.reduceLeDiff, Nat.zero_add, Option.getD_some, Option.map_some, TDsc.agg, absC, and_false, and_self, decide_true, dstB, ev, getA, hx, reduceCtorEq, true_and, tt, ↓anyAt, ↓fillVC, ↓guardVC, ↓loadVC, ↓opVC, ↓pickC, ↓pureVC, ↓reduceIte, ↓rowW_eq]
                          refine any_w _ _ _ _ _ _ _ _ _ _ _ _ ?_
                          simp only [putE]
                          (refine ⟨by decide +kernel, ?_⟩)
                          refine LeJ.roS 7 100 rfl rfl ⟨by simp [Cells.len], by simp, by simp [Cells.len]⟩ (LeJ.roS 8 101 rfl rfl ⟨by simp [Cells.len], by simp, by simp [Cells.len]⟩ ?_)
                          refine LeJ.mk (some ⟨g_2, 0, none⟩, 1, some ⟨g_5, 0, none⟩, 1) trivial ?_
                          simp (maxSteps := 1000000) only [leS, leA, stU_env, stU_mem, pickA, getA, delA, setA, Cells.part, Cells.len, List.take_nil, List.drop_nil, List.length_nil, Nat.zero_add, ↓reduceIte, Nat.reduceEqDiff, Option.some.injEq, List.nil_append, List.cons_append, true_and, and_true, and_self, reduceCtorEq, AV.int.injEq, ME.own.injEq, ME.row.injEq, Cells.c32.injEq, Cells.c64.injEq, Cells.c8.injEq, AV.ptr.injEq, AV.ros.injEq, AV.grow.injEq, AV.u64.injEq, AV.u32.injEq]
                          first | done | rfl | trivial | omega | exact ⟨rfl, rfl⟩
                  · (unfold anyI)
                    simp (maxSteps := 10000000) (implicitDefEqProofs := false) only [AV.good, BitVec.ofNat_eq_ofNat, Bool.false_eq_true, Cells.get, Cells.len, Cells.rep, Cells.set, Int.cast_ofNat_Int, Int.reduceLE, Int.reduceLT, Int.reduceToNat, List.getElem?_cons_succ, List.getElem?_cons_zero, List.getElem?_toArray, List.length_cons, List.length_nil, List.map_cons, List.map_nil, List.replicate_succ, List.replicate_zero, List.set_cons_zero, Nat.add_zero, Nat.reduceAdd, Nat.reduceEqDiff, Nat.reduceLT, Nat.reduceLeDiff, Nat.zero_add, Option.getD_some, Option.map_some, TDsc.agg, absC, and_false, and_self, decide_true, dstB, ev, getA, hx, reduceCtorEq, true_and, tt, ↓anyAt, ↓fillVC, ↓guardVC, ↓loadVC, ↓opVC, ↓pickC, ↓pureVC, ↓reduceIte, ↓rowW_eq]
                    intro g_5
                    refine any_w _ _ _ _ _ _ _ _ _ _ _ _ ?_
                    simp only [putE]
                    refine any_step 2 [] (by decide +kernel) ?_
                    refine ⟨?_, trivial⟩
                    · (unfold anyI)
                      simp (maxSteps := 10000000) (implicitDefEqProofs := false) only [AV.good, BitVec.ofNat_eq_ofNat, Bool.false_eq_true, Cells.get, Cells.len, Cells.rep, Cells.set, Int.cast_ofNat_Int, Int.reduceLE, Int.reduceLT, Int.reduceToNat, List.getElem?_cons_succ, List.getElem?_cons_zero, List.getElem?_toArray, List.length_cons, List.length_nil, List.map_cons, List.map_nil, List.replicate_succ, List.replicate_zero, List.set_cons_zero, Nat.add_zero, Nat.reduceAdd, Nat.reduceEqDiff, Nat.reduceLT, Nat.reduceLeDiff, Nat.zero_add, Option.getD_some, Option.map_some, TDsc.agg, absC, and_false, and_self, decide_true, dstB, ev, getA, hx, reduceCtorEq, true_and, tt, ↓anyAt, ↓fillVC, ↓guardVC, ↓loadVC, ↓opVC, ↓pickC, ↓pureVC, ↓reduceIte, ↓rowW_eq]
                      intro g_2
                      refine any_w _ _ _ _ _ _ _ _ _ _ _ _ ?_
                      simp only [putE]
                      refine any_step 6 [] (by decide +kernel) ?_
                      refine ⟨?_, trivial⟩
                      · (unfold anyI)
                        simp (maxSteps := 10000000) (implicitDefEqProofs := false) only [AV.good, BitVec.ofNat_eq_ofNat, Bool.false_eq_true, Cells.get, Cells.len, Cells.rep, Cells.set, Int.cast_ofNat_Int, Int.reduceLE, Int.reduceLT, Int.reduceToNat, List.getElem?_cons_succ, List.getElem?_cons_zero, List.getElem?_toArray, List.length_cons, List.length_nil, List.map_cons, List.map_nil, List.replicate_succ, List.replicate_zero, List.set_cons_zero, Nat.add_zero, Nat.reduceAdd, Nat.reduceEqDiff, Nat.reduceLT, Nat.reduceLeDiff, Nat.zero_add, Option.getD_some, Option.map_some, TDsc.agg, absC, and_false, and_self, decide_true, dstB, ev, getA, hx, reduceCtorEq, true_and, tt, ↓anyAt, ↓fillVC, ↓guardVC, ↓loadVC, ↓opVC, ↓pickC, ↓pureVC, ↓reduceIte, ↓rowW_eq]
                        refine any_w _ _ _ _ _ _ _ _ _ _ _ _ ?_
                        simp only [putE]
                        refine any_step 7 [] (by decide +kernel) ?_
                        refine ⟨?_, trivial⟩
                        · (unfold anyI)
                          simp (maxSteps := 10000000) (implicitDefEqProofs := false) only [AV.good, BitVec.ofNat_eq_ofNat, Bool.false_eq_true, Cells.get, Cells.len, Cells.rep, Cells.set, Int.cast_ofNat_Int, Int.reduceLE, Int.reduceLT, Int.reduceToNat, List.getElem?_cons_succ, List.getElem?_cons_zero, List.getElem?_toArray, List.length_cons, List.length_nil, List.map_cons, List.map_nil, List.replicate_succ, List.replicate_zero, List.set_cons_zero, Nat.add_zero, Nat.reduceAdd, Nat.reduceEqDiff, Nat.reduceLT, Nat.reduceLeDiff, Nat.zero_add, Option.getD_some, Option.map_some, TDsc.agg, absC, and_false, and_self, decide_true, dstB, ev, getA, hx, reduceCtorEq, true_and, tt, ↓anyAt, ↓fillVC, ↓guardVC, ↓loadVC, ↓opVC, ↓pickC, ↓pureVC, ↓reduceIte, ↓rowW_eq]
                          refine any_w _ _ _ _ _ _ _ _ _ _ _ _ ?_
                          simp only [putE]
                          (refine ⟨by decide +kernel, ?_⟩)
                          refine LeJ.roS 7 100 rfl rfl ⟨by simp [Cells.len], by simp, by simp [Cells.len]⟩ (LeJ.roS 8 101 rfl rfl ⟨by simp [Cells.len], by simp, by simp [Cells.len]⟩ ?_)
                          refine LeJ.mk (some ⟨g_2, 0, none⟩, 1, some ⟨g_5, 0, none⟩, 1) trivial ?_
                          simp (maxSteps := 1000000) only [leS, leA, stU_env, stU_mem, pickA, getA, delA, setA, Cells.part, Cells.len, List.take_nil, List.drop_nil, List.length_nil, Nat.zero_add, ↓reduceIte, Nat.reduceEqDiff, Option.some.injEq, List.nil_append, List.cons_append, true_and, and_true, and_self, reduceCtorEq, AV.int.injEq, ME.own.injEq, ME.row.injEq, Cells.c32.injEq, Cells.c64.injEq, Cells.c8.injEq, AV.ptr.injEq, AV.ros.injEq, AV.grow.injEq, AV.u64.injEq, AV.u32.injEq]
                          first | done | rfl | trivial | omega | exact ⟨rfl, rfl⟩
              · (unfold anyI)
                simp (maxSteps := 10000000) (implicitDefEqProofs := false) only [AV.good, BitVec.ofNat_eq_ofNat, Bool.false_eq_true, Cells.get, Cells.len, Cells.rep, Cells.set, Int.cast_ofNat_Int, Int.reduceLE, Int.reduceLT, Int.reduceToNat, List.getElem?_cons_succ, List.getElem?_cons_zero, List.getElem?_toArray, List.length_cons, List.length_nil, List.map_cons, List.map_nil, List.replicate_succ, List.replicate_zero, List.set_cons_zero, Nat.add_zero, Nat.reduceAdd, Nat.reduceEqDiff, Nat.reduceLT, Nat.reduceLeDiff, Nat.zero_add, Option.getD_some, Option.map_some, TDsc.agg, absC, and_false, and_self, decide_true, dstB, ev, getA, hx, reduceCtorEq, true_and, tt, ↓anyAt, ↓fillVC, ↓guardVC, ↓loadVC, ↓opVC, ↓pickC, ↓pureVC, ↓reduceIte, ↓rowW_eq]
                refine any_w _ _ _ _ _ _ _ _ _ _ _ _ ?_
                simp only [putE]
                refine any_step 1 [5] (by decide +kernel) ?_
                refine ⟨?_, ?_, trivial⟩
                · (unfold anyI)
                  simp (maxSteps := 10000000) (implicitDefEqProofs := false) only [AV.good, BitVec.ofNat_eq_ofNat, Bool.false_eq_true, Cells.get, Cells.len, Cells.rep, Cells.set, Int.cast_ofNat_Int, Int.reduceLE, Int.reduceLT, Int.reduceToNat, List.getElem?_cons_succ, List.getElem?_cons_zero, List.getElem?_toArray, List.length_cons, List.length_nil, List.map_cons, List.map_nil, List.replicate_succ, List.replicate_zero, List.set_cons_zero, Nat.add_zero, Nat.reduceAdd, Nat.reduceEqDiff, Nat.reduceLT, Nat.reduceLeDiff, Nat.zero_add, Option.getD_some, Option.map_some, TDsc.agg, absC, and_false, and_self, decide_true, dstB, ev, getA, hx, reduceCtorEq, true_and, tt, ↓anyAt, ↓fillVC, ↓guardVC, ↓loadVC, ↓opVC, ↓pickC, ↓pureVC, ↓reduceIte, ↓rowW_eq]
                  refine any_w _ _ _ _ _ _ _ _ _ _ _ _ ?_
                  simp only [putE]
                  refine any_step 2 [5] (by decide +kernel) ?_
                  refine ⟨?_, ?_, trivial⟩
                  · (unfold anyI)
                    simp (maxSteps := 10000000) (implicitDefEqProofs := false) only [AV.good, BitVec.ofNat_eq_ofNat, Bool.false_eq_true, Cells.get, Cells.len, Cells.rep, Cells.set, Int.cast_ofNat_Int, Int.reduceLE, Int.reduceLT, Int.reduceToNat, List.getElem?_cons_succ, List.getElem?_cons_zero, List.getElem?_toArray, List.length_cons, List.length_nil, List.map_cons, List.map_nil, List.replicate_succ, List.replicate_zero, List.set_cons_zero, Nat.add_zero, Nat.reduceAdd, Nat.reduceEqDiff, Nat.reduceLT, Nat.reduceLeDiff, Nat.zero_add, Option.getD_some, Option.map_some, TDsc.agg, absC, and_false, and_self, decide_true, dstB, ev, getA, hx, reduceCtorEq, true_and, tt, ↓anyAt, ↓fillVC, ↓guardVC, ↓loadVC, ↓opVC, ↓pickC, ↓pureVC, ↓reduceIte, ↓rowW_eq]
                    intro g_2
                    refine any_w _ _ _ _ _ _ _ _ _ _ _ _ ?_
                    simp only [putE]
                    refine any_step 5 [6] (by decide +kernel) ?_
                    refine ⟨?_, ?_, trivial⟩
                    · (unfold anyI)
                      simp (maxSteps := 10000000) (implicitDefEqProofs := false) only [AV.good, BitVec.ofNat_eq_ofNat, Bool.false_eq_true, Cells.get, Cells.len, Cells.rep, Cells.set, Int.cast_ofNat_Int, Int.reduceLE, Int.reduceLT, Int.reduceToNat, List.getElem?_cons_succ, List.getElem?_cons_zero, List.getElem?_toArray, List.length_cons, List.length_nil, List.map_cons, List.map_nil, List.replicate_succ, List.replicate_zero, List.set_cons_zero, Nat.add_zero, Nat.reduceAdd, Nat.reduceEqDiff, Nat.reduceLT, Nat.reduceLeDiff, Nat.zero_add, Option.getD_some, Option.map_some, TDsc.agg, absC, and_false, and_self, decide_true, dstB, ev, getA, hx, reduceCtorEq, true_and, tt, ↓anyAt, ↓fillVC, ↓guardVC, ↓loadVC, ↓opVC, ↓pickC, ↓pureVC, ↓reduceIte, ↓rowW_eq]
                      intro g_5
                      refine any_w _ _ _ _ _ _ _ _ _ _ _ _ ?_
                      simp only [putE]
                      refine any_step 6 [] (by decide +kernel) ?_
                      refine ⟨?_, trivial⟩
                      · (unfold anyI)
                        simp (maxSteps := 10000000) (implicitDefEqProofs := false) only [AV.good, BitVec.ofNat_eq_ofNat, Bool.false_eq_true, Cells.get, Cells.len, Cells.rep, Cells.set, Int.cast_ofNat_Int, Int.reduceLE, Int.reduceLT, Int.reduceToNat, List.getElem?_cons_succ, List.getElem?_cons_zero, List.getElem?_toArray, List.length_cons, List.length_nil, List.map_cons, List.map_nil, List.replicate_succ, List.replicate_zero, List.set_cons_zero, Nat.add_zero, Nat.reduceAdd, Nat.reduceEqDiff, Nat.reduceLT, Nat.reduceLeDiff, Nat.zero_add, Option.getD_some, Option.map_some, TDsc.agg, absC, and_false, and_self, decide_true, dstB, ev, getA, hx, reduceCtorEq, true_and, tt, ↓anyAt, ↓fillVC, ↓guardVC, ↓loadVC, ↓opVC, ↓pickC, ↓pureVC, ↓reduceIte, ↓rowW_eq]
                        refine any_w _ _ _ _ _ _ _ _ _ _ _ _ ?_
                        simp only [putE]
                        refine any_step 7 [] (by decide +kernel) ?_
                        refine ⟨?_, trivial⟩
                        · (unfold anyI)
                          simp (maxSteps := 10000000) (implicitDefEqProofs := false) only [AV.good, BitVec.ofNat_eq_ofNat, Bool.false_eq_true, Cells.get, Cells.len, Cells.rep, Cells.set, Int.cast_ofNat_Int, Int.reduceLE, Int.reduceLT, Int.reduceToNat, List.getElem?_cons_succ, List.getElem?_cons_zero, List.getElem?_toArray, List.length_cons, List.length_nil, List.map_cons, List.map_nil, List.replicate_succ, List.replicate_zero, List.set_cons_zero, Nat.add_zero, Nat.reduceAdd, Nat.reduceEqDiff, Nat.reduceLT, Nat.reduceLeDiff, Nat.zero_add, Option.getD_some, Option.map_some, TDsc.agg, absC, and_false, and_self, decide_true, dstB, ev, getA, hx, reduceCtorEq, true_and, tt, ↓anyAt, ↓fillVC, ↓guardVC, ↓loadVC, ↓opVC, ↓pickC, ↓pureVC, ↓reduceIte, ↓rowW_eq]
                          refine any_w _ _ _ _ _ _ _ _ _ _ _ _ ?_
                          simp only [putE]
                          (refine ⟨by decide +kernel, ?_⟩)
                          refine LeJ.roS 7 100 rfl rfl ⟨by simp [Cells.len], by simp, by simp [Cells.len]⟩ (LeJ.roS 8 101 rfl rfl ⟨by simp [Cells.len], by simp, by simp [Cells.len]⟩ ?_)
                          refine LeJ.mk (some ⟨g_2, 0, none⟩, 1, some ⟨g_5, 0, none⟩, 1) trivial ?_
                          simp (maxSteps := 1000000) only [leS, leA, stU_env, stU_mem, pickA, getA, delA, setA, Cells.part, Cells.len, List.take_nil, List.drop_nil, List.length_nil, Nat.zero_add, ↓reduceIte, Nat.reduceEqDiff, Option.some.injEq, List.nil_append, List.cons_append, true_and, and_true, and_self, reduceCtorEq, AV.int.injEq, ME.own.injEq, ME.row.injEq, Cells.c32.injEq, Cells.c64.injEq, Cells.c8.injEq, AV.ptr.injEq, AV.ros.injEq, AV.grow.injEq, AV.u64.injEq, AV.u32.injEq]
                          first | done | rfl | trivial | omega | exact ⟨rfl, rfl⟩
                    · (unfold anyI)
                      simp (maxSteps := 10000000) (implicitDefEqProofs := false) only [AV.good, BitVec.ofNat_eq_ofNat, Bool.false_eq_true, Cells.get, Cells.len, Cells.rep, Cells.set, Int.cast_ofNat_Int, Int.reduceLE, Int.reduceLT, Int.reduceToNat, List.getElem?_cons_succ, List.getElem?_cons_zero, List.getElem?_toArray, List.length_cons, List.length_nil, List.map_cons, List.map_nil, List.replicate_succ, List.replicate_zero, List.set_cons_zero, Nat.add_zero, Nat.reduceAdd, Nat.reduceEqDiff, Nat.reduceLT, Nat.reduceLeDiff, Nat.zero_add, Option.getD_some, Option.map_some, TDsc.agg, absC, and_false, and_self, decide_true, dstB, ev, getA, hx, reduceCtorEq, true_and, tt, ↓anyAt, ↓fillVC, ↓guardVC, ↓loadVC, ↓opVC, ↓pickC, ↓pureVC, ↓reduceIte, ↓rowW_eq]
                      refine any_w _ _ _ _ _ _ _ _ _ _ _ _ ?_
                      simp only [putE]
                      refine any_step 5 [] (by decide +kernel) ?_
                      refine ⟨?_, trivial⟩
                      · (unfold anyI)
                        simp (maxSteps := 10000000) (implicitDefEqProofs := false) only [AV.good, BitVec.ofNat_eq_ofNat, Bool.false_eq_true, Cells.get, Cells.len, Cells.rep, Cells.set, Int.cast_ofNat_Int, Int.reduceLE, Int.reduceLT, Int.reduceToNat, List.getElem?_cons_succ, List.getElem?_cons_zero, List.getElem?_toArray, List.length_cons, List.length_nil, List.map_cons, List.map_nil, List.replicate_succ, List.replicate_zero, List.set_cons_zero, Nat.add_zero, Nat.reduceAdd, Nat.reduceEqDiff, Nat.reduceLT, Nat.reduceLeDiff, Nat.zero_add, Option.getD_some, Option.map_some, TDsc.agg, absC, and_false, and_self, decide_true, dstB, ev, getA, hx, reduceCtorEq, true_and, tt, ↓anyAt, ↓fillVC, ↓guardVC, ↓loadVC, ↓opVC, ↓pickC, ↓pureVC, ↓reduceIte, ↓rowW_eq]
                        intro g_5
                        refine any_w _ _ _ _ _ _ _ _ _ _ _ _ ?_
                        simp only [putE]
                        refine any_step 7 [] (by decide +kernel) ?_
                        refine ⟨?_, trivial⟩
                        · (unfold anyI)
                          simp (maxSteps := 10000000) (implicitDefEqProofs := false) only [AV.good, BitVec.ofNat_eq_ofNat, Bool.false_eq_true, Cells.get, Cells.len, Cells.rep, Cells.set, Int.cast_ofNat_Int, Int.reduceLE, Int.reduceLT, Int.reduceToNat, List.getElem?_cons_succ, List.getElem?_cons_zero, List.getElem?_toArray, List.length_cons, List.length_nil, List.map_cons, List.map_nil, List.replicate_succ, List.replicate_zero, List.set_cons_zero, Nat.add_zero, Nat.reduceAdd, Nat.reduceEqDiff, Nat.reduceLT, Nat.reduceLeDiff, Nat.zero_add, Option.getD_some, Option.map_some, TDsc.agg, absC, and_false, and_self, decide_true, dstB, ev, getA, hx, reduceCtorEq, true_and, tt, ↓anyAt, ↓fillVC, ↓guardVC, ↓loadVC, ↓opVC, ↓pickC, ↓pureVC, ↓reduceIte, ↓rowW_eq]
                          refine any_w _ _ _ _ _ _ _ _ _ _ _ _ ?_
                          simp only [putE]
                          (refine ⟨by decide +kernel, ?_⟩)
                          refine LeJ.roS 7 100 rfl rfl ⟨by simp [Cells.len], by simp, by simp [Cells.len]⟩ (LeJ.roS 8 101 rfl rfl ⟨by simp [Cells.len], by simp, by simp [Cells.len]⟩ ?_)
                          refine LeJ.mk (some ⟨g_2, 0, none⟩, 1, some ⟨g_5, 0, none⟩, 1) trivial ?_
                          simp (maxSteps := 1000000) only [leS, leA, stU_env, stU_mem, pickA, getA, delA, setA, Cells.part, Cells.len, List.take_nil, List.drop_nil, List.length_nil, Nat.zero_add, ↓reduceIte, Nat.reduceEqDiff, Option.some.injEq, List.nil_append, List.cons_append, true_and, and_true, and_self, reduceCtorEq, AV.int.injEq, ME.own.injEq, ME.row.injEq, Cells.c32.injEq, Cells.c64.injEq, Cells.c8.injEq, AV.ptr.injEq, AV.ros.injEq, AV.grow.injEq, AV.u64.injEq, AV.u32.injEq]
                          first | done | rfl | trivial | omega | exact ⟨rfl, rfl⟩
                  · (unfold anyI)
                    simp (maxSteps := 10000000) (implicitDefEqProofs := false) only [AV.good, BitVec.ofNat_eq_ofNat, Bool.false_eq_true, Cells.get, Cells.len, Cells.rep, Cells.set, Int.cast_ofNat_Int, Int.reduceLE, Int.reduceLT, Int.reduceToNat, List.getElem?_cons_succ, List.getElem?_cons_zero, List.getElem?_toArray, List.length_cons, List.length_nil, List.map_cons, List.map_nil, List.replicate_succ, List.replicate_zero, List.set_cons_zero, Nat.add_zero, Nat.reduceAdd, Nat.reduceEqDiff, Nat.reduceLT, Nat.reduceLeDiff, Nat.zero_add, Option.getD_some, Option.map_some, TDsc.agg, absC, and_false, and_self, decide_true, dstB, ev, getA, hx, reduceCtorEq, true_and, tt, ↓anyAt, ↓fillVC, ↓guardVC, ↓loadVC, ↓opVC, ↓pickC, ↓pureVC, ↓reduceIte, ↓rowW_eq]
                    intro g_5
                    refine any_w _ _ _ _ _ _ _ _ _ _ _ _ ?_
                    simp only [putE]
                    refine any_step 2 [] (by decide +kernel) ?_
                    refine ⟨?_, trivial⟩
                    · (unfold anyI)
                      simp (maxSteps := 10000000) (implicitDefEqProofs := false) only [AV.good, BitVec.ofNat_eq_ofNat, Bool.false_eq_true, Cells.get, Cells.len, Cells.rep, Cells.set, Int.cast_ofNat_Int, Int.reduceLE, Int.reduceLT, Int.reduceToNat, List.getElem?_cons_succ, List.getElem?_cons_zero, List.getElem?_toArray, List.length_cons, List.length_nil, List.map_cons, List.map_nil, List.replicate_succ, List.replicate_zero, List.set_cons_zero, Nat.add_zero, Nat.reduceAdd, Nat.reduceEqDiff, Nat.reduceLT, Nat.reduceLeDiff, Nat.zero_add, Option.getD_some, Option.map_some, TDsc.agg, absC, and_false, and_self, decide_true, dstB, ev, getA, hx, reduceCtorEq, true_and, tt, ↓anyAt, ↓fillVC, ↓guardVC, ↓loadVC, ↓opVC, ↓pickC, ↓pureVC, ↓reduceIte, ↓rowW_eq]
                      intro g_2
                      refine any_w _ _ _ _ _ _ _ _ _ _ _ _ ?_
                      simp only [putE]
                      refine any_step 6 [] (by decide +kernel) ?_
                      refine ⟨?_, trivial⟩
                      · (unfold anyI)
                        simp (maxSteps := 10000000) (implicitDefEqProofs := false) only [AV.good, BitVec.ofNat_eq_ofNat, Bool.false_eq_true, Cells.get, Cells.len, Cells.rep, Cells.set, Int.cast_ofNat_Int, Int.reduceLE, Int.reduceLT, Int.reduceToNat, List.getElem?_cons_succ, List.getElem?_cons_zero, List.getElem?_toArray, List.length_cons, List.length_nil, List.map_cons, List.map_nil, List.replicate_succ, List.replicate_zero, List.set_cons_zero, Nat.add_zero, Nat.reduceAdd, Nat.reduceEqDiff, Nat.reduceLT, Nat.reduceLeDiff, Nat.zero_add, Option.getD_some, Option.map_some, TDsc.agg, absC, and_false, and_self, decide_true, dstB, ev, getA, hx, reduceCtorEq, true_and, tt, ↓anyAt, ↓fillVC, ↓guardVC, ↓loadVC, ↓opVC, ↓pickC, ↓pureVC, ↓reduceIte, ↓rowW_eq]
                        refine any_w _ _ _ _ _ _ _ _ _ _ _ _ ?_
                        simp only [putE]
                        refine any_step 7 [] (by decide +kernel) ?_
                        refine ⟨?_, trivial⟩
                        · (unfold anyI)
                          simp (maxSteps := 10000000) (implicitDefEqProofs := false) only [AV.good, BitVec.ofNat_eq_ofNat, Bool.false_eq_true, Cells.get, Cells.len, Cells.rep, Cells.set, Int.cast_ofNat_Int, Int.reduceLE, Int.reduceLT, Int.reduceToNat, List.getElem?_cons_succ, List.getElem?_cons_zero, List.getElem?_toArray, List.length_cons, List.length_nil, List.map_cons, List.map_nil, List.replicate_succ, List.replicate_zero, List.set_cons_zero, Nat.add_zero, Nat.reduceAdd, Nat.reduceEqDiff, Nat.reduceLT, Nat.reduceLeDiff, Nat.zero_add, Option.getD_some, Option.map_some, TDsc.agg, absC, and_false, and_self, decide_true, dstB, ev, getA, hx, reduceCtorEq, true_and, tt, ↓anyAt, ↓fillVC, ↓guardVC, ↓loadVC, ↓opVC, ↓pickC, ↓pureVC, ↓reduceIte, ↓rowW_eq]
                          refine any_w _ _ _ _ _ _ _ _ _ _ _ _ ?_
                          simp only [putE]
                          (refine ⟨by decide +kernel, ?_⟩)
                          refine LeJ.roS 7 100 rfl rfl ⟨by simp [Cells.len], by simp, by simp [Cells.len]⟩ (LeJ.roS 8 101 rfl rfl ⟨by simp [Cells.len], by simp, by simp [Cells.len]⟩ ?_)
                          refine LeJ.mk (some ⟨g_2, 0, none⟩, 1, some ⟨g_5, 0, none⟩, 1) trivial ?_
                          simp (maxSteps := 1000000) only [leS, leA, stU_env, stU_mem, pickA, getA, delA, setA, Cells.part, Cells.len, List.take_nil, List.drop_nil, List.length_nil, Nat.zero_add, ↓reduceIte, Nat.reduceEqDiff, Option.some.injEq, List.nil_append, List.cons_append, true_and, and_true, and_self, reduceCtorEq, AV.int.injEq, ME.own.injEq, ME.row.injEq, Cells.c32.injEq, Cells.c64.injEq, Cells.c8.injEq, AV.ptr.injEq, AV.ros.injEq, AV.grow.injEq, AV.u64.injEq, AV.u32.injEq]
                          first | done | rfl | trivial | omega | exact ⟨rfl, rfl⟩
                · (unfold anyI)
                  simp (maxSteps := 10000000) (implicitDefEqProofs := false) only [AV.good, BitVec.ofNat_eq_ofNat, Bool.false_eq_true, Cells.get, Cells.len, Cells.rep, Cells.set, Int.cast_ofNat_Int, Int.reduceLE, Int.reduceLT, Int.reduceToNat, List.getElem?_cons_succ, List.getElem?_cons_zero, List.getElem?_toArray, List.length_cons, List.length_nil, List.map_cons, List.map_nil, List.replicate_succ, List.replicate_zero, List.set_cons_zero, Nat.add_zero, Nat.reduceAdd, Nat.reduceEqDiff, Nat.reduceLT, Nat.reduceLeDiff, Nat.zero_add, Option.getD_some, Option.map_some, TDsc.agg, absC, and_false, and_self, decide_true, dstB, ev, getA, hx, reduceCtorEq, true_and, tt, ↓anyAt, ↓fillVC, ↓guardVC, ↓loadVC, ↓opVC, ↓pickC, ↓pureVC, ↓reduceIte, ↓rowW_eq]
                  intro g_5
                  refine any_w _ _ _ _ _ _ _ _ _ _ _ _ ?_
                  simp only [putE]
                  refine any_step 1 [] (by decide +kernel) ?_
                  refine ⟨?_, trivial⟩
                  · (unfold anyI)
                    simp (maxSteps := 10000000) (implicitDefEqProofs := false) only [AV.good, BitVec.ofNat_eq_ofNat, Bool.false_eq_true, Cells.get, Cells.len, Cells.rep, Cells.set, Int.cast_ofNat_Int, Int.reduceLE, Int.reduceLT, Int.reduceToNat, List.getElem?_cons_succ, List.getElem?_cons_zero, List.getElem?_toArray, List.length_cons, List.length_nil, List.map_cons, List.map_nil, List.replicate_succ, List.replicate_zero, List.set_cons_zero, Nat.add_zero, Nat.reduceAdd, Nat.reduceEqDiff, Nat.reduceLT, Nat.reduceLeDiff, Nat.zero_add, Option.getD_some, Option.map_some, TDsc.agg, absC, and_false, and_self, decide_true, dstB, ev, getA, hx, reduceCtorEq, true_and, tt, ↓anyAt, ↓fillVC, ↓guardVC, ↓loadVC, ↓opVC, ↓pickC, ↓pureVC, ↓reduceIte, ↓rowW_eq]
                    refine any_w _ _ _ _ _ _ _ _ _ _ _ _ ?_
                    simp only [putE]
                    refine any_step 2 [] (by decide +kernel) ?_
                    refine ⟨?_, trivial⟩
                    · (unfold anyI)
                      simp (maxSteps := 10000000) (implicitDefEqProofs := false) only [AV.good, BitVec.ofNat_eq_ofNat, Bool.false_eq_true, Cells.get, Cells.len, Cells.rep, Cells.set, Int.cast_ofNat_Int, Int.reduceLE, Int.reduceLT, Int.reduceToNat, List.getElem?_cons_succ, List.getElem?_cons_zero, List.getElem?_toArray, List.length_cons, List.length_nil, List.map_cons, List.map_nil, List.replicate_succ, List.replicate_zero, List.set_cons_zero, Nat.add_zero, Nat.reduceAdd, Nat.reduceEqDiff, Nat.reduceLT, Nat.reduceLeDiff, Nat.zero_add, Option.getD_some, Option.map_some, TDsc.agg, absC, and_false, and_self, decide_true, dstB, ev, getA, hx, reduceCtorEq, true_and, tt, ↓anyAt, ↓fillVC, ↓guardVC, ↓loadVC, ↓opVC, ↓pickC, ↓pureVC, ↓reduceIte, ↓rowW_eq]
                      intro g_2
                      refine any_w _ _ _ _ _ _ _ _ _ _ _ _ ?_
                      simp only [putE]
                      refine any_step 6 [] (by decide +kernel) ?_
                      refine ⟨?_, trivial⟩
                      · (unfold anyI)
                        simp (maxSteps := 10000000) (implicitDefEqProofs := false) only [AV.good, BitVec.ofNat_eq_ofNat, Bool.false_eq_true, Cells.get, Cells.len, Cells.rep, Cells.set, Int.cast_ofNat_Int, Int.reduceLE, Int.reduceLT, Int.reduceToNat, List.getElem?_cons_succ, List.getElem?_cons_zero, List.getElem?_toArray, List.length_cons, List.length_nil, List.map_cons, List.map_nil, List.replicate_succ, List.replicate_zero, List.set_cons_zero, Nat.add_zero, Nat.reduceAdd, Nat.reduceEqDiff, Nat.reduceLT, Nat.reduceLeDiff, Nat.zero_add, Option.getD_some, Option.map_some, TDsc.agg, absC, and_false, and_self, decide_true, dstB, ev, getA, hx, reduceCtorEq, true_and, tt, ↓anyAt, ↓fillVC, ↓guardVC, ↓loadVC, ↓opVC, ↓pickC, ↓pureVC, ↓reduceIte, ↓rowW_eq]
                        refine any_w _ _ _ _ _ _ _ _ _ _ _ _ ?_
                        simp only [putE]
                        refine any_step 7 [] (by decide +kernel) ?_
                        refine ⟨?_, trivial⟩
                        · (unfold anyI)
                          simp (maxSteps := 10000000) (implicitDefEqProofs := false) only [AV.good, BitVec.ofNat_eq_ofNat, Bool.false_eq_true, Cells.get, Cells.len, Cells.rep, Cells.set, Int.cast_ofNat_Int, Int.reduceLE, Int.reduceLT, Int.reduceToNat, List.getElem?_cons_succ, List.getElem?_cons_zero, List.getElem?_toArray, List.length_cons, List.length_nil, List.map_cons, List.map_nil, List.replicate_succ, List.replicate_zero, List.set_cons_zero, Nat.add_zero, Nat.reduceAdd, Nat.reduceEqDiff, Nat.reduceLT, Nat.reduceLeDiff, Nat.zero_add, Option.getD_some, Option.map_some, TDsc.agg, absC, and_false, and_self, decide_true, dstB, ev, getA, hx, reduceCtorEq, true_and, tt, ↓anyAt, ↓fillVC, ↓guardVC, ↓loadVC, ↓opVC, ↓pickC, ↓pureVC, ↓reduceIte, ↓rowW_eq]
                          refine any_w _ _ _ _ _ _ _ _ _ _ _ _ ?_
                          simp only [putE]
                          (refine ⟨by decide +kernel, ?_⟩)
                          refine LeJ.roS 7 100 rfl rfl ⟨by simp [Cells.len], by simp, by simp [Cells.len]⟩ (LeJ.roS 8 101 rfl rfl ⟨by simp [Cells.len], by simp, by simp [Cells.len]⟩ ?_)
                          refine LeJ.mk (some ⟨g_2, 0, none⟩, 1, some ⟨g_5, 0, none⟩, 1) trivial ?_
                          simp (maxSteps := 1000000) only [leS, leA, stU_env, stU_mem, pickA, getA, delA, setA, Cells.part, Cells.len, List.take_nil, List.drop_nil, List.length_nil, Nat.zero_add, ↓reduceIte, Nat.reduceEqDiff, Option.some.injEq, List.nil_append, List.cons_append, true_and, and_true, and_self, reduceCtorEq, AV.int.injEq, ME.own.injEq, ME.row.injEq, Cells.c32.injEq, Cells.c64.injEq, Cells.c8.injEq, AV.ptr.injEq, AV.ros.injEq, AV.grow.injEq, AV.u64.injEq, AV.u32.injEq]
                          first | done | rfl | trivial | omega | exact ⟨rfl, rfl⟩
            · (unfold anyI)
              simp (maxSteps := 10000000) (implicitDefEqProofs := false) only [AV.good, BitVec.ofNat_eq_ofNat, Bool.false_eq_true, Cells.get, Cells.len, Cells.rep, Cells.set, Int.cast_ofNat_Int, Int.reduceLE, Int.reduceLT, Int.reduceToNat, List.getElem?_cons_succ, List.getElem?_cons_zero, List.getElem?_toArray, List.length_cons, List.length_nil, List.map_cons, List.map_nil, List.replicate_succ, List.replicate_zero, List.set_cons_zero, Nat.add_zero, Nat.reduceAdd, Nat.reduceEqDiff, Nat.reduceLT, Nat.reduceLeDiff, Nat.zero_add, Option.getD_some, Option.map_some, TDsc.agg, absC, and_false, and_self, decide_true, dstB, ev, getA, hx, reduceCtorEq, true_and, tt, ↓anyAt, ↓fillVC, ↓guardVC, ↓loadVC, ↓opVC, ↓pickC, ↓pureVC, ↓reduceIte, ↓rowW_eq]
              refine any_w _ _ _ _ _ _ _ _ _ _ _ _ ?_
              simp only [putE]
              refine any_step 0 [5] (by decide +kernel) ?_
              refine ⟨?_, ?_, trivial⟩
              · (unfold anyI)
                simp (maxSteps := 10000000) (implicitDefEqProofs := false) only [AV.good, BitVec.ofNat_eq_ofNat, Bool.false_eq_true, Cells.get, Cells.len, Cells.rep, Cells.set, Int.cast_ofNat_Int, Int.reduceLE, Int.reduceLT, Int.reduceToNat, List.getElem?_cons_succ, List.getElem?_cons_zero, List.getElem?_toArray, List.length_cons, List.length_nil, List.map_cons, List.map_nil, List.replicate_succ, List.replicate_zero, List.set_cons_zero, Nat.add_zero, Nat.reduceAdd, Nat.reduceEqDiff, Nat.reduceLT, Nat.reduceLeDiff, Nat.zero_add, Option.getD_some, Option.map_some, TDsc.agg, absC, and_false, and_self, decide_true, dstB, ev, getA, hx, reduceCtorEq, true_and, tt, ↓anyAt, ↓fillVC, ↓guardVC, ↓loadVC, ↓opVC, ↓pickC, ↓pureVC, ↓reduceIte, ↓rowW_eq]
                refine any_w _ _ _ _ _ _ _ _ _ _ _ _ ?_
                simp only [putE]
                refine any_step 1 [5] (by decide +kernel) ?_
                refine ⟨?_, ?_, trivial⟩
                · (unfold anyI)
                  simp (maxSteps := 10000000) (implicitDefEqProofs := false) only [AV.good, BitVec.ofNat_eq_ofNat, Bool.false_eq_true, Cells.get, Cells.len, Cells.rep, Cells.set, Int.cast_ofNat_Int, Int.reduceLE, Int.reduceLT, Int.reduceToNat, List.getElem?_cons_succ, List.getElem?_cons_zero, List.getElem?_toArray, List.length_cons, List.length_nil, List.map_cons, List.map_nil, List.replicate_succ, List.replicate_zero, List.set_cons_zero, Nat.add_zero, Nat.reduceAdd, Nat.reduceEqDiff, Nat.reduceLT, Nat.reduceLeDiff, Nat.zero_add, Option.getD_some, Option.map_some, TDsc.agg, absC, and_false, and_self, decide_true, dstB, ev, getA, hx, reduceCtorEq, true_and, tt, ↓anyAt, ↓fillVC, ↓guardVC, ↓loadVC, ↓opVC, ↓pickC, ↓pureVC, ↓reduceIte, ↓rowW_eq]
                  refine any_w _ _ _ _ _ _ _ _ _ _ _ _ ?_
                  simp only [putE]
                  refine any_step 2 [5] (by decide +kernel) ?_
                  refine ⟨?_, ?_, trivial⟩
                  · (unfold anyI)
                    simp (maxSteps := 10000000) (implicitDefEqProofs := false) only [AV.good, BitVec.ofNat_eq_ofNat, Bool.false_eq_true, Cells.get, Cells.len, Cells.rep, Cells.set, Int.cast_ofNat_Int, Int.reduceLE, Int.reduceLT, Int.reduceToNat, List.getElem?_cons_succ, List.getElem?_cons_zero, List.getElem?_toArray, List.length_cons, List.length_nil, List.map_cons, List.map_nil, List.replicate_succ, List.replicate_zero, List.set_cons_zero, Nat.add_zero, Nat.reduceAdd, Nat.reduceEqDiff, Nat.reduceLT, Nat.reduceLeDiff, Nat.zero_add, Option.getD_some, Option.map_some, TDsc.agg, absC, and_false, and_self, decide_true, dstB, ev, getA, hx, reduceCtorEq, true_and, tt, ↓anyAt, ↓fillVC, ↓guardVC, ↓loadVC, ↓opVC, ↓pickC, ↓pureVC, ↓reduceIte, ↓rowW_eq]
                    intro g_2
                    refine any_w _ _ _ _ _ _ _ _ _ _ _ _ ?_
                    simp only [putE]
                    refine any_step 5 [6] (by decide +kernel) ?_
                    refine ⟨?_, ?_, trivial⟩
                    · (unfold anyI)
                      simp (maxSteps := 10000000) (implicitDefEqProofs := false) only [AV.good, BitVec.ofNat_eq_ofNat, Bool.false_eq_true, Cells.get, Cells.len, Cells.rep, Cells.set, Int.cast_ofNat_Int, Int.reduceLE, Int.reduceLT, Int.reduceToNat, List.getElem?_cons_succ, List.getElem?_cons_zero, List.getElem?_toArray, List.length_cons, List.length_nil, List.map_cons, List.map_nil, List.replicate_succ, List.replicate_zero, List.set_cons_zero, Nat.add_zero, Nat.reduceAdd, Nat.reduceEqDiff, Nat.reduceLT, Nat.reduceLeDiff, Nat.zero_add, Option.getD_some, Option.map_some, TDsc.agg, absC, and_false, and_self, decide_true, dstB, ev, getA, hx, reduceCtorEq, true_and, tt, ↓anyAt, ↓fillVC, ↓guardVC, ↓loadVC, ↓opVC, ↓pickC, ↓pureVC, ↓reduceIte, ↓rowW_eq]
                      intro g_5
                      refine any_w _ _ _ _ _ _ _ _ _ _ _ _ ?_
                      simp only [putE]
                      refine any_step 6 [] (by decide +kernel) ?_
                      refine ⟨?_, trivial⟩
                      · (unfold anyI)
                        simp (maxSteps := 10000000) (implicitDefEqProofs := false) only [AV.good, BitVec.ofNat_eq_ofNat, Bool.false_eq_true, Cells.get, Cells.len, Cells.rep, Cells.set, Int.cast_ofNat_Int, Int.reduceLE, Int.reduceLT, Int.reduceToNat, List.getElem?_cons_succ, List.getElem?_cons_zero, List.getElem?_toArray, List.length_cons, List.length_nil, List.map_cons, List.map_nil, List.replicate_succ, List.replicate_zero, List.set_cons_zero, Nat.add_zero, Nat.reduceAdd, Nat.reduceEqDiff, Nat.reduceLT, Nat.reduceLeDiff, Nat.zero_add, Option.getD_some, Option.map_some, TDsc.agg, absC, and_false, and_self, decide_true, dstB, ev, getA, hx, reduceCtorEq, true_and, tt, ↓anyAt, ↓fillVC, ↓guardVC, ↓loadVC, ↓opVC, ↓pickC, ↓pureVC, ↓reduceIte, ↓rowW_eq]
                        refine any_w _ _ _ _ _ _ _ _ _ _ _ _ ?_
                        simp only [putE]
                        refine any_step 7 [] (by decide +kernel) ?_
                        refine ⟨?_, trivial⟩
                        · (unfold anyI)
                          simp (maxSteps := 10000000) (implicitDefEqProofs := false) only [AV.good, BitVec.ofNat_eq_ofNat, Bool.false_eq_true, Cells.get, Cells.len, Cells.rep, Cells.set, Int.cast_ofNat_Int, Int.reduceLE, Int.reduceLT, Int.reduceToNat, List.getElem?_cons_succ, List.getElem?_cons_zero, List.getElem?_toArray, List.length_cons, List.length_nil, List.map_cons, List.map_nil, List.replicate_succ, List.replicate_zero, List.set_cons_zero, Nat.add_zero, Nat.reduceAdd, Nat.reduceEqDiff, Nat.reduceLT, Nat.reduceLeDiff, Nat.zero_add, Option.getD_some, Option.map_some, TDsc.agg, absC, and_false, and_self, decide_true, dstB, ev, getA, hx, reduceCtorEq, true_and, tt, ↓anyAt, ↓fillVC, ↓guardVC, ↓loadVC, ↓opVC, ↓pickC, ↓pureVC, ↓reduceIte, ↓rowW_eq]
                          refine any_w _ _ _ _ _ _ _ _ _ _ _ _ ?_
                          simp only [putE]
                          (refine ⟨by decide +kernel, ?_⟩)
                          refine LeJ.roS 7 100 rfl rfl ⟨by simp [Cells.len], by simp, by simp [Cells.len]⟩ (LeJ.roS 8 101 rfl rfl ⟨by simp [Cells.len], by simp, by simp [Cells.len]⟩ ?_)
                          refine LeJ.mk (some ⟨g_2, 0, none⟩, 1, some ⟨g_5, 0, none⟩, 1) trivial ?_
                          simp (maxSteps := 1000000) only [leS, leA, stU_env, stU_mem, pickA, getA, delA, setA, Cells.part, Cells.len, List.take_nil, List.drop_nil, List.length_nil, Nat.zero_add, ↓reduceIte, Nat.reduceEqDiff, Option.some.injEq, List.nil_append, List.cons_append, true_and, and_true, and_self, reduceCtorEq, AV.int.injEq, ME.own.injEq, ME.row.injEq, Cells.c32.injEq, Cells.c64.injEq, Cells.c8.injEq, AV.ptr.injEq, AV.ros.injEq, AV.grow.injEq, AV.u64.injEq, AV.u32.injEq]
                          first | done | rfl | trivial | omega | exact ⟨rfl, rfl⟩
                    · (unfold anyI)
                      simp (maxSteps := 10000000) (implicitDefEqProofs := false) only [AV.good, BitVec.ofNat_eq_ofNat, Bool.false_eq_true, Cells.get, Cells.len, Cells.rep, Cells.set, Int.cast_ofNat_Int, Int.reduceLE, Int.reduceLT, Int.reduceToNat, List.getElem?_cons_succ, List.getElem?_cons_zero, List.getElem?_toArray, List.length_cons, List.length_nil, List.map_cons, List.map_nil, List.replicate_succ, List.replicate_zero, List.set_cons_zero, Nat.add_zero, Nat.reduceAdd, Nat.reduceEqDiff, Nat.reduceLT, Nat.reduceLeDiff, Nat.zero_add, Option.getD_some, Option.map_some, TDsc.agg, absC, and_false, and_self, decide_true, dstB, ev, getA, hx, reduceCtorEq, true_and, tt, ↓anyAt, ↓fillVC, ↓guardVC, ↓loadVC, ↓opVC, ↓pickC, ↓pureVC, ↓reduceIte, ↓rowW_eq]
                      refine any_w _ _ _ _ _ _ _ _ _ _ _ _ ?_
                      simp only [putE]
                      refine any_step 5 [] (by decide +kernel) ?_
                      refine ⟨?_, trivial⟩
                      · (unfold anyI)
                        simp (maxSteps := 10000000) (implicitDefEqProofs := false) only [AV.good, BitVec.ofNat_eq_ofNat, Bool.false_eq_true, Cells.get, Cells.len, Cells.rep, Cells.set, Int.cast_ofNat_Int, Int.reduceLE, Int.reduceLT, Int.reduceToNat, List.getElem?_cons_succ, List.getElem?_cons_zero, List.getElem?_toArray, List.length_cons, List.length_nil, List.map_cons, List.map_nil, List.replicate_succ, List.replicate_zero, List.set_cons_zero, Nat.add_zero, Nat.reduceAdd, Nat.reduceEqDiff, Nat.reduceLT, Nat.reduceLeDiff, Nat.zero_add, Option.getD_some, Option.map_some, TDsc.agg, absC, and_false, and_self, decide_true, dstB, ev, getA, hx, reduceCtorEq, true_and, tt, ↓anyAt, ↓fillVC, ↓guardVC, ↓loadVC, ↓opVC, ↓pickC, ↓pureVC, ↓reduceIte, ↓rowW_eq]
                        intro g_5
                        refine any_w _ _ _ _ _ _ _ _ _ _ _ _ ?_
                        simp only [putE]
                        refine any_step 7 [] (by decide +kernel) ?_
                        refine ⟨?_, trivial⟩
                        · (unfold anyI)
                          simp (maxSteps := 10000000) (implicitDefEqProofs := false) only [AV.good, BitVec.ofNat_eq_ofNat, Bool.false_eq_true, Cells.get, Cells.len, Cells.rep, Cells.set, Int.cast_ofNat_Int, Int.reduceLE, Int.reduceLT, Int.reduceToNat, List.getElem?_cons_succ, List.getElem?_cons_zero, List.getElem?_toArray, List.length_cons, List.length_nil, List.map_cons, List.map_nil, List.replicate_succ, List.replicate_zero, List.set_cons_zero, Nat.add_zero, Nat.reduceAdd, Nat.reduceEqDiff, Nat.reduceLT, Nat.reduceLeDiff, Nat.zero_add, Option.getD_some, Option.map_some, TDsc.agg, absC, and_false, and_self, decide_true, dstB, ev, getA, hx, reduceCtorEq, true_and, tt, ↓anyAt, ↓fillVC, ↓guardVC, ↓loadVC, ↓opVC, ↓pickC, ↓pureVC, ↓reduceIte, ↓rowW_eq]
                          refine any_w _ _ _ _ _ _ _ _ _ _ _ _ ?_
                          simp only [putE]
                          (refine ⟨by decide +kernel, ?_⟩)
                          refine LeJ.roS 7 100 rfl rfl ⟨by simp [Cells.len], by simp, by simp [Cells.len]⟩ (LeJ.roS 8 101 rfl rfl ⟨by simp [Cells.len], by simp, by simp [Cells.len]⟩ ?_)
                          refine LeJ.mk (some ⟨g_2, 0, none⟩, 1, some ⟨g_5, 0, none⟩, 1) trivial ?_
                          simp (maxSteps := 1000000) only [leS, leA, stU_env, stU_mem, pickA, getA, delA, setA, Cells.part, Cells.len, List.take_nil, List.drop_nil, List.length_nil, Nat.zero_add, ↓reduceIte, Nat.reduceEqDiff, Option.some.injEq, List.nil_append, List.cons_append, true_and, and_true, and_self, reduceCtorEq, AV.int.injEq, ME.own.injEq, ME.row.injEq, Cells.c32.injEq, Cells.c64.injEq, Cells.c8.injEq, AV.ptr.injEq, AV.ros.injEq, AV.grow.injEq, AV.u64.injEq, AV.u32.injEq]
                          first | done | rfl | trivial | omega | exact ⟨rfl, rfl⟩
                  · (unfold anyI)
                    simp (maxSteps := 10000000) (implicitDefEqProofs := false) only [AV.good, BitVec.ofNat_eq_ofNat, Bool.false_eq_true, Cells.get, Cells.len, Cells.rep, Cells.set, Int.cast_ofNat_Int, Int.reduceLE, Int.reduceLT, Int.reduceToNat, List.getElem?_cons_succ, List.getElem?_cons_zero, List.getElem?_toArray, List.length_cons, List.length_nil, List.map_cons, List.map_nil, List.replicate_succ, List.replicate_zero, List.set_cons_zero, Nat.add_zero, Nat.reduceAdd, Nat.reduceEqDiff, Nat.reduceLT, Nat.reduceLeDiff, Nat.zero_add, Option.getD_some, Option.map_some, TDsc.agg, absC, and_false, and_self, decide_true, dstB, ev, getA, hx, reduceCtorEq, true_and, tt, ↓anyAt, ↓fillVC, ↓guardVC, ↓loadVC, ↓opVC, ↓pickC, ↓pureVC, ↓reduceIte, ↓rowW_eq]
                    intro g_5
                    refine any_w _ _ _ _ _ _ _ _ _ _ _ _ ?_
                    simp only [putE]
                    refine any_step 2 [] (by decide +kernel) ?_
                    refine ⟨?_, trivial⟩
                    · (unfold anyI)
                      simp (maxSteps := 10000000) (implicitDefEqProofs := false) only [AV.good, BitVec.ofNat_eq_ofNat, Bool.false_eq_true, Cells.get, Cells.len, Cells.rep, Cells.set, Int.cast_ofNat_Int, Int.reduceLE, Int.reduceLT, Int.reduceToNat, List.getElem?_cons_succ, List.getElem?_cons_zero, List.getElem?_toArray, List.length_cons, List.length_nil, List.map_cons, List.map_nil, List.replicate_succ, List.replicate_zero, List.set_cons_zero, Nat.add_zero, Nat.reduceAdd, Nat.reduceEqDiff, Nat.reduceLT, Nat.reduceLeDiff, Nat.zero_add, Option.getD_some, Option.map_some, TDsc.agg, absC, and_false, and_self, decide_true, dstB, ev, getA, hx, reduceCtorEq, true_and, tt, ↓anyAt, ↓fillVC, ↓guardVC, ↓loadVC, ↓opVC, ↓pickC, ↓pureVC, ↓reduceIte, ↓rowW_eq]
                      intro g_2
                      refine any_w _ _ _ _ _ _ _ _ _ _ _ _ ?_
                      simp only [putE]
                      refine any_step 6 [] (by decide +kernel) ?_
                      refine ⟨?_, trivial⟩
                      · (unfold anyI)
                        simp (maxSteps := 10000000) (implicitDefEqProofs := false) only [AV.good, BitVec.ofNat_eq_ofNat, Bool.false_eq_true, Cells.get, Cells.len, Cells.rep, Cells.set, Int.cast_ofNat_Int, Int.reduceLE, Int.reduceLT, Int.reduceToNat, List.getElem?_cons_succ, List.getElem?_cons_zero, List.getElem?_toArray, List.length_cons, List.length_nil, List.map_cons, List.map_nil, List.replicate_succ, List.replicate_zero, List.set_cons_zero, Nat.add_zero, Nat.reduceAdd, Nat.reduceEqDiff, Nat.reduceLT, Nat.reduceLeDiff, Nat.zero_add, Option.getD_some, Option.map_some, TDsc.agg, absC, and_false, and_self, decide_true, dstB, ev, getA, hx, reduceCtorEq, true_and, tt, ↓anyAt, ↓fillVC, ↓guardVC, ↓loadVC, ↓opVC, ↓pickC, ↓pureVC, ↓reduceIte, ↓rowW_eq]
                        refine any_w _ _ _ _ _ _ _ _ _ _ _ _ ?_
                        simp only [putE]
                        refine any_step 7 [] (by decide +kernel) ?_
                        refine ⟨?_, trivial⟩
                        · (unfold anyI)
                          simp (maxSteps := 10000000) (implicitDefEqProofs := false) only [AV.good, BitVec.ofNat_eq_ofNat, Bool.false_eq_true, Cells.get, Cells.len, Cells.rep, Cells.set, Int.cast_ofNat_Int, Int.reduceLE, Int.reduceLT, Int.reduceToNat, List.getElem?_cons_succ, List.getElem?_cons_zero, List.getElem?_toArray, List.length_cons, List.length_nil, List.map_cons, List.map_nil, List.replicate_succ, List.replicate_zero, List.set_cons_zero, Nat.add_zero, Nat.reduceAdd, Nat.reduceEqDiff, Nat.reduceLT, Nat.reduceLeDiff, Nat.zero_add, Option.getD_some, Option.map_some, TDsc.agg, absC, and_false, and_self, decide_true, dstB, ev, getA, hx, reduceCtorEq, true_and, tt, ↓anyAt, ↓fillVC, ↓guardVC, ↓loadVC, ↓opVC, ↓pickC, ↓pureVC, ↓reduceIte, ↓rowW_eq]
                          refine any_w _ _ _ _ _ _ _ _ _ _ _ _ ?_
                          simp only [putE]
                          (refine ⟨by decide +kernel, ?_⟩)
                          refine LeJ.roS 7 100 rfl rfl ⟨by simp [Cells.len], by simp, by simp [Cells.len]⟩ (LeJ.roS 8 101 rfl rfl ⟨by simp [Cells.len], by simp, by simp [Cells.len]⟩ ?_)
                          refine LeJ.mk (some ⟨g_2, 0, none⟩, 1, some ⟨g_5, 0, none⟩, 1) trivial ?_
                          simp (maxSteps := 1000000) only [leS, leA, stU_env, stU_mem, pickA, getA, delA, setA, Cells.part, Cells.len, List.take_nil, List.drop_nil, List.length_nil, Nat.zero_add, ↓reduceIte, Nat.reduceEqDiff, Option.some.injEq, List.nil_append, List.cons_append, true_and, and_true, and_self, reduceCtorEq, AV.int.injEq, ME.own.injEq, ME.row.injEq, Cells.c32.injEq, Cells.c64.injEq, Cells.c8.injEq, AV.ptr.injEq, AV.ros.injEq, AV.grow.injEq, AV.u64.injEq, AV.u32.injEq]
                          first | done | rfl | trivial | omega | exact ⟨rfl, rfl⟩
                · (unfold anyI)
                  simp (maxSteps := 10000000) (implicitDefEqProofs := false) only [AV.good, BitVec.ofNat_eq_ofNat, Bool.false_eq_true, Cells.get, Cells.len, Cells.rep, Cells.set, Int.cast_ofNat_Int, Int.reduceLE, Int.reduceLT, Int.reduceToNat, List.getElem?_cons_succ, List.getElem?_cons_zero, List.getElem?_toArray, List.length_cons, List.length_nil, List.map_cons, List.map_nil, List.replicate_succ, List.replicate_zero, List.set_cons_zero, Nat.add_zero, Nat.reduceAdd, Nat.reduceEqDiff, Nat.reduceLT, Nat.reduceLeDiff, Nat.zero_add, Option.getD_some, Option.map_some, TDsc.agg, absC, and_false, and_self, decide_true, dstB, ev, getA, hx, reduceCtorEq, true_and, tt, ↓anyAt, ↓fillVC, ↓guardVC, ↓loadVC, ↓opVC, ↓pickC, ↓pureVC, ↓reduceIte, ↓rowW_eq]
                  intro g_5
                  refine any_w _ _ _ _ _ _ _ _ _ _ _ _ ?_
                  simp only [putE]
                  refine any_step 1 [] (by decide +kernel) ?_
                  refine ⟨?_, trivial⟩
                  · (unfold anyI)
                    simp (maxSteps := 10000000) (implicitDefEqProofs := false) only [AV.good, BitVec.ofNat_eq_ofNat, Bool.false_eq_true, Cells.get, Cells.len, Cells.rep, Cells.set, Int.cast_ofNat_Int, Int.reduceLE, Int.reduceLT, Int.reduceToNat, List.getElem?_cons_succ, List.getElem?_cons_zero, List.getElem?_toArray, List.length_cons, List.length_nil, List.map_cons, List.map_nil, List.replicate_succ, List.replicate_zero, List.set_cons_zero, Nat.add_zero, Nat.reduceAdd, Nat.reduceEqDiff, Nat.reduceLT, Nat.reduceLeDiff, Nat.zero_add, Option.getD_some, Option.map_some, TDsc.agg, absC, and_false, and_self, decide_true, dstB, ev, getA, hx, reduceCtorEq, true_and, tt, ↓anyAt, ↓fillVC, ↓guardVC, ↓loadVC, ↓opVC, ↓pickC, ↓pureVC, ↓reduceIte, ↓rowW_eq]
                    refine any_w _ _ _ _ _ _ _ _ _ _ _ _ ?_
                    simp only [putE]
                    refine any_step 2 [] (by decide +kernel) ?_
                    refine ⟨?_, trivial⟩
                    · (unfold anyI)
                      simp (maxSteps := 10000000) (implicitDefEqProofs := false) only [AV.good, BitVec.ofNat_eq_ofNat, Bool.false_eq_true, Cells.get, Cells.len, Cells.rep, Cells.set, Int.cast_ofNat_Int, Int.reduceLE, Int.reduceLT, Int.reduceToNat, List.getElem?_cons_succ, List.getElem?_cons_zero, List.getElem?_toArray, List.length_cons, List.length_nil, List.map_cons, List.map_nil, List.replicate_succ, List.replicate_zero, List.set_cons_zero, Nat.add_zero, Nat.reduceAdd, Nat.reduceEqDiff, Nat.reduceLT, Nat.reduceLeDiff, Nat.zero_add, Option.getD_some, Option.map_some, TDsc.agg, absC, and_false, and_self, decide_true, dstB, ev, getA, hx, reduceCtorEq, true_and, tt, ↓anyAt, ↓fillVC, ↓guardVC, ↓loadVC, ↓opVC, ↓pickC, ↓pureVC, ↓reduceIte, ↓rowW_eq]
                      intro g_2
                      refine any_w _ _ _ _ _ _ _ _ _ _ _ _ ?_
                      simp only [putE]
                      refine any_step 6 [] (by decide +kernel) ?_
                      refine ⟨?_, trivial⟩
                      · (unfold anyI)
                        simp (maxSteps := 10000000) (implicitDefEqProofs := false) only [AV.good, BitVec.ofNat_eq_ofNat, Bool.false_eq_true, Cells.get, Cells.len, Cells.rep, Cells.set, Int.cast_ofNat_Int, Int.reduceLE, Int.reduceLT, Int.reduceToNat, List.getElem?_cons_succ, List.getElem?_cons_zero, List.getElem?_toArray, List.length_cons, List.length_nil, List.map_cons, List.map_nil, List.replicate_succ, List.replicate_zero, List.set_cons_zero, Nat.add_zero, Nat.reduceAdd, Nat.reduceEqDiff, Nat.reduceLT, Nat.reduceLeDiff, Nat.zero_add, Option.getD_some, Option.map_some, TDsc.agg, absC, and_false, and_self, decide_true, dstB, ev, getA, hx, reduceCtorEq, true_and, tt, ↓anyAt, ↓fillVC, ↓guardVC, ↓loadVC, ↓opVC, ↓pickC, ↓pureVC, ↓reduceIte, ↓rowW_eq]
                        refine any_w _ _ _ _ _ _ _ _ _ _ _ _ ?_
                        simp only [putE]
                        refine any_step 7 [] (by decide +kernel) ?_
                        refine ⟨?_, trivial⟩
                        · (unfold anyI)
                          simp (maxSteps := 10000000) (implicitDefEqProofs := false) only [AV.good, BitVec.ofNat_eq_ofNat, Bool.false_eq_true, Cells.get, Cells.len, Cells.rep, Cells.set, Int.cast_ofNat_Int, Int.reduceLE, Int.reduceLT, Int.reduceToNat, List.getElem?_cons_succ, List.getElem?_cons_zero, List.getElem?_toArray, List.length_cons, List.length_nil, List.map_cons, List.map_nil, List.replicate_succ, List.replicate_zero, List.set_cons_zero, Nat.add_zero, Nat.reduceAdd, Nat.reduceEqDiff, Nat.reduceLT, Nat.reduceLeDiff, Nat.zero_add, Option.getD_some, Option.map_some, TDsc.agg, absC, and_false, and_self, decide_true, dstB, ev, getA, hx, reduceCtorEq, true_and, tt, ↓anyAt, ↓fillVC, ↓guardVC, ↓loadVC, ↓opVC, ↓pickC, ↓pureVC, ↓reduceIte, ↓rowW_eq]
                          refine any_w _ _ _ _ _ _ _ _ _ _ _ _ ?_
                          simp only [putE]
                          (refine ⟨by decide +kernel, ?_⟩)
                          refine LeJ.roS 7 100 rfl rfl ⟨by simp [Cells.len], by simp, by simp [Cells.len]⟩ (LeJ.roS 8 101 rfl rfl ⟨by simp [Cells.len], by simp, by simp [Cells.len]⟩ ?_)
                          refine LeJ.mk (some ⟨g_2, 0, none⟩, 1, some ⟨g_5, 0, none⟩, 1) trivial ?_
                          simp (maxSteps := 1000000) only [leS, leA, stU_env, stU_mem, pickA, getA, delA, setA, Cells.part, Cells.len, List.take_nil, List.drop_nil, List.length_nil, Nat.zero_add, ↓reduceIte, Nat.reduceEqDiff, Option.some.injEq, List.nil_append, List.cons_append, true_and, and_true, and_self, reduceCtorEq, AV.int.injEq, ME.own.injEq, ME.row.injEq, Cells.c32.injEq, Cells.c64.injEq, Cells.c8.injEq, AV.ptr.injEq, AV.ros.injEq, AV.grow.injEq, AV.u64.injEq, AV.u32.injEq]
                          first | done | rfl | trivial | omega | exact ⟨rfl, rfl⟩
              · (unfold anyI)
                simp (maxSteps := 10000000) (implicitDefEqProofs := false) only [AV.good, BitVec.ofNat_eq_ofNat, Bool.false_eq_true, Cells.get, Cells.len, Cells.rep, Cells.set, Int.cast_ofNat_Int, Int.reduceLE, Int.reduceLT, Int.reduceToNat, List.getElem?_cons_succ, List.getElem?_cons_zero, List.getElem?_toArray, List.length_cons, List.length_nil, List.map_cons, List.map_nil, List.replicate_succ, List.replicate_zero, List.set_cons_zero, Nat.add_zero, Nat.reduceAdd, Nat.reduceEqDiff, Nat.reduceLT, Nat.reduceLeDiff, Nat.zero_add, Option.getD_some, Option.map_some, TDsc.agg, absC, and_false, and_self, decide_true, dstB, ev, getA, hx, reduceCtorEq, true_and, tt, ↓anyAt, ↓fillVC, ↓guardVC, ↓loadVC, ↓opVC, ↓pickC, ↓pureVC, ↓reduceIte, ↓rowW_eq]
                intro g_5
                refine any_w _ _ _ _ _ _ _ _ _ _ _ _ ?_
                simp only [putE]
                refine any_step 0 [] (by decide +kernel) ?_
                refine ⟨?_, trivial⟩
                · (unfold anyI)
                  simp (maxSteps := 10000000) (implicitDefEqProofs := false) only [AV.good, BitVec.ofNat_eq_ofNat, Bool.false_eq_true, Cells.get, Cells.len, Cells.rep, Cells.set, Int.cast_ofNat_Int, Int.reduceLE, Int.reduceLT, Int.reduceToNat, List.getElem?_cons_succ, List.getElem?_cons_zero, List.getElem?_toArray, List.length_cons, List.length_nil, List.map_cons, List.map_nil, List.replicate_succ, List.replicate_zero, List.set_cons_zero, Nat.add_zero, Nat.reduceAdd, Nat.reduceEqDiff, Nat.reduceLT, Nat.reduceLeDiff, Nat.zero_add, Option.getD_some, Option.map_some, TDsc.agg, absC, and_false, and_self, decide_true, dstB, ev, getA, hx, reduceCtorEq, true_and, tt, ↓anyAt, ↓fillVC, ↓guardVC, ↓loadVC, ↓opVC, ↓pickC, ↓pureVC, ↓reduceIte, ↓rowW_eq]
                  refine any_w _ _ _ _ _ _ _ _ _ _ _ _ ?_
                  simp only [putE]
                  refine any_step 1 [] (by decide +kernel) ?_
                  refine ⟨?_, trivial⟩
                  · (unfold anyI)
                    simp (maxSteps := 10000000) (implicitDefEqProofs := false) only [AV.good, BitVec.ofNat_eq_ofNat, Bool.false_eq_true, Cells.get, Cells.len, Cells.rep, Cells.set, Int.cast_ofNat_Int, Int.reduceLE, Int.reduceLT, Int.reduceToNat, List.getElem?_cons_succ, List.getElem?_cons_zero, List.getElem?_toArray, List.length_cons, List.length_nil, List.map_cons, List.map_nil, List.replicate_succ, List.replicate_zero, List.set_cons_zero, Nat.add_zero, Nat.reduceAdd, Nat.reduceEqDiff, Nat.reduceLT, Nat.reduceLeDiff, Nat.zero_add, Option.getD_some, Option.map_some, TDsc.agg, absC, and_false, and_self, decide_true, dstB, ev, getA, hx, reduceCtorEq, true_and, tt, ↓anyAt, ↓fillVC, ↓guardVC, ↓loadVC, ↓opVC, ↓pickC, ↓pureVC, ↓reduceIte, ↓rowW_eq]
                    refine any_w _ _ _ _ _ _ _ _ _ _ _ _ ?_
                    simp only [putE]
                    refine any_step 2 [] (by decide +kernel) ?_
                    refine ⟨?_, trivial⟩
                    · (unfold anyI)
                      simp (maxSteps := 10000000) (implicitDefEqProofs := false) only [AV.good, BitVec.ofNat_eq_ofNat, Bool.false_eq_true, Cells.get, Cells.len, Cells.rep, Cells.set, Int.cast_ofNat_Int, Int.reduceLE, Int.reduceLT, Int.reduceToNat, List.getElem?_cons_succ, List.getElem?_cons_zero, List.getElem?_toArray, List.length_cons, List.length_nil, List.map_cons, List.map_nil, List.replicate_succ, List.replicate_zero, List.set_cons_zero, Nat.add_zero, Nat.reduceAdd, Nat.reduceEqDiff, Nat.reduceLT, Nat.reduceLeDiff, Nat.zero_add, Option.getD_some, Option.map_some, TDsc.agg, absC, and_false, and_self, decide_true, dstB, ev, getA, hx, reduceCtorEq, true_and, tt, ↓anyAt, ↓fillVC, ↓guardVC, ↓loadVC, ↓opVC, ↓pickC, ↓pureVC, ↓reduceIte, ↓rowW_eq]
                      intro g_2
                      refine any_w _ _ _ _ _ _ _ _ _ _ _ _ ?_
                      simp only [putE]
                      refine any_step 6 [] (by decide +kernel) ?_
                      refine ⟨?_, trivial⟩
                      · (unfold anyI)
                        simp (maxSteps := 10000000) (implicitDefEqProofs := false) only [AV.good, BitVec.ofNat_eq_ofNat, Bool.false_eq_true, Cells.get, Cells.len, Cells.rep, Cells.set, Int.cast_ofNat_Int, Int.reduceLE, Int.reduceLT, Int.reduceToNat, List.getElem?_cons_succ, List.getElem?_cons_zero, List.getElem?_toArray, List.length_cons, List.length_nil, List.map_cons, List.map_nil, List.replicate_succ, List.replicate_zero, List.set_cons_zero, Nat.add_zero, Nat.reduceAdd, Nat.reduceEqDiff, Nat.reduceLT, Nat.reduceLeDiff, Nat.zero_add, Option.getD_some, Option.map_some, TDsc.agg, absC, and_false, and_self, decide_true, dstB, ev, getA, hx, reduceCtorEq, true_and, tt, ↓anyAt, ↓fillVC, ↓guardVC, ↓loadVC, ↓opVC, ↓pickC, ↓pureVC, ↓reduceIte, ↓rowW_eq]
                        refine any_w _ _ _ _ _ _ _ _ _ _ _ _ ?_
                        simp only [putE]
                        refine any_step 7 [] (by decide +kernel) ?_
                        refine ⟨?_, trivial⟩
                        · (unfold anyI)
                          simp (maxSteps := 10000000) (implicitDefEqProofs := false) only [AV.good, BitVec.ofNat_eq_ofNat, Bool.false_eq_true, Cells.get, Cells.len, Cells.rep, Cells.set, Int.cast_ofNat_Int, Int.reduceLE, Int.reduceLT, Int.reduceToNat, List.getElem?_cons_succ, List.getElem?_cons_zero, List.getElem?_toArray, List.length_cons, List.length_nil, List.map_cons, List.map_nil, List.replicate_succ, List.replicate_zero, List.set_cons_zero, Nat.add_zero, Nat.reduceAdd, Nat.reduceEqDiff, Nat.reduceLT, Nat.reduceLeDiff, Nat.zero_add, Option.getD_some, Option.map_some, TDsc.agg, absC, and_false, and_self, decide_true, dstB, ev, getA, hx, reduceCtorEq, true_and, tt, ↓anyAt, ↓fillVC, ↓guardVC, ↓loadVC, ↓opVC, ↓pickC, ↓pureVC, ↓reduceIte, ↓rowW_eq]
                          refine any_w _ _ _ _ _ _ _ _ _ _ _ _ ?_
                          simp only [putE]
                          (refine ⟨by decide +kernel, ?_⟩)
                          refine LeJ.roS 7 100 rfl rfl ⟨by simp [Cells.len], by simp, by simp [Cells.len]⟩ (LeJ.roS 8 101 rfl rfl ⟨by simp [Cells.len], by simp, by simp [Cells.len]⟩ ?_)
                          refine LeJ.mk (some ⟨g_2, 0, none⟩, 1, some ⟨g_5, 0, none⟩, 1) trivial ?_
                          simp (maxSteps := 1000000) only [leS, leA, stU_env, stU_mem, pickA, getA, delA, setA, Cells.part, Cells.len, List.take_nil, List.drop_nil, List.length_nil, Nat.zero_add, ↓reduceIte, Nat.reduceEqDiff, Option.some.injEq, List.nil_append, List.cons_append, true_and, and_true, and_self, reduceCtorEq, AV.int.injEq, ME.own.injEq, ME.row.injEq, Cells.c32.injEq, Cells.c64.injEq, Cells.c8.injEq, AV.ptr.injEq, AV.ros.injEq, AV.grow.injEq, AV.u64.injEq, AV.u32.injEq]
                          first | done | rfl | trivial | omega | exact ⟨rfl, rfl⟩

        · rintro ⟨A1, c1_, A2, c2_⟩
          simp (maxSteps := 10000000) (implicitDefEqProofs := false) only [↓both_true, ↓both_false, ↓entryVC, ↓vc_skip, ↓vc_draw, ↓vc_list, ↓vc_seq, ↓vc_seqn, ↓vc_seqe, ↓vc_seqr, ↓vc_cond, ↓condVC, ↓vc_block, ↓vc_blockn, ↓vc_blockr, ↓vc_blocke, ↓vc_loop, ↓vc_exit, ↓vc_ret, ↓vc_loopn, ↓vc_loope, ↓vc_loopr, ↓vcl_nil, ↓vcl_cons, ↓lw_eq, ↓listVC, ↓memK, ↓memR, ↓envOf, ↓guardVC, ↓opVC, ↓pureVC, ↓binT, ↓wrapT, ↓TDsc.isW, ↓binW, ↓binVC, ↓bin8, ↓bin32, ↓bin64, ↓binInt, ↓shVC, ↓unVC, ↓cvVC, ↓rdVC, ↓loadVC, ↓pickC, ↓fillVC, ↓bndVC, ↓sliceVC, ↓bltVC, ↓storeVC, ↓appVC, ↓apzVC, ↓markVC, ↓copyVC, ↓callVC, ↓argsVC, ↓argVC, ↓bindR, ↓bindR1, ↓bindRs, ↓retW_eq, ↓extW_eq, ↓rowW_eq, ↓aggW_eq, ↓plv_nil, ↓plv_tk, ↓plv_fz, ↓plv_ld, ↓pt_eq, ↓pz_eq, ↓pl_eq, ↓delAll, ↓keepM_nil, ↓keepM, ↓extE, ↓extM, ↓leS, ↓leA, ↓retVC, ↓retR, ↓resVC, ↓resV1, ↓ressVC, ↓strU, ↓xAdd64, ↓xSub64, ↓vc_jn, ↓vc_je, ↓vc_jr, ↓pickA, ↓stU_env, ↓stU_mem, frz, frzs, both_true, both_false, both_dec, both_ndec, ev, absC, getA, setA, delA, tt, AV.good, AV.plain, AV.isSl, AV.cells, AV.one, Cells.len, Cells.get, Cells.sub, Cells.part, Cells.agg, Cells.upd, Cells.set, Cells.cat, Cells.rep, Cells.ones, TDsc.agg, zOf, putE, dstB, letGo, quietOp, slotOp, pickA, true_or, or_true, List.append_eq, Int.cast_ofNat_Int, List.any_cons, List.any_nil, beq_iff_eq, Bool.decide_eq_true, Option.getD_some, Option.getD_none, Option.map_some, Option.map_none, Option.bind_some, Option.isSome_some, Option.isNone_some, Option.isNone_none, Option.isSome_none, ↓reduceIte, Nat.reduceEqDiff, Nat.reduceLT, Nat.reduceLeDiff, Nat.reduceAdd, Nat.reduceSub, Nat.reduceMul, Nat.reduceBEq, Int.reduceLE, Int.reduceLT, Int.reduceToNat, Int.reduceNeg, BitVec.reduceToNat, decide_true, decide_false, and_true, true_and, and_self, Bool.or_true, Bool.true_or, Bool.or_false, Bool.false_or, Bool.not_true, Bool.not_false, List.map_cons, List.map_nil, List.length_cons, List.length_nil, List.getElem?_toArray, List.getElem?_cons_zero, List.getElem?_cons_succ, List.getElem?_nil, forall_const, true_implies, reduceCtorEq, false_and, and_false, false_implies, implies_true, Bool.false_eq_true, Bool.true_eq_false, ne_eq, not_true, not_false_iff, Nat.sub_zero, Nat.zero_add, Nat.add_zero, List.drop_zero, List.drop_succ_cons, List.drop_nil, List.take_zero, List.take_succ_cons, List.take_nil, List.set_cons_zero, List.set_cons_succ, List.nil_append, List.cons_append, List.append_nil, List.replicate_zero, List.replicate_succ, BitVec.ofNat_eq_ofNat, Option.some.injEq, AV.int.injEq, AV.u64.injEq, AV.u32.injEq, AV.u8.injEq, AV.bool.injEq, AV.a64.injEq, AV.a32.injEq, AV.a8.injEq, Nat.zero_le, Int.toNat_natCast, lm1, cTrue0, cExpM, cMulM, cBits, cCmpU, cAddU, cMulU, List.getD_cons_zero, Int.reduceEq, Int.reduceNe, midK_n, midK_r, hx, hm0]
          simp only [sgnEq, sgnLt, e1n, blZ]
          refine ⟨⟨by omega, by omega⟩, fun p hp hpv hpl _ _ => ⟨⟨by omega, by omega⟩, fun q hq hqv hql _ _ => ⟨⟨by omega, by omega, by omega⟩, fun bo hb hbv hbl _ _ e1 he1 he1v he1l _ _ => ⟨⟨by omega, by omega, by omega⟩, fun su hs hsv hsl _ _ => ⟨⟨by omega, by omega⟩, fun ag hag hagv hagl _ _ e2 he2 he2v he2l _ _ => ⟨⟨by omega, by omega, by omega⟩, fun pr hpr hprv hprl _ _ => ?_⟩⟩⟩⟩⟩⟩
          have k1 : nv32 bo = nv32 su := by rw [hbv, hpv, hqv, hsv, he1v, Nat.pow_add, ← Nat.mul_mod]
          have k2 : nv32 ag = nv32 pr := by rw [hagv, hpv, hprv, he2v, ← Nat.pow_mod, Nat.pow_mul]
          have k3 : nv32 p < nv32 m := by rw [hpv]; exact Nat.mod_lt _ (by omega)
          clear hpv hqv hbv he1v hsv hagv he2v hprv
          repeat' (first | exact h | assumption | trivial | omega | (intro _) | (refine And.intro ?_ ?_) | (rw [hdd]) | (rw [hdn]) | (rename_i hne; refine absurd (Can32.inj ?_ ?_ ?_) hne))
  · exact h.elim
end Go.Proofs.Ytkpbjkhgiackpaa
