/- The program's differences, and quotients by one word, by the engine. -/
import Derived.Test.YtkpbjkhgiackpaaQs
import Derived.Test.YtkpbjkhgiackpaaQh
import Derived.Test.YtkpbjkhgiackpaaQm1
namespace Go.Proofs.Ytkpbjkhgiackpaa
open Go Go.RowKit
set_option linter.unusedVariables false
set_option linter.unusedSimpArgs false

theorem sgn_neg {x y : Nat} : sgn x y < 0 ↔ x < y := by
  unfold sgn
  split
  · simp; assumption
  · split <;> simp <;> omega
def cSubN : CT := fun cas K => match cas with
  | [.s (.c32 a), .s (.c32 b)] => (a.length ≤ 100000 ∧ b.length ≤ 100000) ∧ (nv32 a < nv32 b → K (.tup [.s (.c32 []), .v (.int 1)])) ∧ (nv32 b ≤ nv32 a → ∀ e, Can32 e → nv32 e = nv32 a - nv32 b → e.length ≤ a.length → K (.tup [.al (.c32 e), .v (.int 0)]))
  | _ => False
def cDivW : CT := fun cas K => match cas with
  | [.s (.c32 a), .s (.c32 b)] => (a.length ≤ 100000 ∧ b.length ≤ 1) ∧ (nv32 b = 0 → K (.tup [.s (.c32 []), .s (.c32 []), .v (.int 1)])) ∧ (nv32 b ≠ 0 → nv32 a < nv32 b → ∀ e, Can32 e → nv32 e = nv32 a → e.length ≤ a.length → K (.tup [.s (.c32 []), .s (.c32 e), .v (.int 0)])) ∧
    (nv32 b ≠ 0 → nv32 b ≤ nv32 a → ∀ q r, Can32 q → Can32 r → nv32 q = nv32 a / nv32 b → nv32 r = nv32 a % nv32 b → q.length ≤ a.length → r.length ≤ 4 → K (.tup [.al (.c32 q), .al (.c32 r), .v (.int 0)]))
  | _ => False
def v0 : CTab := fun F => match F with
  | 90 => .fn cTrimN
  | 30 => .fn cCmpN
  | 114 => .mem mLessen
  | 115 => .fn cSmallN
  | _ => .fn noCT
theorem v0_ok : CTok Try.prog v0 := by
  intro F
  unfold v0
  split
  · exact sTrimN
  · exact sCmpN
  · exact mLessen_ok
  · exact sSmallN
  · exact sound_none _ _
set_option maxRecDepth 100000 in
set_option maxHeartbeats 1000000 in
theorem sSubN : Sound Try.prog 69 cSubN := by
  refine sound_vc (tt := tt) (ct := v0) ttok v0_ok mixed Try.func69 rfl (by decide) (rs := [.tmp 4, .tmp 5]) rfl (ts := [23, 25]) (k := 0) ?_
  intro cas K h
  unfold cSubN at h
  split at h
  · rename_i a b
    rw [Try.ntmps69]
    refine ⟨by simp, ?_⟩
    obtain ⟨⟨ha, hb⟩, h1, h2⟩ := h
    simp (maxSteps := 10000000) (implicitDefEqProofs := false) only [↓both_true, ↓both_false, ↓entryVC, ↓vc_skip, ↓vc_draw, ↓vc_list, ↓vc_seq, ↓vc_seqn, ↓vc_seqe, ↓vc_seqr, ↓vc_cond, ↓condVC, ↓vc_block, ↓vc_blockn, ↓vc_blockr, ↓vc_blocke, ↓vc_loop, ↓vc_exit, ↓vc_ret, ↓vc_loopn, ↓vc_loope, ↓vc_loopr, ↓vcl_nil, ↓vcl_cons, ↓lw_eq, ↓listVC, ↓memK, ↓memR, ↓envOf, ↓guardVC, ↓opVC, ↓pureVC, ↓binT, ↓wrapT, ↓TDsc.isW, ↓binW, ↓binVC, ↓bin8, ↓bin32, ↓bin64, ↓binInt, ↓shVC, ↓unVC, ↓cvVC, ↓rdVC, ↓loadVC, ↓pickC, ↓fillVC, ↓bndVC, ↓sliceVC, ↓bltVC, ↓storeVC, ↓appVC, ↓apzVC, ↓markVC, ↓copyVC, ↓callVC, ↓argsVC, ↓argVC, ↓bindR, ↓bindR1, ↓bindRs, ↓retW_eq, ↓extW_eq, ↓rowW_eq, ↓aggW_eq, ↓plv_nil, ↓plv_tk, ↓plv_fz, ↓plv_ld, ↓pt_eq, ↓pz_eq, ↓pl_eq, ↓delAll, ↓keepM_nil, ↓keepM, ↓extE, ↓extM, ↓leS, ↓leA, ↓retVC, ↓retR, ↓resVC, ↓resV1, ↓ressVC, ↓strU, ↓xAdd64, ↓xSub64, ↓vc_jn, ↓vc_je, ↓vc_jr, ↓pickA, ↓stU_env, ↓stU_mem, frz, both_true, both_false, both_dec, both_ndec, ev, absC, getA, setA, delA, tt, AV.good, AV.plain, AV.isSl, AV.cells, AV.one, Cells.len, Cells.get, Cells.sub, Cells.part, Cells.agg, Cells.upd, Cells.set, Cells.cat, Cells.rep, Cells.ones, TDsc.agg, zOf, putE, dstB, letGo, quietOp, slotOp, pickA, true_or, or_true, List.append_eq, Int.cast_ofNat_Int, List.any_cons, List.any_nil, beq_iff_eq, Bool.decide_eq_true, Option.getD_some, Option.getD_none, Option.map_some, Option.map_none, Option.bind_some, Option.isSome_some, Option.isNone_some, Option.isNone_none, Option.isSome_none, ↓reduceIte, Nat.reduceEqDiff, Nat.reduceLT, Nat.reduceLeDiff, Nat.reduceAdd, Nat.reduceSub, Nat.reduceMul, Nat.reduceBEq, Int.reduceLE, Int.reduceLT, Int.reduceToNat, Int.reduceNeg, BitVec.reduceToNat, decide_true, decide_false, and_true, true_and, and_self, Bool.or_true, Bool.true_or, Bool.or_false, Bool.false_or, Bool.not_true, Bool.not_false, List.map_cons, List.map_nil, List.length_cons, List.length_nil, List.getElem?_toArray, List.getElem?_cons_zero, List.getElem?_cons_succ, List.getElem?_nil, forall_const, true_implies, reduceCtorEq, false_and, and_false, false_implies, implies_true, Bool.false_eq_true, Bool.true_eq_false, ne_eq, not_true, not_false_iff, Nat.sub_zero, Nat.zero_add, Nat.add_zero, List.drop_zero, List.drop_succ_cons, List.drop_nil, List.take_zero, List.take_succ_cons, List.take_nil, List.set_cons_zero, List.set_cons_succ, List.nil_append, List.cons_append, List.append_nil, List.replicate_zero, List.replicate_succ, BitVec.ofNat_eq_ofNat, Option.some.injEq, AV.int.injEq, AV.u64.injEq, AV.u32.injEq, AV.u8.injEq, AV.bool.injEq, AV.a64.injEq, AV.a32.injEq, AV.a8.injEq, Nat.zero_le, Int.toNat_natCast, v0, cTrimN, cCmpN, mLessen, cSmallN, List.getD_cons_zero]
    intro ca hca cb hcb
    refine ⟨⟨ha, hb⟩, fun hlt => h1 (sgn_neg.1 hlt), fun hge => ?_⟩
    have hge : nv32 b ≤ nv32 a := by
      have := mt sgn_neg.2 hge; omega
    refine ⟨by omega, ⟨ha, hb⟩, ?_⟩
    intro zs hz hzv
    refine ⟨hz, by omega, ?_⟩
    intro e he hev hel c hc
    exact h2 hge e he (by have := hzv hge; omega) (by omega)
  · exact h.elim
set_option maxRecDepth 100000 in
set_option maxHeartbeats 1000000 in
theorem sDivW : Sound Try.prog 70 cDivW := by
  refine sound_vc (tt := tt) (ct := v0) ttok v0_ok mixed Try.func70 rfl (by decide) (rs := [.tmp 4, .tmp 5, .tmp 6]) rfl (ts := [23, 23, 25]) (k := 0) ?_
  intro cas K h
  unfold cDivW at h
  split at h
  · rename_i a b
    rw [Try.ntmps70]
    refine ⟨by simp, ?_⟩
    obtain ⟨⟨ha, hb⟩, h1, h2, h3⟩ := h
    simp (maxSteps := 10000000) (implicitDefEqProofs := false) only [↓both_true, ↓both_false, ↓entryVC, ↓vc_skip, ↓vc_draw, ↓vc_list, ↓vc_seq, ↓vc_seqn, ↓vc_seqe, ↓vc_seqr, ↓vc_cond, ↓condVC, ↓vc_block, ↓vc_blockn, ↓vc_blockr, ↓vc_blocke, ↓vc_loop, ↓vc_exit, ↓vc_ret, ↓vc_loopn, ↓vc_loope, ↓vc_loopr, ↓vcl_nil, ↓vcl_cons, ↓lw_eq, ↓listVC, ↓memK, ↓memR, ↓envOf, ↓guardVC, ↓opVC, ↓pureVC, ↓binT, ↓wrapT, ↓TDsc.isW, ↓binW, ↓binVC, ↓bin8, ↓bin32, ↓bin64, ↓binInt, ↓shVC, ↓unVC, ↓cvVC, ↓rdVC, ↓loadVC, ↓pickC, ↓fillVC, ↓bndVC, ↓sliceVC, ↓bltVC, ↓storeVC, ↓appVC, ↓apzVC, ↓markVC, ↓copyVC, ↓callVC, ↓argsVC, ↓argVC, ↓bindR, ↓bindR1, ↓bindRs, ↓retW_eq, ↓extW_eq, ↓rowW_eq, ↓aggW_eq, ↓plv_nil, ↓plv_tk, ↓plv_fz, ↓plv_ld, ↓pt_eq, ↓pz_eq, ↓pl_eq, ↓delAll, ↓keepM_nil, ↓keepM, ↓extE, ↓extM, ↓leS, ↓leA, ↓retVC, ↓retR, ↓resVC, ↓resV1, ↓ressVC, ↓strU, ↓xAdd64, ↓xSub64, ↓vc_jn, ↓vc_je, ↓vc_jr, ↓pickA, ↓stU_env, ↓stU_mem, frz, both_true, both_false, both_dec, both_ndec, ev, absC, getA, setA, delA, tt, AV.good, AV.plain, AV.isSl, AV.cells, AV.one, Cells.len, Cells.get, Cells.sub, Cells.part, Cells.agg, Cells.upd, Cells.set, Cells.cat, Cells.rep, Cells.ones, TDsc.agg, zOf, putE, dstB, letGo, quietOp, slotOp, pickA, true_or, or_true, List.append_eq, Int.cast_ofNat_Int, List.any_cons, List.any_nil, beq_iff_eq, Bool.decide_eq_true, Option.getD_some, Option.getD_none, Option.map_some, Option.map_none, Option.bind_some, Option.isSome_some, Option.isNone_some, Option.isNone_none, Option.isSome_none, ↓reduceIte, Nat.reduceEqDiff, Nat.reduceLT, Nat.reduceLeDiff, Nat.reduceAdd, Nat.reduceSub, Nat.reduceMul, Nat.reduceBEq, Int.reduceLE, Int.reduceLT, Int.reduceToNat, Int.reduceNeg, BitVec.reduceToNat, decide_true, decide_false, and_true, true_and, and_self, Bool.or_true, Bool.true_or, Bool.or_false, Bool.false_or, Bool.not_true, Bool.not_false, List.map_cons, List.map_nil, List.length_cons, List.length_nil, List.getElem?_toArray, List.getElem?_cons_zero, List.getElem?_cons_succ, List.getElem?_nil, forall_const, true_implies, reduceCtorEq, false_and, and_false, false_implies, implies_true, Bool.false_eq_true, Bool.true_eq_false, ne_eq, not_true, not_false_iff, Nat.sub_zero, Nat.zero_add, Nat.add_zero, List.drop_zero, List.drop_succ_cons, List.drop_nil, List.take_zero, List.take_succ_cons, List.take_nil, List.set_cons_zero, List.set_cons_succ, List.nil_append, List.cons_append, List.append_nil, List.replicate_zero, List.replicate_succ, BitVec.ofNat_eq_ofNat, Option.some.injEq, AV.int.injEq, AV.u64.injEq, AV.u32.injEq, AV.u8.injEq, AV.bool.injEq, AV.a64.injEq, AV.a32.injEq, AV.a8.injEq, Nat.zero_le, Int.toNat_natCast, v0, cTrimN, cCmpN, mLessen, cSmallN, List.getD_cons_zero]
    intro A ca hca B cb hcb
    refine ⟨ha, ?_⟩
    intro x hx hxv hxl A2 c2 hc2
    refine ⟨by omega, ?_⟩
    intro y hy hyv hyl A3 c3 hc3
    refine ⟨fun h0 => h1 ?_, fun hne => ?_⟩
    · have hy0 : y = [] := List.eq_nil_of_length_eq_zero (by omega)
      rw [← hyv, hy0]; rfl
    · have hy1 : y.length = 1 := by omega
      have hb0 : nv32 b ≠ 0 := by
        have := hy.pos (by intro e; rw [e] at hy1; cases hy1)
        omega
      have hg : (g32 y 0).toNat = nv32 b := by
        rw [← hyv]
        match y, hy1 with
        | [d], _ => simp [g32, nv32]
      refine ⟨⟨by omega, by omega⟩, fun hlt => ⟨by omega, h2 hb0 (by have := sgn_neg.1 hlt; omega) x hx hxv hxl⟩, fun hge => ⟨fun h11 => ?_, fun hn => absurd hn (by omega)⟩⟩
      have hge : nv32 b ≤ nv32 a := by
        have := mt sgn_neg.2 hge; omega
      refine ⟨by omega, by omega, by omega, ⟨by omega, fun e => hb0 (by rw [← hg, e]; rfl)⟩, ?_⟩
      intro q r hq hr hqv hrv hql hrl c hc c' hc'
      exact h3 hb0 hge q r hq hr (by rw [hqv, hxv, hg]) (by rw [hrv, hxv, hg]) (by omega) hrl
  · exact h.elim
end Go.Proofs.Ytkpbjkhgiackpaa
