/- The document's differences, products and shifts up, by the engine. -/
import Derived.Test.YtkpbjkhgiackpaaN2r
namespace Go.Proofs.Ytkpbjkhgiackpaa
open Go Go.RowKit
set_option linter.unusedVariables false
set_option linter.unusedSimpArgs false

def cLess : CT := fun cas K => match cas with
  | [.s (.c64 x), .s (.c64 y)] => (D16 x ∧ D16 y ∧ x.length ≤ 50000 ∧ y.length ≤ 50000 ∧ nv16 y ≤ nv16 x) ∧ ∀ e, Can16 e → nv16 e = nv16 x - nv16 y → e.length ≤ x.length → K (.one (.al (.c64 e)))
  | _ => False
def cSubR : CT := fun cas K => match cas with
  | [.s (.c32 a), .s (.c32 b)] => (a.length ≤ 10000 ∧ b.length ≤ 10000) ∧ (nv32 a < nv32 b → K (.tup [.s (.c32 []), .v (.int 1)])) ∧ (nv32 b ≤ nv32 a → ∀ e, Can32 e → nv32 e = nv32 a - nv32 b → e.length ≤ 2 * a.length → K (.tup [.al (.c32 e), .v (.int 0)]))
  | _ => False
def cMulR : CT := fun cas K => match cas with
  | [.s (.c32 a), .s (.c32 b)] => (a.length ≤ 5000 ∧ b.length ≤ 5000) ∧ ∀ e, Can32 e → nv32 e = nv32 a * nv32 b → e.length ≤ 2 * a.length + 2 * b.length → K (.one (.al (.c32 e)))
  | _ => False
def cShlR : CT := fun cas K => match cas with
  | [.s (.c32 a), .v (.int n)] => a.length ≤ 10000 ∧ (¬ (0 ≤ n ∧ n ≤ 16384) → K (.tup [.s (.c32 []), .v (.int 1)])) ∧ (0 ≤ n ∧ n ≤ 16384 → ∀ e, Can32 e → nv32 e = nv32 a * 2 ^ n.toNat → e.length ≤ 2 * a.length + 1100 → K (.tup [.al (.c32 e), .v (.int 0)]))
  | _ => False
def n4 : CTab := fun F => match F with
  | 127 => .fn cTrim
  | 132 => .fn cDigit
  | 92 => .fn cDigits
  | 91 => .fn cWhole
  | 113 => .fn cCompare
  | 66 => .fn cCmp
  | 130 => .fn cTimes
  | _ => .fn noCT
theorem n4_ok : CTok Try.prog n4 := by
  intro F
  unfold n4
  split
  · exact sTrim
  · exact sDigit
  · exact sDigits
  · exact sWhole
  · exact sCompare
  · exact sCmpR
  · exact sTimes
  · exact sound_none _ _

theorem less_dig {x y c : U64} (hx : x.toNat < 65536) (hy : y.toNat < 65536) (hc : c.toNat ≤ 1) : (x + 65536#64 - y - c).toNat = x.toNat + 65536 - y.toNat - c.toNat := by
  have e : (x + 65536#64).toNat = x.toNat + 65536 := by rw [BitVec.toNat_add]; simp only [BitVec.toNat_ofNat]; omega
  rw [BitVec.toNat_sub, BitVec.toNat_sub, e]
  omega
theorem less_car {v : U64} (h : v.toNat < 131072) : (1#64 - v / 65536#64).toNat = 1 - v.toNat / 65536 := by
  rw [BitVec.toNat_sub, div16]
  have : (1#64 : U64).toNat = 1 := rfl
  rw [this]
  omega
set_option maxRecDepth 100000 in
set_option maxHeartbeats 1000000 in
theorem sLess : Sound Try.prog 129 cLess := by
  refine sound_vc (tt := tt) (ct := n4) ttok n4_ok mixed Try.func129 rfl (by decide) (rs := [.tmp 4]) rfl (ts := [87]) (k := 0) ?_
  intro cas K h
  unfold cLess at h
  split at h
  · rename_i x y
    rw [Try.ntmps129]
    refine ⟨by simp, ?_⟩
    obtain ⟨⟨hx, hy, hxm, hym, hle⟩, h⟩ := h
    simp (maxSteps := 10000000) (implicitDefEqProofs := false) only [↓both_true, ↓both_false, ↓entryVC, ↓vc_skip, ↓vc_draw, ↓vc_list, ↓vc_seq, ↓vc_seqn, ↓vc_seqe, ↓vc_seqr, ↓vc_cond, ↓condVC, ↓vc_block, ↓vc_blockn, ↓vc_blockr, ↓vc_blocke, ↓vc_loop, ↓vc_exit, ↓vc_ret, ↓vc_loopn, ↓vc_loope, ↓vc_loopr, ↓vcl_nil, ↓vcl_cons, ↓lw_eq, ↓listVC, ↓memK, ↓memR, ↓envOf, ↓guardVC, ↓opVC, ↓pureVC, ↓binT, ↓wrapT, ↓TDsc.isW, ↓binW, ↓binVC, ↓bin8, ↓bin32, ↓bin64, ↓binInt, ↓shVC, ↓unVC, ↓cvVC, ↓rdVC, ↓loadVC, ↓pickC, ↓fillVC, ↓bndVC, ↓sliceVC, ↓bltVC, ↓storeVC, ↓appVC, ↓apzVC, ↓markVC, ↓copyVC, ↓callVC, ↓argsVC, ↓argVC, ↓bindR, ↓bindR1, ↓bindRs, ↓retW_eq, ↓extW_eq, ↓rowW_eq, ↓aggW_eq, ↓plv_nil, ↓plv_tk, ↓plv_fz, ↓plv_ld, ↓pt_eq, ↓pz_eq, ↓pl_eq, ↓delAll, ↓keepM_nil, ↓keepM, ↓extE, ↓extM, ↓leS, ↓leA, ↓retVC, ↓retR, ↓resVC, ↓resV1, ↓ressVC, ↓strU, ↓xAdd64, ↓xSub64, ↓vc_jn, ↓vc_je, ↓vc_jr, ↓pickA, ↓stU_env, ↓stU_mem, frz, both_true, both_false, both_dec, both_ndec, ev, absC, getA, setA, delA, tt, AV.good, AV.plain, AV.isSl, AV.cells, AV.one, Cells.len, Cells.get, Cells.sub, Cells.part, Cells.agg, Cells.upd, Cells.set, Cells.cat, Cells.rep, Cells.ones, TDsc.agg, zOf, putE, dstB, letGo, quietOp, slotOp, pickA, true_or, or_true, List.append_eq, Int.cast_ofNat_Int, List.any_cons, List.any_nil, beq_iff_eq, Bool.decide_eq_true, Option.getD_some, Option.getD_none, Option.map_some, Option.map_none, Option.bind_some, Option.isSome_some, Option.isNone_some, Option.isNone_none, Option.isSome_none, ↓reduceIte, Nat.reduceEqDiff, Nat.reduceLT, Nat.reduceLeDiff, Nat.reduceAdd, Nat.reduceSub, Nat.reduceMul, Nat.reduceBEq, Int.reduceLE, Int.reduceLT, Int.reduceToNat, Int.reduceNeg, BitVec.reduceToNat, decide_true, decide_false, and_true, true_and, and_self, Bool.or_true, Bool.true_or, Bool.or_false, Bool.false_or, Bool.not_true, Bool.not_false, List.map_cons, List.map_nil, List.length_cons, List.length_nil, List.getElem?_toArray, List.getElem?_cons_zero, List.getElem?_cons_succ, List.getElem?_nil, forall_const, true_implies, reduceCtorEq, false_and, and_false, false_implies, implies_true, Bool.false_eq_true, Bool.true_eq_false, ne_eq, not_true, not_false_iff, Nat.sub_zero, Nat.zero_add, Nat.add_zero, List.drop_zero, List.drop_succ_cons, List.drop_nil, List.take_zero, List.take_succ_cons, List.take_nil, List.set_cons_zero, List.set_cons_succ, List.nil_append, List.cons_append, List.append_nil, List.replicate_zero, List.replicate_succ, BitVec.ofNat_eq_ofNat, Option.some.injEq, AV.int.injEq, AV.u64.injEq, AV.u32.injEq, AV.u8.injEq, AV.bool.injEq, AV.a64.injEq, AV.a32.injEq, AV.a8.injEq, Nat.zero_le, Int.toNat_natCast, n4, cTrim, cDigit, cDigits, cWhole, cCompare, cCmp, cTimes]
    intro A ca hca B cb hcb g1
    refine loopU _ _ _ [0, 1] [0, 1] 3 (ι := {s : Nat × List U64 × U64 × Value // s.1 ≤ x.length ∧ s.2.1.length = s.1 ∧ D16 s.2.1 ∧ s.2.2.1.toNat ≤ 1 ∧ nv16 s.2.1 + nv16 (y.take s.1) = nv16 (x.take s.1) + 65536 ^ s.1 * s.2.2.1.toNat}) (fun s => [(7, .int (s.1.1 : Int)), (6, .u64 s.1.2.2.1), (5, .grow 2 s.1.2.2.2 s.1.2.1.length)]) (fun s => [(2, .row s.1.2.2.2 37 (.c64 s.1.2.1))]) (fun s => x.length - s.1.1) ?_ ?_
    · refine LeJ.slc 5 2 rfl rfl (by decide) fun v0 => ?_
      refine LeJ.mk ⟨(0, [], 0, v0), Nat.zero_le _, rfl, D16.nil, by dsimp only; decide, by simp [nv16]⟩ trivial ?_
      simp (maxSteps := 1000000) only [leS, leA, stU_env, stU_mem, pickA, getA, delA, setA, Cells.part, Cells.len, List.take_nil, List.drop_nil, List.length_nil, Nat.zero_add, ↓reduceIte, Nat.reduceEqDiff, Option.some.injEq, List.nil_append, List.cons_append, true_and, and_true, and_self, reduceCtorEq, AV.int.injEq, ME.own.injEq, ME.row.injEq, Cells.c32.injEq, Cells.c64.injEq, Cells.c8.injEq, AV.ptr.injEq, AV.ros.injEq, AV.grow.injEq, AV.u64.injEq, AV.u32.injEq]
      exact ⟨rfl, rfl⟩
    · rintro ⟨⟨k, d, c, v1⟩, hk, hl, hd, hc, hv⟩
      dsimp only at hk hl hd hc hv
      simp (maxSteps := 10000000) (implicitDefEqProofs := false) only [↓both_true, ↓both_false, ↓entryVC, ↓vc_skip, ↓vc_draw, ↓vc_list, ↓vc_seq, ↓vc_seqn, ↓vc_seqe, ↓vc_seqr, ↓vc_cond, ↓condVC, ↓vc_block, ↓vc_blockn, ↓vc_blockr, ↓vc_blocke, ↓vc_loop, ↓vc_exit, ↓vc_ret, ↓vc_loopn, ↓vc_loope, ↓vc_loopr, ↓vcl_nil, ↓vcl_cons, ↓lw_eq, ↓listVC, ↓memK, ↓memR, ↓envOf, ↓guardVC, ↓opVC, ↓pureVC, ↓binT, ↓wrapT, ↓TDsc.isW, ↓binW, ↓binVC, ↓bin8, ↓bin32, ↓bin64, ↓binInt, ↓shVC, ↓unVC, ↓cvVC, ↓rdVC, ↓loadVC, ↓pickC, ↓fillVC, ↓bndVC, ↓sliceVC, ↓bltVC, ↓storeVC, ↓appVC, ↓apzVC, ↓markVC, ↓copyVC, ↓callVC, ↓argsVC, ↓argVC, ↓bindR, ↓bindR1, ↓bindRs, ↓retW_eq, ↓extW_eq, ↓rowW_eq, ↓aggW_eq, ↓plv_nil, ↓plv_tk, ↓plv_fz, ↓plv_ld, ↓pt_eq, ↓pz_eq, ↓pl_eq, ↓delAll, ↓keepM_nil, ↓keepM, ↓extE, ↓extM, ↓leS, ↓leA, ↓retVC, ↓retR, ↓resVC, ↓resV1, ↓ressVC, ↓strU, ↓xAdd64, ↓xSub64, ↓vc_jn, ↓vc_je, ↓vc_jr, ↓pickA, ↓stU_env, ↓stU_mem, frz, both_true, both_false, both_dec, both_ndec, ev, absC, getA, setA, delA, tt, AV.good, AV.plain, AV.isSl, AV.cells, AV.one, Cells.len, Cells.get, Cells.sub, Cells.part, Cells.agg, Cells.upd, Cells.set, Cells.cat, Cells.rep, Cells.ones, TDsc.agg, zOf, putE, dstB, letGo, quietOp, slotOp, pickA, true_or, or_true, List.append_eq, Int.cast_ofNat_Int, List.any_cons, List.any_nil, beq_iff_eq, Bool.decide_eq_true, Option.getD_some, Option.getD_none, Option.map_some, Option.map_none, Option.bind_some, Option.isSome_some, Option.isNone_some, Option.isNone_none, Option.isSome_none, ↓reduceIte, Nat.reduceEqDiff, Nat.reduceLT, Nat.reduceLeDiff, Nat.reduceAdd, Nat.reduceSub, Nat.reduceMul, Nat.reduceBEq, Int.reduceLE, Int.reduceLT, Int.reduceToNat, Int.reduceNeg, BitVec.reduceToNat, decide_true, decide_false, and_true, true_and, and_self, Bool.or_true, Bool.true_or, Bool.or_false, Bool.false_or, Bool.not_true, Bool.not_false, List.map_cons, List.map_nil, List.length_cons, List.length_nil, List.getElem?_toArray, List.getElem?_cons_zero, List.getElem?_cons_succ, List.getElem?_nil, forall_const, true_implies, reduceCtorEq, false_and, and_false, false_implies, implies_true, Bool.false_eq_true, Bool.true_eq_false, ne_eq, not_true, not_false_iff, Nat.sub_zero, Nat.zero_add, Nat.add_zero, List.drop_zero, List.drop_succ_cons, List.drop_nil, List.take_zero, List.take_succ_cons, List.take_nil, List.set_cons_zero, List.set_cons_succ, List.nil_append, List.cons_append, List.append_nil, List.replicate_zero, List.replicate_succ, BitVec.ofNat_eq_ofNat, Option.some.injEq, AV.int.injEq, AV.u64.injEq, AV.u32.injEq, AV.u8.injEq, AV.bool.injEq, AV.a64.injEq, AV.a32.injEq, AV.a8.injEq, Nat.zero_le, Int.toNat_natCast, n4, cTrim, cDigit, cDigits, cWhole, cCompare, cCmp, cTimes]
      repeat (refine And.intro (by first | omega | (simp only [intIn]; omega) | decide) ?_)
      refine ⟨fun hlt => ?_, fun hge => ?_⟩
      · have g1 := hx.get k
        have g2 := hy.get k
        have em := less_dig g1 g2 hc
        have ec := less_car (v := g64 x k + 65536#64 - g64 y k - c) (by omega)
        refine draw_ _ _ _ [(.fz, 0), (.fz, 1), (.fz, 5), (.fz, 6), (.fz, 9), (.tk, 2), (.tk, 3), (.fz, 4), (.ld, 7), (.fz, 8), (.fz, 10), (.fz, 11)] [] [0, 1] (by kernel_rfl) ?_
        simp (maxSteps := 10000000) (implicitDefEqProofs := false) only [↓both_true, ↓both_false, ↓entryVC, ↓vc_skip, ↓vc_draw, ↓vc_list, ↓vc_seq, ↓vc_seqn, ↓vc_seqe, ↓vc_seqr, ↓vc_cond, ↓condVC, ↓vc_block, ↓vc_blockn, ↓vc_blockr, ↓vc_blocke, ↓vc_loop, ↓vc_exit, ↓vc_ret, ↓vc_loopn, ↓vc_loope, ↓vc_loopr, ↓vcl_nil, ↓vcl_cons, ↓lw_eq, ↓listVC, ↓memK, ↓memR, ↓envOf, ↓guardVC, ↓opVC, ↓pureVC, ↓binT, ↓wrapT, ↓TDsc.isW, ↓binW, ↓binVC, ↓bin8, ↓bin32, ↓bin64, ↓binInt, ↓shVC, ↓unVC, ↓cvVC, ↓rdVC, ↓loadVC, ↓pickC, ↓fillVC, ↓bndVC, ↓sliceVC, ↓bltVC, ↓storeVC, ↓appVC, ↓apzVC, ↓markVC, ↓copyVC, ↓callVC, ↓argsVC, ↓argVC, ↓bindR, ↓bindR1, ↓bindRs, ↓retW_eq, ↓extW_eq, ↓rowW_eq, ↓aggW_eq, ↓plv_nil, ↓plv_tk, ↓plv_fz, ↓plv_ld, ↓pt_eq, ↓pz_eq, ↓pl_eq, ↓delAll, ↓keepM_nil, ↓keepM, ↓extE, ↓extM, ↓leS, ↓leA, ↓retVC, ↓retR, ↓resVC, ↓resV1, ↓ressVC, ↓strU, ↓xAdd64, ↓xSub64, ↓vc_jn, ↓vc_je, ↓vc_jr, ↓pickA, ↓stU_env, ↓stU_mem, frz, both_true, both_false, both_dec, both_ndec, ev, absC, getA, setA, delA, tt, AV.good, AV.plain, AV.isSl, AV.cells, AV.one, Cells.len, Cells.get, Cells.sub, Cells.part, Cells.agg, Cells.upd, Cells.set, Cells.cat, Cells.rep, Cells.ones, TDsc.agg, zOf, putE, dstB, letGo, quietOp, slotOp, pickA, true_or, or_true, List.append_eq, Int.cast_ofNat_Int, List.any_cons, List.any_nil, beq_iff_eq, Bool.decide_eq_true, Option.getD_some, Option.getD_none, Option.map_some, Option.map_none, Option.bind_some, Option.isSome_some, Option.isNone_some, Option.isNone_none, Option.isSome_none, ↓reduceIte, Nat.reduceEqDiff, Nat.reduceLT, Nat.reduceLeDiff, Nat.reduceAdd, Nat.reduceSub, Nat.reduceMul, Nat.reduceBEq, Int.reduceLE, Int.reduceLT, Int.reduceToNat, Int.reduceNeg, BitVec.reduceToNat, decide_true, decide_false, and_true, true_and, and_self, Bool.or_true, Bool.true_or, Bool.or_false, Bool.false_or, Bool.not_true, Bool.not_false, List.map_cons, List.map_nil, List.length_cons, List.length_nil, List.getElem?_toArray, List.getElem?_cons_zero, List.getElem?_cons_succ, List.getElem?_nil, forall_const, true_implies, reduceCtorEq, false_and, and_false, false_implies, implies_true, Bool.false_eq_true, Bool.true_eq_false, ne_eq, not_true, not_false_iff, Nat.sub_zero, Nat.zero_add, Nat.add_zero, List.drop_zero, List.drop_succ_cons, List.drop_nil, List.take_zero, List.take_succ_cons, List.take_nil, List.set_cons_zero, List.set_cons_succ, List.nil_append, List.cons_append, List.append_nil, List.replicate_zero, List.replicate_succ, BitVec.ofNat_eq_ofNat, Option.some.injEq, AV.int.injEq, AV.u64.injEq, AV.u32.injEq, AV.u8.injEq, AV.bool.injEq, AV.a64.injEq, AV.a32.injEq, AV.a8.injEq, Nat.zero_le, Int.toNat_natCast, n4, cTrim, cDigit, cDigits, cWhole, cCompare, cCmp, cTimes]
        repeat (refine And.intro (by first | omega | (simp only [intIn, List.length_append, List.length_replicate, List.length_cons, List.length_nil, List.length_take, List.length_drop, List.length_set]; omega) | decide) ?_)
        intro g3
        repeat (refine And.intro (by first | omega | (simp only [intIn, List.length_append, List.length_replicate, List.length_cons, List.length_nil, List.length_take, List.length_drop, List.length_set]; omega) | decide) ?_)
        intro v2
        repeat (refine And.intro (by first | omega | (simp only [intIn]; omega) | decide) ?_)
        refine LeJ.mk ⟨(k + 1, d ++ [(g64 x k + 65536#64 - g64 y k - c) % 65536#64], 1#64 - (g64 x k + 65536#64 - g64 y k - c) / 65536#64, v2), by dsimp only; omega, by dsimp only; rw [List.length_append, List.length_cons, List.length_nil]; omega, hd.snoc _, by dsimp only; rw [ec]; omega, ?_⟩ (by dsimp only; omega) ?_
        · dsimp only
          rw [nv16_snoc, hl, mod16, ec, em, nv16_take_succ, nv16_take_succ, Nat.pow_succ]
          generalize 65536 ^ k = P at *
          generalize (g64 x k).toNat = a at *
          generalize (g64 y k).toNat = b at *
          generalize c.toNat = e at *
          have e3 : P * ((a + 65536 - b - e) % 65536) + P * b + P * e = P * a + P * 65536 * (1 - (a + 65536 - b - e) / 65536) := by
            rw [Nat.mul_assoc P 65536, ← Nat.mul_add, ← Nat.mul_add, ← Nat.mul_add]
            congr 1
            omega
          omega
        · simp (maxSteps := 1000000) only [leS, leA, stU_env, stU_mem, pickA, getA, delA, setA, Cells.part, Cells.len, List.take_nil, List.drop_nil, List.length_nil, Nat.zero_add, ↓reduceIte, Nat.reduceEqDiff, Option.some.injEq, List.nil_append, List.cons_append, true_and, and_true, and_self, reduceCtorEq, AV.int.injEq, ME.own.injEq, ME.row.injEq, Cells.c32.injEq, Cells.c64.injEq, Cells.c8.injEq, AV.ptr.injEq, AV.ros.injEq, AV.grow.injEq, AV.u64.injEq, AV.u32.injEq, List.length_append, List.length_cons]
          try omega
      · obtain rfl : k = x.length := by omega
        have hlx := nv16_lt x hx
        have hld := nv16_lt d hd
        rw [hl] at hld
        have hcut := nv16_cut y x.length
        rw [List.take_length] at hv
        have hdr : nv16 (y.drop x.length) = 0 := by
          refine Classical.byContradiction fun hne => ?_
          have := Nat.mul_le_mul_left (65536 ^ x.length) (show 1 ≤ nv16 (y.drop x.length) by omega)
          omega
        rw [hdr, Nat.mul_zero, Nat.add_zero] at hcut
        have hc0 : c.toNat = 0 := by
          refine Classical.byContradiction fun hne => ?_
          rw [show c.toNat = 1 by omega] at hv
          omega
        rw [hc0, Nat.mul_zero, Nat.add_zero] at hv
        repeat (refine And.intro (by first | omega | (simp only [intIn, List.length_append, List.length_replicate, List.length_cons, List.length_nil, List.length_take, List.length_drop, List.length_set]; omega) | decide) ?_)
        (try refine ⟨⟨hd, by omega⟩, ?_⟩)
        (try refine ⟨hd, ?_⟩)
        intro e he1 he2 he3 c2 hc2
        exact h e he1 (by omega) (by omega)
  · exact h.elim
def n5 : CTab := fun F => match F with
  | 127 => .fn cTrim
  | 132 => .fn cDigit
  | 92 => .fn cDigits
  | 91 => .fn cWhole
  | 113 => .fn cCompare
  | 66 => .fn cCmp
  | 130 => .fn cTimes
  | 129 => .fn cLess
  | _ => .fn noCT
theorem n5_ok : CTok Try.prog n5 := by
  intro F
  unfold n5
  split
  · exact sTrim
  · exact sDigit
  · exact sDigits
  · exact sWhole
  · exact sCompare
  · exact sCmpR
  · exact sTimes
  · exact sLess
  · exact sound_none _ _
end Go.Proofs.Ytkpbjkhgiackpaa
