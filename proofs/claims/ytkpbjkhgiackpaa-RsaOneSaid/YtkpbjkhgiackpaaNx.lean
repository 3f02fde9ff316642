/- The next digit of a quotient: the document's, by the engine. -/
import Derived.Test.YtkpbjkhgiackpaaNx0
namespace Go.Proofs.Ytkpbjkhgiackpaa
open Go Go.RowKit
set_option linter.unusedVariables false
set_option linter.unusedSimpArgs false

theorem sgn_pos {x y : Nat} : 0 < sgn x y ↔ y < x := by
  unfold sgn
  split
  · simp; omega
  · split <;> simp <;> omega
theorem sub1 {q : U64} (h : 0 < q.toNat) : (q - 1#64).toNat = q.toNat - 1 := by
  have := q.isLt
  rw [BitVec.toNat_sub]
  have z : (1#64 : U64).toNat = 1 := rfl
  rw [z]; omega
theorem nx_start {r y : List U64} {T D : U64} (hlt : nv16 r < 65536 * nv16 y) (h : nv16 r / nv16 y ≤ T.toNat / D.toNat) : nv16 r / nv16 y ≤ (if 65535 < (T / D).toNat then 65535#64 else T / D : U64).toNat ∧ (if 65535 < (T / D).toNat then 65535#64 else T / D : U64).toNat ≤ 65535 := by
  have hp : 0 < nv16 y := by omega
  have h1 : nv16 r / nv16 y < 65536 := (Nat.div_lt_iff_lt_mul hp).2 hlt
  rw [← BitVec.toNat_udiv] at h
  have h2 : (65535#64 : U64).toNat = 65535 := rfl
  split
  · rw [h2]; omega
  · omega
def cNext : CT := fun cas K => match cas with
  | [.s (.c64 r), .s (.c64 y)] => (D16 r ∧ D16 y ∧ 1 ≤ y.length ∧ y.length ≤ 20000 ∧ g64 y (y.length - 1) ≠ 0 ∧ r.length ≤ 20000 ∧ nv16 r < 65536 * nv16 y) ∧ K (.one (.v (.u64 (BitVec.ofNat 64 (nv16 r / nv16 y)))))
  | _ => False
def x0 : CTab := fun F => match F with
  | 132 => .fn cDigit
  | 130 => .fn cTimes
  | 113 => .fn cCompare
  | _ => .fn noCT
theorem x0_ok : CTok Try.prog x0 := by
  intro F
  unfold x0
  split
  · exact sDigit
  · exact sTimes
  · exact sCompare
  · exact sound_none _ _
set_option maxRecDepth 100000 in
set_option maxHeartbeats 1000000 in
theorem sNext : Sound Try.prog 128 cNext := by
  refine sound_vc (tt := tt) (ct := x0) ttok x0_ok mixed Try.func128 rfl (by decide) (rs := [.tmp 4]) rfl (ts := [37]) (k := 0) ?_
  intro cas K h
  unfold cNext at h
  split at h
  · rename_i r y
    rw [Try.ntmps128]
    refine ⟨by simp, ?_⟩
    obtain ⟨⟨hr, hy, hn, hn2, ht, hrl, hlt⟩, h⟩ := h
    simp (maxSteps := 10000000) (implicitDefEqProofs := false) only [↓both_true, ↓both_false, ↓entryVC, ↓vc_skip, ↓vc_draw, ↓vc_list, ↓vc_seq, ↓vc_seqn, ↓vc_seqe, ↓vc_seqr, ↓vc_cond, ↓condVC, ↓vc_block, ↓vc_blockn, ↓vc_blockr, ↓vc_blocke, ↓vc_loop, ↓vc_exit, ↓vc_ret, ↓vc_loopn, ↓vc_loope, ↓vc_loopr, ↓vcl_nil, ↓vcl_cons, ↓lw_eq, ↓listVC, ↓memK, ↓memR, ↓envOf, ↓guardVC, ↓opVC, ↓pureVC, ↓binT, ↓wrapT, ↓TDsc.isW, ↓binW, ↓binVC, ↓bin8, ↓bin32, ↓bin64, ↓binInt, ↓shVC, ↓unVC, ↓cvVC, ↓rdVC, ↓loadVC, ↓pickC, ↓fillVC, ↓bndVC, ↓sliceVC, ↓bltVC, ↓storeVC, ↓appVC, ↓apzVC, ↓markVC, ↓copyVC, ↓callVC, ↓argsVC, ↓argVC, ↓bindR, ↓bindR1, ↓bindRs, ↓retW_eq, ↓extW_eq, ↓rowW_eq, ↓aggW_eq, ↓plv_nil, ↓plv_tk, ↓plv_fz, ↓plv_ld, ↓pt_eq, ↓pz_eq, ↓pl_eq, ↓delAll, ↓keepM_nil, ↓keepM, ↓extE, ↓extM, ↓leS, ↓leA, ↓retVC, ↓retR, ↓resVC, ↓resV1, ↓ressVC, ↓strU, ↓xAdd64, ↓xSub64, ↓vc_jn, ↓vc_je, ↓vc_jr, ↓pickA, ↓stU_env, ↓stU_mem, frz, both_true, both_false, both_dec, both_ndec, ev, absC, getA, setA, delA, tt, AV.good, AV.plain, AV.isSl, AV.cells, AV.one, Cells.len, Cells.get, Cells.sub, Cells.part, Cells.agg, Cells.upd, Cells.set, Cells.cat, Cells.rep, Cells.ones, TDsc.agg, zOf, putE, dstB, letGo, quietOp, slotOp, pickA, true_or, or_true, List.append_eq, Int.cast_ofNat_Int, List.any_cons, List.any_nil, beq_iff_eq, Bool.decide_eq_true, Option.getD_some, Option.getD_none, Option.map_some, Option.map_none, Option.bind_some, Option.isSome_some, Option.isNone_some, Option.isNone_none, Option.isSome_none, ↓reduceIte, Nat.reduceEqDiff, Nat.reduceLT, Nat.reduceLeDiff, Nat.reduceAdd, Nat.reduceSub, Nat.reduceMul, Nat.reduceBEq, Int.reduceLE, Int.reduceLT, Int.reduceToNat, Int.reduceNeg, BitVec.reduceToNat, decide_true, decide_false, and_true, true_and, and_self, Bool.or_true, Bool.true_or, Bool.or_false, Bool.false_or, Bool.not_true, Bool.not_false, List.map_cons, List.map_nil, List.length_cons, List.length_nil, List.getElem?_toArray, List.getElem?_cons_zero, List.getElem?_cons_succ, List.getElem?_nil, forall_const, true_implies, reduceCtorEq, false_and, and_false, false_implies, implies_true, Bool.false_eq_true, Bool.true_eq_false, ne_eq, not_true, not_false_iff, Nat.sub_zero, Nat.zero_add, Nat.add_zero, List.drop_zero, List.drop_succ_cons, List.drop_nil, List.take_zero, List.take_succ_cons, List.take_nil, List.set_cons_zero, List.set_cons_succ, List.nil_append, List.cons_append, List.append_nil, List.replicate_zero, List.replicate_succ, BitVec.ofNat_eq_ofNat, Option.some.injEq, AV.int.injEq, AV.u64.injEq, AV.u32.injEq, AV.u8.injEq, AV.bool.injEq, AV.a64.injEq, AV.a32.injEq, AV.a8.injEq, Nat.zero_le, Int.toNat_natCast, x0, cDigit, cTimes, cCompare, List.getD_cons_zero]
    intro A ca hca B cb hcb
    refine draw_ _ _ _ [(.fz, 0), (.fz, 1), (.fz, 4), (.fz, 5), (.fz, 6), (.fz, 9), (.fz, 10), (.fz, 11), (.tk, 12), (.tk, 13), (.ld, 2), (.fz, 3), (.ld, 7), (.fz, 8), (.fz, 14), (.fz, 15)] [] [] (by kernel_rfl) ?_
    simp (maxSteps := 10000000) (implicitDefEqProofs := false) only [↓both_true, ↓both_false, ↓entryVC, ↓vc_skip, ↓vc_draw, ↓vc_list, ↓vc_seq, ↓vc_seqn, ↓vc_seqe, ↓vc_seqr, ↓vc_cond, ↓condVC, ↓vc_block, ↓vc_blockn, ↓vc_blockr, ↓vc_blocke, ↓vc_loop, ↓vc_exit, ↓vc_ret, ↓vc_loopn, ↓vc_loope, ↓vc_loopr, ↓vcl_nil, ↓vcl_cons, ↓lw_eq, ↓listVC, ↓memK, ↓memR, ↓envOf, ↓guardVC, ↓opVC, ↓pureVC, ↓binT, ↓wrapT, ↓TDsc.isW, ↓binW, ↓binVC, ↓bin8, ↓bin32, ↓bin64, ↓binInt, ↓shVC, ↓unVC, ↓cvVC, ↓rdVC, ↓loadVC, ↓pickC, ↓fillVC, ↓bndVC, ↓sliceVC, ↓bltVC, ↓storeVC, ↓appVC, ↓apzVC, ↓markVC, ↓copyVC, ↓callVC, ↓argsVC, ↓argVC, ↓bindR, ↓bindR1, ↓bindRs, ↓retW_eq, ↓extW_eq, ↓rowW_eq, ↓aggW_eq, ↓plv_nil, ↓plv_tk, ↓plv_fz, ↓plv_ld, ↓pt_eq, ↓pz_eq, ↓pl_eq, ↓delAll, ↓keepM_nil, ↓keepM, ↓extE, ↓extM, ↓leS, ↓leA, ↓retVC, ↓retR, ↓resVC, ↓resV1, ↓ressVC, ↓strU, ↓xAdd64, ↓xSub64, ↓vc_jn, ↓vc_je, ↓vc_jr, ↓pickA, ↓stU_env, ↓stU_mem, frz, both_true, both_false, both_dec, both_ndec, ev, absC, getA, setA, delA, tt, AV.good, AV.plain, AV.isSl, AV.cells, AV.one, Cells.len, Cells.get, Cells.sub, Cells.part, Cells.agg, Cells.upd, Cells.set, Cells.cat, Cells.rep, Cells.ones, TDsc.agg, zOf, putE, dstB, letGo, quietOp, slotOp, pickA, true_or, or_true, List.append_eq, Int.cast_ofNat_Int, List.any_cons, List.any_nil, beq_iff_eq, Bool.decide_eq_true, Option.getD_some, Option.getD_none, Option.map_some, Option.map_none, Option.bind_some, Option.isSome_some, Option.isNone_some, Option.isNone_none, Option.isSome_none, ↓reduceIte, Nat.reduceEqDiff, Nat.reduceLT, Nat.reduceLeDiff, Nat.reduceAdd, Nat.reduceSub, Nat.reduceMul, Nat.reduceBEq, Int.reduceLE, Int.reduceLT, Int.reduceToNat, Int.reduceNeg, BitVec.reduceToNat, decide_true, decide_false, and_true, true_and, and_self, Bool.or_true, Bool.true_or, Bool.or_false, Bool.false_or, Bool.not_true, Bool.not_false, List.map_cons, List.map_nil, List.length_cons, List.length_nil, List.getElem?_toArray, List.getElem?_cons_zero, List.getElem?_cons_succ, List.getElem?_nil, forall_const, true_implies, reduceCtorEq, false_and, and_false, false_implies, implies_true, Bool.false_eq_true, Bool.true_eq_false, ne_eq, not_true, not_false_iff, Nat.sub_zero, Nat.zero_add, Nat.add_zero, List.drop_zero, List.drop_succ_cons, List.drop_nil, List.take_zero, List.take_succ_cons, List.take_nil, List.set_cons_zero, List.set_cons_succ, List.nil_append, List.cons_append, List.append_nil, List.replicate_zero, List.replicate_succ, BitVec.ofNat_eq_ofNat, Option.some.injEq, AV.int.injEq, AV.u64.injEq, AV.u32.injEq, AV.u8.injEq, AV.bool.injEq, AV.a64.injEq, AV.a32.injEq, AV.a8.injEq, Nat.zero_le, Int.toNat_natCast, x0, cDigit, cTimes, cCompare, List.getD_cons_zero]
    have t1 : ((y.length : Int) - 1).toNat = y.length - 1 := by omega
    have t2 : ((y.length : Int) - 2).toNat = y.length - 2 := by omega
    simp only [t1, t2]
    have hp : 0 < nv16 y := by omega
    have g1 := hr.get y.length
    have g2 := hr.get (y.length - 1)
    have g3 := hr.get (y.length - 2)
    have g4 := hy.get (y.length - 1)
    have g5 := hy.get (y.length - 2)
    have gt : 0 < (g64 y (y.length - 1)).toNat := by
      rcases Nat.eq_zero_or_pos (g64 y (y.length - 1)).toNat with h9 | h9
      · exact absurd (BitVec.eq_of_toNat_eq h9) ht
      · exact h9
    refine ⟨by simp only [intIn]; omega, by simp only [intIn]; omega, ⟨by omega, by omega⟩, by omega, by omega, by omega, by omega, fun h1 => ?_, fun h1 => ?_⟩
    · obtain ⟨e1, e2⟩ := nx_T2 hr hy (by omega) hlt
      have eD : (g64 y (y.length - 1) * 65536#64 + g64 y (y.length - 2) : U64).toNat = nv16 y / 65536 ^ (y.length - 2) := by
        rw [← e2, BitVec.toNat_add, BitVec.toNat_mul]
        show ((g64 y (y.length - 1)).toNat * 65536 % 2 ^ 64 + (g64 y (y.length - 2)).toNat) % 2 ^ 64 = _
        omega
      have eT : ((g64 r y.length * 65536#64 + g64 r (y.length - 1)) * 65536#64 + g64 r (y.length - 2) : U64).toNat = nv16 r / 65536 ^ (y.length - 2) := by
        rw [← e1, BitVec.toNat_add, BitVec.toNat_mul, BitVec.toNat_add, BitVec.toNat_mul]
        show ((((g64 r y.length).toNat * 65536 % 2 ^ 64 + (g64 r (y.length - 1)).toNat) % 2 ^ 64) * 65536 % 2 ^ 64 + (g64 r (y.length - 2)).toNat) % 2 ^ 64 = _
        omega
      have hDp : 0 < nv16 y / 65536 ^ (y.length - 2) := by omega
      have hle := nx_le (W := nv16 r) (V := nv16 y) (Nat.pow_pos (by decide)) hDp
      generalize (g64 y (y.length - 1) * 65536#64 + g64 y (y.length - 2) : U64) = D at *
      generalize ((g64 r y.length * 65536#64 + g64 r (y.length - 1)) * 65536#64 + g64 r (y.length - 2) : U64) = T at *
      rw [← eT, ← eD] at hle
      refine ⟨by simp only [intIn]; omega, by omega, by simp only [intIn]; omega, ⟨by omega, by omega⟩, by omega, by omega, fun e => by rw [e] at eD; simp at eD; omega, ?_⟩
      obtain ⟨X, hX⟩ : ∃ X, X = nv16 r / nv16 y := ⟨_, rfl⟩
      have ns := nx_start hlt hle
      rw [← hX] at h ns
      refine loopU _ _ _ [0, 1] [0, 1] 2 (ι := {q : U64 // X ≤ q.toNat ∧ q.toNat ≤ 65535}) (fun s => [(8, .u64 s.1)]) (fun _ => []) (fun s => s.1.toNat) ?_ ?_
      · refine LeJ.mk ⟨_, ns⟩ trivial ?_
        simp (maxSteps := 1000000) only [leS, leA, stU_env, stU_mem, pickA, getA, delA, setA, Cells.part, Cells.len, List.take_nil, List.drop_nil, List.length_nil, Nat.zero_add, ↓reduceIte, Nat.reduceEqDiff, Option.some.injEq, List.nil_append, List.cons_append, true_and, and_true, and_self, reduceCtorEq, AV.int.injEq, ME.own.injEq, ME.row.injEq, Cells.c32.injEq, Cells.c64.injEq, Cells.c8.injEq, AV.ptr.injEq, AV.ros.injEq, AV.grow.injEq, AV.u64.injEq, AV.u32.injEq]
        first | done | rfl
      · rintro ⟨q, hq1, hq2⟩
        simp (maxSteps := 10000000) (implicitDefEqProofs := false) only [↓both_true, ↓both_false, ↓entryVC, ↓vc_skip, ↓vc_draw, ↓vc_list, ↓vc_seq, ↓vc_seqn, ↓vc_seqe, ↓vc_seqr, ↓vc_cond, ↓condVC, ↓vc_block, ↓vc_blockn, ↓vc_blockr, ↓vc_blocke, ↓vc_loop, ↓vc_exit, ↓vc_ret, ↓vc_loopn, ↓vc_loope, ↓vc_loopr, ↓vcl_nil, ↓vcl_cons, ↓lw_eq, ↓listVC, ↓memK, ↓memR, ↓envOf, ↓guardVC, ↓opVC, ↓pureVC, ↓binT, ↓wrapT, ↓TDsc.isW, ↓binW, ↓binVC, ↓bin8, ↓bin32, ↓bin64, ↓binInt, ↓shVC, ↓unVC, ↓cvVC, ↓rdVC, ↓loadVC, ↓pickC, ↓fillVC, ↓bndVC, ↓sliceVC, ↓bltVC, ↓storeVC, ↓appVC, ↓apzVC, ↓markVC, ↓copyVC, ↓callVC, ↓argsVC, ↓argVC, ↓bindR, ↓bindR1, ↓bindRs, ↓retW_eq, ↓extW_eq, ↓rowW_eq, ↓aggW_eq, ↓plv_nil, ↓plv_tk, ↓plv_fz, ↓plv_ld, ↓pt_eq, ↓pz_eq, ↓pl_eq, ↓delAll, ↓keepM_nil, ↓keepM, ↓extE, ↓extM, ↓leS, ↓leA, ↓retVC, ↓retR, ↓resVC, ↓resV1, ↓ressVC, ↓strU, ↓xAdd64, ↓xSub64, ↓vc_jn, ↓vc_je, ↓vc_jr, ↓pickA, ↓stU_env, ↓stU_mem, frz, both_true, both_false, both_dec, both_ndec, ev, absC, getA, setA, delA, tt, AV.good, AV.plain, AV.isSl, AV.cells, AV.one, Cells.len, Cells.get, Cells.sub, Cells.part, Cells.agg, Cells.upd, Cells.set, Cells.cat, Cells.rep, Cells.ones, TDsc.agg, zOf, putE, dstB, letGo, quietOp, slotOp, pickA, true_or, or_true, List.append_eq, Int.cast_ofNat_Int, List.any_cons, List.any_nil, beq_iff_eq, Bool.decide_eq_true, Option.getD_some, Option.getD_none, Option.map_some, Option.map_none, Option.bind_some, Option.isSome_some, Option.isNone_some, Option.isNone_none, Option.isSome_none, ↓reduceIte, Nat.reduceEqDiff, Nat.reduceLT, Nat.reduceLeDiff, Nat.reduceAdd, Nat.reduceSub, Nat.reduceMul, Nat.reduceBEq, Int.reduceLE, Int.reduceLT, Int.reduceToNat, Int.reduceNeg, BitVec.reduceToNat, decide_true, decide_false, and_true, true_and, and_self, Bool.or_true, Bool.true_or, Bool.or_false, Bool.false_or, Bool.not_true, Bool.not_false, List.map_cons, List.map_nil, List.length_cons, List.length_nil, List.getElem?_toArray, List.getElem?_cons_zero, List.getElem?_cons_succ, List.getElem?_nil, forall_const, true_implies, reduceCtorEq, false_and, and_false, false_implies, implies_true, Bool.false_eq_true, Bool.true_eq_false, ne_eq, not_true, not_false_iff, Nat.sub_zero, Nat.zero_add, Nat.add_zero, List.drop_zero, List.drop_succ_cons, List.drop_nil, List.take_zero, List.take_succ_cons, List.take_nil, List.set_cons_zero, List.set_cons_succ, List.nil_append, List.cons_append, List.append_nil, List.replicate_zero, List.replicate_succ, BitVec.ofNat_eq_ofNat, Option.some.injEq, AV.int.injEq, AV.u64.injEq, AV.u32.injEq, AV.u8.injEq, AV.bool.injEq, AV.a64.injEq, AV.a32.injEq, AV.a8.injEq, Nat.zero_le, Int.toNat_natCast, x0, cDigit, cTimes, cCompare, List.getD_cons_zero]
        refine ⟨⟨hy, by omega, by omega⟩, fun e he hev hel A1 c hc => ⟨⟨he.dig, hr, by omega, by omega⟩, fun hgt => ?_, fun hngt => ?_⟩⟩
        · have hlt2 := sgn_pos.1 hgt
          rw [hev] at hlt2
          have hq3 : X < q.toNat := by rw [hX]; exact Nat.div_lt_of_lt_mul hlt2
          have hs := sub1 (q := q) (by omega)
          refine LeJ.mk ⟨q - 1#64, by rw [hs]; omega, by rw [hs]; omega⟩ (by dsimp only; rw [hs]; omega) ?_
          simp (maxSteps := 1000000) only [leS, leA, stU_env, stU_mem, pickA, getA, delA, setA, Cells.part, Cells.len, List.take_nil, List.drop_nil, List.length_nil, Nat.zero_add, ↓reduceIte, Nat.reduceEqDiff, Option.some.injEq, List.nil_append, List.cons_append, true_and, and_true, and_self, reduceCtorEq, AV.int.injEq, ME.own.injEq, ME.row.injEq, Cells.c32.injEq, Cells.c64.injEq, Cells.c8.injEq, AV.ptr.injEq, AV.ros.injEq, AV.grow.injEq, AV.u64.injEq, AV.u32.injEq]
          first | done | rfl | exact ⟨rfl, rfl⟩
        · have hle2 : nv16 e ≤ nv16 r := by
            have := mt sgn_pos.2 hngt; omega
          rw [hev] at hle2
          have hq3 : q.toNat ≤ X := by rw [hX]; exact (Nat.le_div_iff_mul_le hp).2 (by rw [Nat.mul_comm]; exact hle2)
          rw [show q = BitVec.ofNat 64 X from BitVec.eq_of_toNat_eq (by rw [BitVec.toNat_ofNat]; omega)]
          exact h
    · obtain ⟨e1, e2⟩ := nx_T1 hr hy (by omega) hlt
      have hy1 : y.length = 1 := by omega
      have q1 : g64 r y.length = g64 r 1 := by rw [hy1]
      have q2 : g64 r (y.length - 1) = g64 r 0 := by rw [hy1]
      have q3 : g64 y (y.length - 1) = g64 y 0 := by rw [hy1]
      rw [q1] at g1 ⊢
      rw [q2] at g2 ⊢
      rw [q3] at g4 gt ⊢
      have eD : (g64 y 0 : U64).toNat = nv16 y := e2
      have eT : (g64 r 1 * 65536#64 + g64 r 0 : U64).toNat = nv16 r := by
        rw [← e1, BitVec.toNat_add, BitVec.toNat_mul]
        show ((g64 r 1).toNat * 65536 % 2 ^ 64 + (g64 r 0).toNat) % 2 ^ 64 = _
        omega
      have hle : nv16 r / nv16 y ≤ (g64 r 1 * 65536#64 + g64 r 0 : U64).toNat / (g64 y 0 : U64).toNat := by rw [eT, eD]; exact Nat.le_refl _
      clear ht q3
      generalize (g64 y 0 : U64) = D at *
      generalize (g64 r 1 * 65536#64 + g64 r 0 : U64) = T at *
      refine ⟨fun e => by rw [e] at gt; exact absurd gt (by decide), ?_⟩
      obtain ⟨X, hX⟩ : ∃ X, X = nv16 r / nv16 y := ⟨_, rfl⟩
      have ns := nx_start hlt hle
      rw [← hX] at h ns
      refine loopU _ _ _ [0, 1] [0, 1] 2 (ι := {q : U64 // X ≤ q.toNat ∧ q.toNat ≤ 65535}) (fun s => [(8, .u64 s.1)]) (fun _ => []) (fun s => s.1.toNat) ?_ ?_
      · refine LeJ.mk ⟨_, ns⟩ trivial ?_
        simp (maxSteps := 1000000) only [leS, leA, stU_env, stU_mem, pickA, getA, delA, setA, Cells.part, Cells.len, List.take_nil, List.drop_nil, List.length_nil, Nat.zero_add, ↓reduceIte, Nat.reduceEqDiff, Option.some.injEq, List.nil_append, List.cons_append, true_and, and_true, and_self, reduceCtorEq, AV.int.injEq, ME.own.injEq, ME.row.injEq, Cells.c32.injEq, Cells.c64.injEq, Cells.c8.injEq, AV.ptr.injEq, AV.ros.injEq, AV.grow.injEq, AV.u64.injEq, AV.u32.injEq]
        first | done | rfl
      · rintro ⟨q, hq1, hq2⟩
        simp (maxSteps := 10000000) (implicitDefEqProofs := false) only [↓both_true, ↓both_false, ↓entryVC, ↓vc_skip, ↓vc_draw, ↓vc_list, ↓vc_seq, ↓vc_seqn, ↓vc_seqe, ↓vc_seqr, ↓vc_cond, ↓condVC, ↓vc_block, ↓vc_blockn, ↓vc_blockr, ↓vc_blocke, ↓vc_loop, ↓vc_exit, ↓vc_ret, ↓vc_loopn, ↓vc_loope, ↓vc_loopr, ↓vcl_nil, ↓vcl_cons, ↓lw_eq, ↓listVC, ↓memK, ↓memR, ↓envOf, ↓guardVC, ↓opVC, ↓pureVC, ↓binT, ↓wrapT, ↓TDsc.isW, ↓binW, ↓binVC, ↓bin8, ↓bin32, ↓bin64, ↓binInt, ↓shVC, ↓unVC, ↓cvVC, ↓rdVC, ↓loadVC, ↓pickC, ↓fillVC, ↓bndVC, ↓sliceVC, ↓bltVC, ↓storeVC, ↓appVC, ↓apzVC, ↓markVC, ↓copyVC, ↓callVC, ↓argsVC, ↓argVC, ↓bindR, ↓bindR1, ↓bindRs, ↓retW_eq, ↓extW_eq, ↓rowW_eq, ↓aggW_eq, ↓plv_nil, ↓plv_tk, ↓plv_fz, ↓plv_ld, ↓pt_eq, ↓pz_eq, ↓pl_eq, ↓delAll, ↓keepM_nil, ↓keepM, ↓extE, ↓extM, ↓leS, ↓leA, ↓retVC, ↓retR, ↓resVC, ↓resV1, ↓ressVC, ↓strU, ↓xAdd64, ↓xSub64, ↓vc_jn, ↓vc_je, ↓vc_jr, ↓pickA, ↓stU_env, ↓stU_mem, frz, both_true, both_false, both_dec, both_ndec, ev, absC, getA, setA, delA, tt, AV.good, AV.plain, AV.isSl, AV.cells, AV.one, Cells.len, Cells.get, Cells.sub, Cells.part, Cells.agg, Cells.upd, Cells.set, Cells.cat, Cells.rep, Cells.ones, TDsc.agg, zOf, putE, dstB, letGo, quietOp, slotOp, pickA, true_or, or_true, List.append_eq, Int.cast_ofNat_Int, List.any_cons, List.any_nil, beq_iff_eq, Bool.decide_eq_true, Option.getD_some, Option.getD_none, Option.map_some, Option.map_none, Option.bind_some, Option.isSome_some, Option.isNone_some, Option.isNone_none, Option.isSome_none, ↓reduceIte, Nat.reduceEqDiff, Nat.reduceLT, Nat.reduceLeDiff, Nat.reduceAdd, Nat.reduceSub, Nat.reduceMul, Nat.reduceBEq, Int.reduceLE, Int.reduceLT, Int.reduceToNat, Int.reduceNeg, BitVec.reduceToNat, decide_true, decide_false, and_true, true_and, and_self, Bool.or_true, Bool.true_or, Bool.or_false, Bool.false_or, Bool.not_true, Bool.not_false, List.map_cons, List.map_nil, List.length_cons, List.length_nil, List.getElem?_toArray, List.getElem?_cons_zero, List.getElem?_cons_succ, List.getElem?_nil, forall_const, true_implies, reduceCtorEq, false_and, and_false, false_implies, implies_true, Bool.false_eq_true, Bool.true_eq_false, ne_eq, not_true, not_false_iff, Nat.sub_zero, Nat.zero_add, Nat.add_zero, List.drop_zero, List.drop_succ_cons, List.drop_nil, List.take_zero, List.take_succ_cons, List.take_nil, List.set_cons_zero, List.set_cons_succ, List.nil_append, List.cons_append, List.append_nil, List.replicate_zero, List.replicate_succ, BitVec.ofNat_eq_ofNat, Option.some.injEq, AV.int.injEq, AV.u64.injEq, AV.u32.injEq, AV.u8.injEq, AV.bool.injEq, AV.a64.injEq, AV.a32.injEq, AV.a8.injEq, Nat.zero_le, Int.toNat_natCast, x0, cDigit, cTimes, cCompare, List.getD_cons_zero]
        refine ⟨⟨hy, by omega, by omega⟩, fun e he hev hel A1 c hc => ⟨⟨he.dig, hr, by omega, by omega⟩, fun hgt => ?_, fun hngt => ?_⟩⟩
        · have hlt2 := sgn_pos.1 hgt
          rw [hev] at hlt2
          have hq3 : X < q.toNat := by rw [hX]; exact Nat.div_lt_of_lt_mul hlt2
          have hs := sub1 (q := q) (by omega)
          refine LeJ.mk ⟨q - 1#64, by rw [hs]; omega, by rw [hs]; omega⟩ (by dsimp only; rw [hs]; omega) ?_
          simp (maxSteps := 1000000) only [leS, leA, stU_env, stU_mem, pickA, getA, delA, setA, Cells.part, Cells.len, List.take_nil, List.drop_nil, List.length_nil, Nat.zero_add, ↓reduceIte, Nat.reduceEqDiff, Option.some.injEq, List.nil_append, List.cons_append, true_and, and_true, and_self, reduceCtorEq, AV.int.injEq, ME.own.injEq, ME.row.injEq, Cells.c32.injEq, Cells.c64.injEq, Cells.c8.injEq, AV.ptr.injEq, AV.ros.injEq, AV.grow.injEq, AV.u64.injEq, AV.u32.injEq]
          first | done | rfl | exact ⟨rfl, rfl⟩
        · have hle2 : nv16 e ≤ nv16 r := by
            have := mt sgn_pos.2 hngt; omega
          rw [hev] at hle2
          have hq3 : q.toNat ≤ X := by rw [hX]; exact (Nat.le_div_iff_mul_le hp).2 (by rw [Nat.mul_comm]; exact hle2)
          rw [show q = BitVec.ofNat 64 X from BitVec.eq_of_toNat_eq (by rw [BitVec.toNat_ofNat]; omega)]
          exact h
  · exact h.elim
end Go.Proofs.Ytkpbjkhgiackpaa
