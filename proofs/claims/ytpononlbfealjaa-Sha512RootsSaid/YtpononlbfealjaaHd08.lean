/- The padded bytes and the hash, by the engine. -/
import Derived.Test.YtpononlbfealjaaHc08
namespace Go.Proofs.Ytpononlbfealjaa
open Go Go.RowKit
set_option linter.unusedVariables false
set_option linter.unusedSimpArgs false

theorem zc_step (L j : Nat) (h : j ≤ zc L) : ((L + j) % 128 = 112) = (j = zc L) := by
  unfold zc at *
  apply propext
  omega
theorem zc_lt (L : Nat) : zc L < 128 := by unfold zc; omega
theorem mlen (L : Nat) : BitVec.ofInt 64 (L : Int) * 8#64 = BitVec.ofNat 64 (L * 8) := by
  rw [BitVec.ofInt_natCast]
  apply BitVec.eq_of_toNat_eq
  simp [BitVec.toNat_mul]
def lenP (M : U64) (k : Nat) : List U8 := lenB M k
def cPadded : CT := fun cas K => match cas with
  | [.s (.c8 bs)] => bs.length ≤ 1000000 ∧ K (.one (.s (.c8 (padF bs))))
  | _ => False
def h4 : CTab := fun F => match F with
  | _ => .fn noCT
theorem h4_ok : CTok Try.prog h4 := by
  intro F
  unfold h4
  split
  · exact sound_none _ _
set_option maxRecDepth 100000 in
set_option maxHeartbeats 1000000 in
theorem sPadded : Sound Try.prog 28 cPadded := by
  refine sound_vc (tt := tt) (ct := h4) ttok h4_ok mixed Try.func28 rfl (by decide) (rs := [.tmp 2]) rfl (ts := [31]) (k := 0) ?_
  intro cas K h
  unfold cPadded at h
  split at h
  · rename_i bs
    rw [Try.ntmps28]
    refine ⟨by simp, ?_⟩
    obtain ⟨hl, h⟩ := h
    simp (maxSteps := 10000000) (implicitDefEqProofs := false) only [↓both_true, ↓both_false, ↓entryVC, ↓vc_skip, ↓vc_draw, ↓vc_list, ↓vc_seq, ↓vc_seqn, ↓vc_seqe, ↓vc_seqr, ↓vc_cond, ↓condVC, ↓vc_block, ↓vc_blockn, ↓vc_blockr, ↓vc_blocke, ↓vc_loop, ↓vc_exit, ↓vc_ret, ↓vc_loopn, ↓vc_loope, ↓vc_loopr, ↓vcl_nil, ↓vcl_cons, ↓lw_eq, ↓guardVC, ↓opVC, ↓pureVC, ↓binVC, ↓bin8, ↓bin32, ↓bin64, ↓binInt, ↓shVC, ↓unVC, ↓cvVC, ↓rdVC, ↓loadVC, ↓pickC, ↓fillVC, ↓bndVC, ↓sliceVC, ↓bltVC, ↓storeVC, ↓appVC, ↓apzVC, ↓markVC, ↓copyVC, ↓callVC, ↓argsVC, ↓argVC, ↓bindR, ↓bindR1, ↓bindRs, ↓retW_eq, ↓extW_eq, ↓rowW_eq, ↓aggW_eq, ↓plv_nil, ↓plv_tk, ↓plv_fz, ↓plv_ld, ↓pt_eq, ↓pz_eq, ↓pl_eq, ↓delAll, ↓keepM, ↓extM, ↓leS, ↓leA, ↓retVC, ↓retR, ↓resVC, ↓resV1, ↓ressVC, ↓xAdd64, ↓xSub64, ↓vc_jn, ↓vc_je, ↓vc_jr, ↓pickA, ↓stU_env, ↓stU_mem, both_true, both_false, both_dec, both_ndec, ev, absC, getA, setA, delA, tt, AV.good, AV.plain, AV.isSl, AV.cells, AV.one, Cells.len, Cells.get, Cells.sub, Cells.part, Cells.agg, Cells.upd, Cells.set, Cells.cat, Cells.rep, Cells.ones, TDsc.agg, zOf, putE, dstB, letGo, quietOp, slotOp, pickA, List.append_eq, Int.cast_ofNat_Int, List.any_cons, List.any_nil, beq_iff_eq, Bool.decide_eq_true, Option.getD_some, Option.getD_none, Option.map_some, Option.map_none, Option.bind_some, Option.isSome_some, Option.isNone_some, Option.isNone_none, Option.isSome_none, ↓reduceIte, Nat.reduceEqDiff, Nat.reduceLT, Nat.reduceLeDiff, Nat.reduceAdd, Nat.reduceSub, Nat.reduceMul, Nat.reduceBEq, Int.reduceLE, Int.reduceLT, Int.reduceToNat, Int.reduceNeg, BitVec.reduceToNat, decide_true, decide_false, and_true, true_and, and_self, Bool.or_true, Bool.true_or, Bool.or_false, Bool.false_or, Bool.not_true, Bool.not_false, List.map_cons, List.map_nil, List.length_cons, List.length_nil, List.getElem?_toArray, List.getElem?_cons_zero, List.getElem?_cons_succ, List.getElem?_nil, forall_const, true_implies, reduceCtorEq, false_and, and_false, false_implies, implies_true, Bool.false_eq_true, Bool.true_eq_false, ne_eq, not_true, not_false_iff, Nat.sub_zero, Nat.zero_add, Nat.add_zero, List.drop_zero, List.drop_succ_cons, List.drop_nil, List.take_zero, List.take_succ_cons, List.take_nil, List.set_cons_zero, List.set_cons_succ, List.nil_append, List.cons_append, List.append_nil, List.replicate_zero, List.replicate_succ, BitVec.ofNat_eq_ofNat, Option.some.injEq, AV.int.injEq, AV.u64.injEq, AV.u32.injEq, AV.u8.injEq, AV.bool.injEq, AV.a64.injEq, AV.a32.injEq, AV.a8.injEq, Nat.zero_le, Int.toNat_natCast, h4, List.length_append, List.length_replicate]
    intro A ca hca g1
    repeat (refine And.intro (by first | omega | (simp only [intIn, List.length_append, List.length_replicate, List.length_cons, List.length_nil, lenB_length, z8_length]; omega)) ?_)
    intro v1 g2
    repeat (refine And.intro (by first | omega | (simp only [intIn, List.length_append, List.length_replicate, List.length_cons, List.length_nil, lenB_length, z8_length]; omega)) ?_)
    intro v2
    refine loopU _ _ _ [0] [0] 4 (ι := {s : Nat × Value // s.1 ≤ zc (bs.length + 1)}) (fun s => [(3, .grow 2 s.1.2 (bs.length + 1 + s.1.1))]) (fun s => [(2, .row s.1.2 5 (.c8 (bs ++ [128] ++ List.replicate s.1.1 0)))]) (fun s => zc (bs.length + 1) - s.1.1) ?_ ?_
    · refine LeJ.mk ⟨(0, v2), by dsimp only; omega⟩ trivial ?_
      simp (maxSteps := 1000000) only [leS, leA, stU_env, stU_mem, pickA, getA, delA, setA, Cells.part, Cells.len, List.take_nil, List.drop_nil, List.length_nil, Nat.zero_add, ↓reduceIte, Nat.reduceEqDiff, Option.some.injEq, List.nil_append, List.cons_append, true_and, and_true, and_self, reduceCtorEq, AV.int.injEq, ME.own.injEq, ME.row.injEq, Cells.c32.injEq, Cells.c64.injEq, Cells.c8.injEq, AV.ptr.injEq, AV.ros.injEq, AV.grow.injEq, AV.u64.injEq, AV.u32.injEq]
      simp
    · rintro ⟨⟨j, v3⟩, hj⟩
      dsimp only at hj
      have hzl := zc_lt (bs.length + 1)
      simp (maxSteps := 10000000) (implicitDefEqProofs := false) only [↓both_true, ↓both_false, ↓entryVC, ↓vc_skip, ↓vc_draw, ↓vc_list, ↓vc_seq, ↓vc_seqn, ↓vc_seqe, ↓vc_seqr, ↓vc_cond, ↓condVC, ↓vc_block, ↓vc_blockn, ↓vc_blockr, ↓vc_blocke, ↓vc_loop, ↓vc_exit, ↓vc_ret, ↓vc_loopn, ↓vc_loope, ↓vc_loopr, ↓vcl_nil, ↓vcl_cons, ↓lw_eq, ↓guardVC, ↓opVC, ↓pureVC, ↓binVC, ↓bin8, ↓bin32, ↓bin64, ↓binInt, ↓shVC, ↓unVC, ↓cvVC, ↓rdVC, ↓loadVC, ↓pickC, ↓fillVC, ↓bndVC, ↓sliceVC, ↓bltVC, ↓storeVC, ↓appVC, ↓apzVC, ↓markVC, ↓copyVC, ↓callVC, ↓argsVC, ↓argVC, ↓bindR, ↓bindR1, ↓bindRs, ↓retW_eq, ↓extW_eq, ↓rowW_eq, ↓aggW_eq, ↓plv_nil, ↓plv_tk, ↓plv_fz, ↓plv_ld, ↓pt_eq, ↓pz_eq, ↓pl_eq, ↓delAll, ↓keepM, ↓extM, ↓leS, ↓leA, ↓retVC, ↓retR, ↓resVC, ↓resV1, ↓ressVC, ↓xAdd64, ↓xSub64, ↓vc_jn, ↓vc_je, ↓vc_jr, ↓pickA, ↓stU_env, ↓stU_mem, both_true, both_false, both_dec, both_ndec, ev, absC, getA, setA, delA, tt, AV.good, AV.plain, AV.isSl, AV.cells, AV.one, Cells.len, Cells.get, Cells.sub, Cells.part, Cells.agg, Cells.upd, Cells.set, Cells.cat, Cells.rep, Cells.ones, TDsc.agg, zOf, putE, dstB, letGo, quietOp, slotOp, pickA, List.append_eq, Int.cast_ofNat_Int, List.any_cons, List.any_nil, beq_iff_eq, Bool.decide_eq_true, Option.getD_some, Option.getD_none, Option.map_some, Option.map_none, Option.bind_some, Option.isSome_some, Option.isNone_some, Option.isNone_none, Option.isSome_none, ↓reduceIte, Nat.reduceEqDiff, Nat.reduceLT, Nat.reduceLeDiff, Nat.reduceAdd, Nat.reduceSub, Nat.reduceMul, Nat.reduceBEq, Int.reduceLE, Int.reduceLT, Int.reduceToNat, Int.reduceNeg, BitVec.reduceToNat, decide_true, decide_false, and_true, true_and, and_self, Bool.or_true, Bool.true_or, Bool.or_false, Bool.false_or, Bool.not_true, Bool.not_false, List.map_cons, List.map_nil, List.length_cons, List.length_nil, List.getElem?_toArray, List.getElem?_cons_zero, List.getElem?_cons_succ, List.getElem?_nil, forall_const, true_implies, reduceCtorEq, false_and, and_false, false_implies, implies_true, Bool.false_eq_true, Bool.true_eq_false, ne_eq, not_true, not_false_iff, Nat.sub_zero, Nat.zero_add, Nat.add_zero, List.drop_zero, List.drop_succ_cons, List.drop_nil, List.take_zero, List.take_succ_cons, List.take_nil, List.set_cons_zero, List.set_cons_succ, List.nil_append, List.cons_append, List.append_nil, List.replicate_zero, List.replicate_succ, BitVec.ofNat_eq_ofNat, Option.some.injEq, AV.int.injEq, AV.u64.injEq, AV.u32.injEq, AV.u8.injEq, AV.bool.injEq, AV.a64.injEq, AV.a32.injEq, AV.a8.injEq, Nat.zero_le, Int.toNat_natCast, h4, List.length_append, List.length_replicate]
      repeat (refine And.intro (by first | omega | (simp only [intIn]; omega)) ?_)
      have ez : (((bs.length + 1 + j : Nat) : Int) % 128 = 112) = (j = zc (bs.length + 1)) := by
        rw [← zc_step (bs.length + 1) j hj]
        apply propext
        omega
      refine ⟨fun hne => ?_, fun hz => ?_⟩ 
      · rw [ez] at hne
        intro g3
        repeat (refine And.intro (by first | omega | (simp only [intIn]; omega)) ?_)
        intro v4
        refine LeJ.mk ⟨(j + 1, v4), by dsimp only; omega⟩ (by dsimp only; omega) ?_
        simp (maxSteps := 1000000) only [leS, leA, stU_env, stU_mem, pickA, getA, delA, setA, Cells.part, Cells.len, List.take_nil, List.drop_nil, List.length_nil, Nat.zero_add, ↓reduceIte, Nat.reduceEqDiff, Option.some.injEq, List.nil_append, List.cons_append, true_and, and_true, and_self, reduceCtorEq, AV.int.injEq, ME.own.injEq, ME.row.injEq, Cells.c32.injEq, Cells.c64.injEq, Cells.c8.injEq, AV.ptr.injEq, AV.ros.injEq, AV.grow.injEq, AV.u64.injEq, AV.u32.injEq]
        first | exact ⟨by omega, by omega, by rw [List.replicate_succ', ← List.append_assoc]⟩ | exact ⟨by omega, by rw [List.replicate_succ', ← List.append_assoc]⟩ | exact (by rw [List.replicate_succ', ← List.append_assoc])
      · rw [ez] at hz
        subst hz
        repeat (refine And.intro (by first | omega | (simp only [intIn]; omega)) ?_)
        intro v4
        rw [mlen]
        obtain ⟨M, hM⟩ : ∃ M, BitVec.ofNat 64 (bs.length * 8) = M := ⟨_, rfl⟩
        rw [hM]
        refine loopU _ _ _ [] [] 4 (ι := {s : Nat × Value // s.1 ≤ 8}) (fun s => [(5, .int (56 - 8 * (s.1.1 : Int))), (4, .u64 M), (3, .grow 2 s.1.2 (bs.length + 1 + zc (bs.length + 1) + 8 + s.1.1))]) (fun s => [(2, .row s.1.2 5 (.c8 (bs ++ [128] ++ List.replicate (zc (bs.length + 1)) 0 ++ z8 8 ++ lenB M s.1.1)))]) (fun s => 8 - s.1.1) ?_ ?_
        · refine LeJ.mk ⟨(0, v4), by dsimp only; omega⟩ trivial ?_
          simp (maxSteps := 1000000) only [leS, leA, stU_env, stU_mem, pickA, getA, delA, setA, Cells.part, Cells.len, List.take_nil, List.drop_nil, List.length_nil, Nat.zero_add, ↓reduceIte, Nat.reduceEqDiff, Option.some.injEq, List.nil_append, List.cons_append, true_and, and_true, and_self, reduceCtorEq, AV.int.injEq, ME.own.injEq, ME.row.injEq, Cells.c32.injEq, Cells.c64.injEq, Cells.c8.injEq, AV.ptr.injEq, AV.ros.injEq, AV.grow.injEq, AV.u64.injEq, AV.u32.injEq]
          simp [z8, lenB, g8]
        · rintro ⟨⟨k, v5⟩, hk⟩
          dsimp only at hk
          simp (maxSteps := 10000000) (implicitDefEqProofs := false) only [↓both_true, ↓both_false, ↓entryVC, ↓vc_skip, ↓vc_draw, ↓vc_list, ↓vc_seq, ↓vc_seqn, ↓vc_seqe, ↓vc_seqr, ↓vc_cond, ↓condVC, ↓vc_block, ↓vc_blockn, ↓vc_blockr, ↓vc_blocke, ↓vc_loop, ↓vc_exit, ↓vc_ret, ↓vc_loopn, ↓vc_loope, ↓vc_loopr, ↓vcl_nil, ↓vcl_cons, ↓lw_eq, ↓guardVC, ↓opVC, ↓pureVC, ↓binVC, ↓bin8, ↓bin32, ↓bin64, ↓binInt, ↓shVC, ↓unVC, ↓cvVC, ↓rdVC, ↓loadVC, ↓pickC, ↓fillVC, ↓bndVC, ↓sliceVC, ↓bltVC, ↓storeVC, ↓appVC, ↓apzVC, ↓markVC, ↓copyVC, ↓callVC, ↓argsVC, ↓argVC, ↓bindR, ↓bindR1, ↓bindRs, ↓retW_eq, ↓extW_eq, ↓rowW_eq, ↓aggW_eq, ↓plv_nil, ↓plv_tk, ↓plv_fz, ↓plv_ld, ↓pt_eq, ↓pz_eq, ↓pl_eq, ↓delAll, ↓keepM, ↓extM, ↓leS, ↓leA, ↓retVC, ↓retR, ↓resVC, ↓resV1, ↓ressVC, ↓xAdd64, ↓xSub64, ↓vc_jn, ↓vc_je, ↓vc_jr, ↓pickA, ↓stU_env, ↓stU_mem, both_true, both_false, both_dec, both_ndec, ev, absC, getA, setA, delA, tt, AV.good, AV.plain, AV.isSl, AV.cells, AV.one, Cells.len, Cells.get, Cells.sub, Cells.part, Cells.agg, Cells.upd, Cells.set, Cells.cat, Cells.rep, Cells.ones, TDsc.agg, zOf, putE, dstB, letGo, quietOp, slotOp, pickA, List.append_eq, Int.cast_ofNat_Int, List.any_cons, List.any_nil, beq_iff_eq, Bool.decide_eq_true, Option.getD_some, Option.getD_none, Option.map_some, Option.map_none, Option.bind_some, Option.isSome_some, Option.isNone_some, Option.isNone_none, Option.isSome_none, ↓reduceIte, Nat.reduceEqDiff, Nat.reduceLT, Nat.reduceLeDiff, Nat.reduceAdd, Nat.reduceSub, Nat.reduceMul, Nat.reduceBEq, Int.reduceLE, Int.reduceLT, Int.reduceToNat, Int.reduceNeg, BitVec.reduceToNat, decide_true, decide_false, and_true, true_and, and_self, Bool.or_true, Bool.true_or, Bool.or_false, Bool.false_or, Bool.not_true, Bool.not_false, List.map_cons, List.map_nil, List.length_cons, List.length_nil, List.getElem?_toArray, List.getElem?_cons_zero, List.getElem?_cons_succ, List.getElem?_nil, forall_const, true_implies, reduceCtorEq, false_and, and_false, false_implies, implies_true, Bool.false_eq_true, Bool.true_eq_false, ne_eq, not_true, not_false_iff, Nat.sub_zero, Nat.zero_add, Nat.add_zero, List.drop_zero, List.drop_succ_cons, List.drop_nil, List.take_zero, List.take_succ_cons, List.take_nil, List.set_cons_zero, List.set_cons_succ, List.nil_append, List.cons_append, List.append_nil, List.replicate_zero, List.replicate_succ, BitVec.ofNat_eq_ofNat, Option.some.injEq, AV.int.injEq, AV.u64.injEq, AV.u32.injEq, AV.u8.injEq, AV.bool.injEq, AV.a64.injEq, AV.a32.injEq, AV.a8.injEq, Nat.zero_le, Int.toNat_natCast, h4, List.length_append, List.length_replicate, lenB_length, z8_length]
          refine ⟨fun hlt => ?_, fun hge => ?_⟩
          · have ek : ((56 : Int) - 8 * (k : Int)).toNat = 56 - 8 * k := by omega
            rw [ek]
            repeat (refine And.intro (by first | omega | (simp only [intIn]; omega)) ?_)
            intro g3
            repeat (refine And.intro (by first | omega | (simp only [intIn]; omega)) ?_)
            intro v6
            repeat (refine And.intro (by first | omega | (simp only [intIn]; omega)) ?_)
            refine LeJ.mk ⟨(k + 1, v6), by dsimp only; omega⟩ (by dsimp only; omega) ?_
            simp (maxSteps := 1000000) only [leS, leA, stU_env, stU_mem, pickA, getA, delA, setA, Cells.part, Cells.len, List.take_nil, List.drop_nil, List.length_nil, Nat.zero_add, ↓reduceIte, Nat.reduceEqDiff, Option.some.injEq, List.nil_append, List.cons_append, true_and, and_true, and_self, reduceCtorEq, AV.int.injEq, ME.own.injEq, ME.row.injEq, Cells.c32.injEq, Cells.c64.injEq, Cells.c8.injEq, AV.ptr.injEq, AV.ros.injEq, AV.grow.injEq, AV.u64.injEq, AV.u32.injEq]
            first | exact ⟨by omega, by omega, by rw [lenB_succ, ← List.append_assoc]⟩ | exact ⟨by omega, by rw [lenB_succ, ← List.append_assoc]⟩ | exact (by rw [lenB_succ, ← List.append_assoc])
          · obtain rfl : k = 8 := by omega
            unfold padF at h
            rw [hM] at h
            repeat (refine And.intro (by first | omega | (simp only [intIn]; omega)) ?_)
            exact h
  · exact h.elim

theorem blocks_zero (h : V8) (p : List U8) : blocksF 0 h p = h := rfl
def cSum : CT := fun cas K => match cas with
  | [.s (.c8 bs), .v (.bool b)] => bs.length ≤ 1000000 ∧ K (.one (.v (.a8 (sumF b bs))))
  | _ => False
def SumI (T : V8) (s : Nat × V8 × List U8 × Option Addr × Nat) : Prop := s.2.2.1.length = 128 * s.1 ∧ s.2.2.1.length ≤ 2000000 ∧ blocksF s.1 s.2.1 s.2.2.1 = T
def h5 : CTab := fun F => match F with
  | 13 => .fn cStart
  | 28 => .fn cPadded
  | 11 => .fn cBlock
  | _ => .fn noCT
theorem h5_ok : CTok Try.prog h5 := by
  intro F
  unfold h5
  split
  · exact sStart
  · exact sPadded
  · exact sBlock
  · exact sound_none _ _
set_option maxRecDepth 100000 in
set_option maxHeartbeats 1000000 in
theorem sSum : Sound Try.prog 24 cSum := by
  refine sound_vc (tt := tt) (ct := h5) ttok h5_ok mixed Try.func24 rfl (by decide) (rs := [.cell 4 34]) rfl (ts := [34]) (k := 0) ?_
  intro cas K h
  unfold cSum at h
  split at h
  · rename_i bs b
    rw [Try.ntmps24]
    refine ⟨by simp, ?_⟩
    obtain ⟨hl, h⟩ := h
    simp (maxSteps := 10000000) (implicitDefEqProofs := false) only [↓both_true, ↓both_false, ↓entryVC, ↓vc_skip, ↓vc_draw, ↓vc_list, ↓vc_seq, ↓vc_seqn, ↓vc_seqe, ↓vc_seqr, ↓vc_cond, ↓condVC, ↓vc_block, ↓vc_blockn, ↓vc_blockr, ↓vc_blocke, ↓vc_loop, ↓vc_exit, ↓vc_ret, ↓vc_loopn, ↓vc_loope, ↓vc_loopr, ↓vcl_nil, ↓vcl_cons, ↓lw_eq, ↓guardVC, ↓opVC, ↓pureVC, ↓binVC, ↓bin8, ↓bin32, ↓bin64, ↓binInt, ↓shVC, ↓unVC, ↓cvVC, ↓rdVC, ↓loadVC, ↓pickC, ↓fillVC, ↓bndVC, ↓sliceVC, ↓bltVC, ↓storeVC, ↓appVC, ↓apzVC, ↓markVC, ↓copyVC, ↓callVC, ↓argsVC, ↓argVC, ↓bindR, ↓bindR1, ↓bindRs, ↓retW_eq, ↓extW_eq, ↓rowW_eq, ↓aggW_eq, ↓plv_nil, ↓plv_tk, ↓plv_fz, ↓plv_ld, ↓pt_eq, ↓pz_eq, ↓pl_eq, ↓delAll, ↓keepM, ↓extM, ↓leS, ↓leA, ↓retVC, ↓retR, ↓resVC, ↓resV1, ↓ressVC, ↓xAdd64, ↓xSub64, ↓vc_jn, ↓vc_je, ↓vc_jr, ↓pickA, ↓stU_env, ↓stU_mem, both_true, both_false, both_dec, both_ndec, ev, absC, getA, setA, delA, tt, AV.good, AV.plain, AV.isSl, AV.cells, AV.one, Cells.len, Cells.get, Cells.sub, Cells.part, Cells.agg, Cells.upd, Cells.set, Cells.cat, Cells.rep, Cells.ones, TDsc.agg, zOf, putE, dstB, letGo, quietOp, slotOp, pickA, List.append_eq, Int.cast_ofNat_Int, List.any_cons, List.any_nil, beq_iff_eq, Bool.decide_eq_true, Option.getD_some, Option.getD_none, Option.map_some, Option.map_none, Option.bind_some, Option.isSome_some, Option.isNone_some, Option.isNone_none, Option.isSome_none, ↓reduceIte, Nat.reduceEqDiff, Nat.reduceLT, Nat.reduceLeDiff, Nat.reduceAdd, Nat.reduceSub, Nat.reduceMul, Nat.reduceBEq, Int.reduceLE, Int.reduceLT, Int.reduceToNat, Int.reduceNeg, BitVec.reduceToNat, decide_true, decide_false, and_true, true_and, and_self, Bool.or_true, Bool.true_or, Bool.or_false, Bool.false_or, Bool.not_true, Bool.not_false, List.map_cons, List.map_nil, List.length_cons, List.length_nil, List.getElem?_toArray, List.getElem?_cons_zero, List.getElem?_cons_succ, List.getElem?_nil, forall_const, true_implies, reduceCtorEq, false_and, and_false, false_implies, implies_true, Bool.false_eq_true, Bool.true_eq_false, ne_eq, not_true, not_false_iff, Nat.sub_zero, Nat.zero_add, Nat.add_zero, List.drop_zero, List.drop_succ_cons, List.drop_nil, List.take_zero, List.take_succ_cons, List.take_nil, List.set_cons_zero, List.set_cons_succ, List.nil_append, List.cons_append, List.append_nil, List.replicate_zero, List.replicate_succ, BitVec.ofNat_eq_ofNat, Option.some.injEq, AV.int.injEq, AV.u64.injEq, AV.u32.injEq, AV.u8.injEq, AV.bool.injEq, AV.a64.injEq, AV.a32.injEq, AV.a8.injEq, Nat.zero_le, Int.toNat_natCast, h5, cStart, cPadded, cBlock, V8.l_length, toV8_l, hl]
    intro A ca hca g1 g2 A2 c2 hc2
    have hpl := padF_length bs
    have hpm := padF_length_le bs
    obtain ⟨T, hT⟩ : ∃ T, hashF b bs = T := ⟨_, rfl⟩
    unfold sumF at h
    rw [hT] at h
    unfold hashF at hT
    generalize hP : padF bs = P at *
    refine loopU _ _ _ [4, 5] [2] 6 (ι := {s : Nat × V8 × List U8 × Option Addr × Nat // SumI T s}) (fun s => [(6, .ros 4 s.1.2.2.2.1 s.1.2.2.1.length s.1.2.2.2.2)]) (fun s => [(3, .own g2 23 (.c64 s.1.2.1.l)), (4, .ro s.1.2.2.2.1 s.1.2.2.2.2 (.c8 s.1.2.2.1))]) (fun s => s.1.1) ?_ ?_
    · refine LeJ.mk ⟨(P.length / 128, startF b, P, A2, c2), by dsimp only; omega, by dsimp only; omega, hT⟩ trivial ?_
      simp (maxSteps := 1000000) only [leS, leA, stU_env, stU_mem, pickA, getA, delA, setA, Cells.part, Cells.len, List.take_nil, List.drop_nil, List.length_nil, Nat.zero_add, ↓reduceIte, Nat.reduceEqDiff, Option.some.injEq, List.nil_append, List.cons_append, true_and, and_true, and_self, reduceCtorEq, AV.int.injEq, ME.own.injEq, ME.row.injEq, Cells.c32.injEq, Cells.c64.injEq, Cells.c8.injEq, AV.ptr.injEq, AV.ros.injEq, AV.grow.injEq, AV.u64.injEq, AV.u32.injEq]
    · rintro ⟨⟨n, hh, p, A3, c3⟩, hI⟩
      obtain ⟨i1, i3, i4⟩ := hI
      dsimp only at i1 i3 i4
      simp (maxSteps := 10000000) (implicitDefEqProofs := false) only [↓both_true, ↓both_false, ↓entryVC, ↓vc_skip, ↓vc_draw, ↓vc_list, ↓vc_seq, ↓vc_seqn, ↓vc_seqe, ↓vc_seqr, ↓vc_cond, ↓condVC, ↓vc_block, ↓vc_blockn, ↓vc_blockr, ↓vc_blocke, ↓vc_loop, ↓vc_exit, ↓vc_ret, ↓vc_loopn, ↓vc_loope, ↓vc_loopr, ↓vcl_nil, ↓vcl_cons, ↓lw_eq, ↓guardVC, ↓opVC, ↓pureVC, ↓binVC, ↓bin8, ↓bin32, ↓bin64, ↓binInt, ↓shVC, ↓unVC, ↓cvVC, ↓rdVC, ↓loadVC, ↓pickC, ↓fillVC, ↓bndVC, ↓sliceVC, ↓bltVC, ↓storeVC, ↓appVC, ↓apzVC, ↓markVC, ↓copyVC, ↓callVC, ↓argsVC, ↓argVC, ↓bindR, ↓bindR1, ↓bindRs, ↓retW_eq, ↓extW_eq, ↓rowW_eq, ↓aggW_eq, ↓plv_nil, ↓plv_tk, ↓plv_fz, ↓plv_ld, ↓pt_eq, ↓pz_eq, ↓pl_eq, ↓delAll, ↓keepM, ↓extM, ↓leS, ↓leA, ↓retVC, ↓retR, ↓resVC, ↓resV1, ↓ressVC, ↓xAdd64, ↓xSub64, ↓vc_jn, ↓vc_je, ↓vc_jr, ↓pickA, ↓stU_env, ↓stU_mem, both_true, both_false, both_dec, both_ndec, ev, absC, getA, setA, delA, tt, AV.good, AV.plain, AV.isSl, AV.cells, AV.one, Cells.len, Cells.get, Cells.sub, Cells.part, Cells.agg, Cells.upd, Cells.set, Cells.cat, Cells.rep, Cells.ones, TDsc.agg, zOf, putE, dstB, letGo, quietOp, slotOp, pickA, List.append_eq, Int.cast_ofNat_Int, List.any_cons, List.any_nil, beq_iff_eq, Bool.decide_eq_true, Option.getD_some, Option.getD_none, Option.map_some, Option.map_none, Option.bind_some, Option.isSome_some, Option.isNone_some, Option.isNone_none, Option.isSome_none, ↓reduceIte, Nat.reduceEqDiff, Nat.reduceLT, Nat.reduceLeDiff, Nat.reduceAdd, Nat.reduceSub, Nat.reduceMul, Nat.reduceBEq, Int.reduceLE, Int.reduceLT, Int.reduceToNat, Int.reduceNeg, BitVec.reduceToNat, decide_true, decide_false, and_true, true_and, and_self, Bool.or_true, Bool.true_or, Bool.or_false, Bool.false_or, Bool.not_true, Bool.not_false, List.map_cons, List.map_nil, List.length_cons, List.length_nil, List.getElem?_toArray, List.getElem?_cons_zero, List.getElem?_cons_succ, List.getElem?_nil, forall_const, true_implies, reduceCtorEq, false_and, and_false, false_implies, implies_true, Bool.false_eq_true, Bool.true_eq_false, ne_eq, not_true, not_false_iff, Nat.sub_zero, Nat.zero_add, Nat.add_zero, List.drop_zero, List.drop_succ_cons, List.drop_nil, List.take_zero, List.take_succ_cons, List.take_nil, List.set_cons_zero, List.set_cons_succ, List.nil_append, List.cons_append, List.append_nil, List.replicate_zero, List.replicate_succ, BitVec.ofNat_eq_ofNat, Option.some.injEq, AV.int.injEq, AV.u64.injEq, AV.u32.injEq, AV.u8.injEq, AV.bool.injEq, AV.a64.injEq, AV.a32.injEq, AV.a8.injEq, Nat.zero_le, Int.toNat_natCast, h5, cStart, cPadded, cBlock, V8.l_length, toV8_l, hl, outK_length]
      refine ⟨fun hlt => ?_, fun hge => ?_⟩
      · obtain ⟨m, rfl⟩ : ∃ m, n = m + 1 := ⟨n - 1, by omega⟩
        have hpt : (List.take 128 p).length = 128 := by rw [List.length_take]; omega
        refine draw_ _ _ _ [(.fz, 1), (.tk, 0), (.tk, 2), (.tk, 3), (.ld, 4), (.ld, 5)] [] [2, 4] (by kernel_rfl) ?_
        simp (maxSteps := 10000000) (implicitDefEqProofs := false) only [↓both_true, ↓both_false, ↓entryVC, ↓vc_skip, ↓vc_draw, ↓vc_list, ↓vc_seq, ↓vc_seqn, ↓vc_seqe, ↓vc_seqr, ↓vc_cond, ↓condVC, ↓vc_block, ↓vc_blockn, ↓vc_blockr, ↓vc_blocke, ↓vc_loop, ↓vc_exit, ↓vc_ret, ↓vc_loopn, ↓vc_loope, ↓vc_loopr, ↓vcl_nil, ↓vcl_cons, ↓lw_eq, ↓guardVC, ↓opVC, ↓pureVC, ↓binVC, ↓bin8, ↓bin32, ↓bin64, ↓binInt, ↓shVC, ↓unVC, ↓cvVC, ↓rdVC, ↓loadVC, ↓pickC, ↓fillVC, ↓bndVC, ↓sliceVC, ↓bltVC, ↓storeVC, ↓appVC, ↓apzVC, ↓markVC, ↓copyVC, ↓callVC, ↓argsVC, ↓argVC, ↓bindR, ↓bindR1, ↓bindRs, ↓retW_eq, ↓extW_eq, ↓rowW_eq, ↓aggW_eq, ↓plv_nil, ↓plv_tk, ↓plv_fz, ↓plv_ld, ↓pt_eq, ↓pz_eq, ↓pl_eq, ↓delAll, ↓keepM, ↓extM, ↓leS, ↓leA, ↓retVC, ↓retR, ↓resVC, ↓resV1, ↓ressVC, ↓xAdd64, ↓xSub64, ↓vc_jn, ↓vc_je, ↓vc_jr, ↓pickA, ↓stU_env, ↓stU_mem, both_true, both_false, both_dec, both_ndec, ev, absC, getA, setA, delA, tt, AV.good, AV.plain, AV.isSl, AV.cells, AV.one, Cells.len, Cells.get, Cells.sub, Cells.part, Cells.agg, Cells.upd, Cells.set, Cells.cat, Cells.rep, Cells.ones, TDsc.agg, zOf, putE, dstB, letGo, quietOp, slotOp, pickA, List.append_eq, Int.cast_ofNat_Int, List.any_cons, List.any_nil, beq_iff_eq, Bool.decide_eq_true, Option.getD_some, Option.getD_none, Option.map_some, Option.map_none, Option.bind_some, Option.isSome_some, Option.isNone_some, Option.isNone_none, Option.isSome_none, ↓reduceIte, Nat.reduceEqDiff, Nat.reduceLT, Nat.reduceLeDiff, Nat.reduceAdd, Nat.reduceSub, Nat.reduceMul, Nat.reduceBEq, Int.reduceLE, Int.reduceLT, Int.reduceToNat, Int.reduceNeg, BitVec.reduceToNat, decide_true, decide_false, and_true, true_and, and_self, Bool.or_true, Bool.true_or, Bool.or_false, Bool.false_or, Bool.not_true, Bool.not_false, List.map_cons, List.map_nil, List.length_cons, List.length_nil, List.getElem?_toArray, List.getElem?_cons_zero, List.getElem?_cons_succ, List.getElem?_nil, forall_const, true_implies, reduceCtorEq, false_and, and_false, false_implies, implies_true, Bool.false_eq_true, Bool.true_eq_false, ne_eq, not_true, not_false_iff, Nat.sub_zero, Nat.zero_add, Nat.add_zero, List.drop_zero, List.drop_succ_cons, List.drop_nil, List.take_zero, List.take_succ_cons, List.take_nil, List.set_cons_zero, List.set_cons_succ, List.nil_append, List.cons_append, List.append_nil, List.replicate_zero, List.replicate_succ, BitVec.ofNat_eq_ofNat, Option.some.injEq, AV.int.injEq, AV.u64.injEq, AV.u32.injEq, AV.u8.injEq, AV.bool.injEq, AV.a64.injEq, AV.a32.injEq, AV.a8.injEq, Nat.zero_le, Int.toNat_natCast, h5, cStart, cPadded, cBlock, V8.l_length, toV8_l, hl, outK_length, hpt]
        repeat (refine And.intro (by first | omega | (simp only [intIn]; omega)) ?_)
        intro A1 c1
        rw [List.take_of_length_le (l := List.drop 128 p) (by rw [List.length_drop]; omega)]
        refine LeJ.rel 6 4 rfl rfl ?_
        refine LeJ.mk ⟨(m, blockF hh (List.take 128 p), List.drop 128 p, A1, c1), by dsimp only; rw [List.length_drop]; omega, by dsimp only; rw [List.length_drop]; omega, i4⟩ (by dsimp only; omega) ?_
        simp (maxSteps := 1000000) only [leS, leA, stU_env, stU_mem, pickA, getA, delA, setA, Cells.part, Cells.len, List.take_nil, List.drop_nil, List.length_nil, Nat.zero_add, ↓reduceIte, Nat.reduceEqDiff, Option.some.injEq, List.nil_append, List.cons_append, true_and, and_true, and_self, reduceCtorEq, AV.int.injEq, ME.own.injEq, ME.row.injEq, Cells.c32.injEq, Cells.c64.injEq, Cells.c8.injEq, AV.ptr.injEq, AV.ros.injEq, AV.grow.injEq, AV.u64.injEq, AV.u32.injEq, List.length_drop]
      · obtain rfl : n = 0 := by omega
        rw [blocks_zero] at i4
        subst i4
        intro g7
        refine loopU _ _ _ [4, 5, 7] [2, 3] 7 (ι := {k : Nat // k ≤ 64}) (fun s => [(23, .int (s.1 : Int))]) (fun s => [(6, .own g7 34 (.c8 (outK hh.l s.1)))]) (fun s => 64 - s.1) ?_ ?_
        · refine LeJ.mk ⟨0, by omega⟩ trivial ?_
          simp (maxSteps := 1000000) only [leS, leA, stU_env, stU_mem, pickA, getA, delA, setA, Cells.part, Cells.len, List.take_nil, List.drop_nil, List.length_nil, Nat.zero_add, ↓reduceIte, Nat.reduceEqDiff, Option.some.injEq, List.nil_append, List.cons_append, true_and, and_true, and_self, reduceCtorEq, AV.int.injEq, ME.own.injEq, ME.row.injEq, Cells.c32.injEq, Cells.c64.injEq, Cells.c8.injEq, AV.ptr.injEq, AV.ros.injEq, AV.grow.injEq, AV.u64.injEq, AV.u32.injEq]
          exact ⟨rfl, rfl⟩
        · rintro ⟨k, hk⟩
          simp (maxSteps := 10000000) (implicitDefEqProofs := false) only [↓both_true, ↓both_false, ↓entryVC, ↓vc_skip, ↓vc_draw, ↓vc_list, ↓vc_seq, ↓vc_seqn, ↓vc_seqe, ↓vc_seqr, ↓vc_cond, ↓condVC, ↓vc_block, ↓vc_blockn, ↓vc_blockr, ↓vc_blocke, ↓vc_loop, ↓vc_exit, ↓vc_ret, ↓vc_loopn, ↓vc_loope, ↓vc_loopr, ↓vcl_nil, ↓vcl_cons, ↓lw_eq, ↓guardVC, ↓opVC, ↓pureVC, ↓binVC, ↓bin8, ↓bin32, ↓bin64, ↓binInt, ↓shVC, ↓unVC, ↓cvVC, ↓rdVC, ↓loadVC, ↓pickC, ↓fillVC, ↓bndVC, ↓sliceVC, ↓bltVC, ↓storeVC, ↓appVC, ↓apzVC, ↓markVC, ↓copyVC, ↓callVC, ↓argsVC, ↓argVC, ↓bindR, ↓bindR1, ↓bindRs, ↓retW_eq, ↓extW_eq, ↓rowW_eq, ↓aggW_eq, ↓plv_nil, ↓plv_tk, ↓plv_fz, ↓plv_ld, ↓pt_eq, ↓pz_eq, ↓pl_eq, ↓delAll, ↓keepM, ↓extM, ↓leS, ↓leA, ↓retVC, ↓retR, ↓resVC, ↓resV1, ↓ressVC, ↓xAdd64, ↓xSub64, ↓vc_jn, ↓vc_je, ↓vc_jr, ↓pickA, ↓stU_env, ↓stU_mem, both_true, both_false, both_dec, both_ndec, ev, absC, getA, setA, delA, tt, AV.good, AV.plain, AV.isSl, AV.cells, AV.one, Cells.len, Cells.get, Cells.sub, Cells.part, Cells.agg, Cells.upd, Cells.set, Cells.cat, Cells.rep, Cells.ones, TDsc.agg, zOf, putE, dstB, letGo, quietOp, slotOp, pickA, List.append_eq, Int.cast_ofNat_Int, List.any_cons, List.any_nil, beq_iff_eq, Bool.decide_eq_true, Option.getD_some, Option.getD_none, Option.map_some, Option.map_none, Option.bind_some, Option.isSome_some, Option.isNone_some, Option.isNone_none, Option.isSome_none, ↓reduceIte, Nat.reduceEqDiff, Nat.reduceLT, Nat.reduceLeDiff, Nat.reduceAdd, Nat.reduceSub, Nat.reduceMul, Nat.reduceBEq, Int.reduceLE, Int.reduceLT, Int.reduceToNat, Int.reduceNeg, BitVec.reduceToNat, decide_true, decide_false, and_true, true_and, and_self, Bool.or_true, Bool.true_or, Bool.or_false, Bool.false_or, Bool.not_true, Bool.not_false, List.map_cons, List.map_nil, List.length_cons, List.length_nil, List.getElem?_toArray, List.getElem?_cons_zero, List.getElem?_cons_succ, List.getElem?_nil, forall_const, true_implies, reduceCtorEq, false_and, and_false, false_implies, implies_true, Bool.false_eq_true, Bool.true_eq_false, ne_eq, not_true, not_false_iff, Nat.sub_zero, Nat.zero_add, Nat.add_zero, List.drop_zero, List.drop_succ_cons, List.drop_nil, List.take_zero, List.take_succ_cons, List.take_nil, List.set_cons_zero, List.set_cons_succ, List.nil_append, List.cons_append, List.append_nil, List.replicate_zero, List.replicate_succ, BitVec.ofNat_eq_ofNat, Option.some.injEq, AV.int.injEq, AV.u64.injEq, AV.u32.injEq, AV.u8.injEq, AV.bool.injEq, AV.a64.injEq, AV.a32.injEq, AV.a8.injEq, Nat.zero_le, Int.toNat_natCast, h5, cStart, cPadded, cBlock, V8.l_length, toV8_l, hl, outK_length]
          refine ⟨fun hlt => ?_, fun hge => ?_⟩
          · have e1 : ((k : Int) / 8).toNat = k / 8 := by omega
            have e2 : (8 * (7 - (k : Int) % 8)).toNat = 8 * (7 - k % 8) := by omega
            simp only [e1, e2]
            repeat (refine And.intro (by first | omega | (simp only [intIn]; omega)) ?_)
            refine LeJ.mk ⟨k + 1, by omega⟩ (by dsimp only; omega) ?_
            simp (maxSteps := 1000000) only [leS, leA, stU_env, stU_mem, pickA, getA, delA, setA, Cells.part, Cells.len, List.take_nil, List.drop_nil, List.length_nil, Nat.zero_add, ↓reduceIte, Nat.reduceEqDiff, Option.some.injEq, List.nil_append, List.cons_append, true_and, and_true, and_self, reduceCtorEq, AV.int.injEq, ME.own.injEq, ME.row.injEq, Cells.c32.injEq, Cells.c64.injEq, Cells.c8.injEq, AV.ptr.injEq, AV.ros.injEq, AV.grow.injEq, AV.u64.injEq, AV.u32.injEq]
            first | exact ⟨by omega, by omega, rfl⟩ | exact ⟨by omega, rfl⟩ | exact (rfl)
          · obtain rfl : k = 64 := by omega
            exact h
  · exact h.elim
end Go.Proofs.Ytpononlbfealjaa
