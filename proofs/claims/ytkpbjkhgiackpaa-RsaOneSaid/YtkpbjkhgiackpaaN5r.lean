/- The document's bits, by the engine. -/
import Derived.Test.YtkpbjkhgiackpaaN4r
import Derived.Test.YtkpbjkhgiackpaaQb0
namespace Go.Proofs.Ytkpbjkhgiackpaa
open Go Go.RowKit
set_option linter.unusedVariables false
set_option linter.unusedSimpArgs false

def bitF (a : List U32) (i : Int) : Int := if i < 0 then 0 else if (a.length : Int) ≤ i / 32 then 0 else (((g32 a (i / 32).toNat).toNat / 2 ^ (i % 32).toNat % 2 : Nat) : Int)
def cBits : CT := fun cas K => match cas with
  | [.s (.c32 a)] => a.length ≤ 10000 ∧ K (.one (.v (.int (blN (nv32 a) : Nat))))
  | _ => False
def cBit : CT := fun cas K => match cas with
  | [.s (.c32 a), .v (.int i)] => (a.length ≤ 100000 ∧ intIn i) ∧ K (.one (.v (.int (bitF a i))))
  | _ => False
theorem blN_half {k : Nat} (h : 0 < k) : blN k = 1 + blN (k / 2) := by
  by_cases h1 : k = 1
  · subst h1; decide
  · exact blN_shift (k := k) (s := 1) (by omega)
theorem bl_top {d : List U64} (h : Can16 d) (hn : d ≠ []) : blN (nv16 d) = 16 * (d.length - 1) + blN (g64 d (d.length - 1)).toNat := by
  have hl : 0 < d.length := List.length_pos_iff.2 hn
  have hge := h.ge hn
  have e2 : (65536 : Nat) ^ (d.length - 1) = 2 ^ (16 * (d.length - 1)) := by rw [Nat.pow_mul]
  rw [e2] at hge
  rw [blN_shift hge]
  congr 2
  have e := nv16_take_drop d (d.length - 1) (by omega)
  have hd := nv16_drop d (d.length - 1)
  rw [show d.length - 1 + 1 = d.length by omega, List.drop_length] at hd
  have hlt := nv16_lt (d.take (d.length - 1)) (h.dig.take _)
  rw [List.length_take, Nat.min_eq_left (by omega), e2] at hlt
  rw [e, e2, Nat.add_mul_div_left _ _ (Nat.two_pow_pos _), Nat.div_eq_of_lt hlt, hd]
  simp [nv16]
def n7 : CTab := fun F => match F with
  | 127 => .fn cTrim
  | 132 => .fn cDigit
  | 92 => .fn cDigits
  | 91 => .fn cWhole
  | 113 => .fn cCompare
  | 66 => .fn cCmp
  | 130 => .fn cTimes
  | 129 => .fn cLess
  | _ => .fn noCT
theorem n7_ok : CTok Try.prog n7 := by
  intro F
  unfold n7
  split
  · exact sTrim
  · exact sDigit
  · exact sDigits
  · exact sWhole
  · exact sCompare
  · exact sCmpR
  · exact sTimes
  · exact sLess
  · exact sound_none _ _
set_option maxRecDepth 100000 in
set_option maxHeartbeats 1000000 in
theorem sBitsR : Sound Try.prog 84 cBits := by
  refine sound_vc (tt := tt) (ct := n7) ttok n7_ok mixed Try.func84 rfl (by decide) (rs := [.tmp 2]) rfl (ts := [3]) (k := 0) ?_
  intro cas K h
  unfold cBits at h
  split at h
  · rename_i a
    rw [Try.ntmps84]
    refine ⟨by simp, ?_⟩
    obtain ⟨ha, h⟩ := h
    simp (maxSteps := 10000000) (implicitDefEqProofs := false) only [↓both_true, ↓both_false, ↓entryVC, ↓vc_skip, ↓vc_draw, ↓vc_list, ↓vc_seq, ↓vc_seqn, ↓vc_seqe, ↓vc_seqr, ↓vc_cond, ↓condVC, ↓vc_block, ↓vc_blockn, ↓vc_blockr, ↓vc_blocke, ↓vc_loop, ↓vc_exit, ↓vc_ret, ↓vc_loopn, ↓vc_loope, ↓vc_loopr, ↓vcl_nil, ↓vcl_cons, ↓lw_eq, ↓listVC, ↓memK, ↓memR, ↓envOf, ↓guardVC, ↓opVC, ↓pureVC, ↓binT, ↓wrapT, ↓TDsc.isW, ↓binW, ↓binVC, ↓bin8, ↓bin32, ↓bin64, ↓binInt, ↓shVC, ↓unVC, ↓cvVC, ↓rdVC, ↓loadVC, ↓pickC, ↓fillVC, ↓bndVC, ↓sliceVC, ↓bltVC, ↓storeVC, ↓appVC, ↓apzVC, ↓markVC, ↓copyVC, ↓callVC, ↓argsVC, ↓argVC, ↓bindR, ↓bindR1, ↓bindRs, ↓retW_eq, ↓extW_eq, ↓rowW_eq, ↓aggW_eq, ↓plv_nil, ↓plv_tk, ↓plv_fz, ↓plv_ld, ↓pt_eq, ↓pz_eq, ↓pl_eq, ↓delAll, ↓keepM_nil, ↓keepM, ↓extE, ↓extM, ↓leS, ↓leA, ↓retVC, ↓retR, ↓resVC, ↓resV1, ↓ressVC, ↓strU, ↓xAdd64, ↓xSub64, ↓vc_jn, ↓vc_je, ↓vc_jr, ↓pickA, ↓stU_env, ↓stU_mem, frz, both_true, both_false, both_dec, both_ndec, ev, absC, getA, setA, delA, tt, AV.good, AV.plain, AV.isSl, AV.cells, AV.one, Cells.len, Cells.get, Cells.sub, Cells.part, Cells.agg, Cells.upd, Cells.set, Cells.cat, Cells.rep, Cells.ones, TDsc.agg, zOf, putE, dstB, letGo, quietOp, slotOp, pickA, true_or, or_true, List.append_eq, Int.cast_ofNat_Int, List.any_cons, List.any_nil, beq_iff_eq, Bool.decide_eq_true, Option.getD_some, Option.getD_none, Option.map_some, Option.map_none, Option.bind_some, Option.isSome_some, Option.isNone_some, Option.isNone_none, Option.isSome_none, ↓reduceIte, Nat.reduceEqDiff, Nat.reduceLT, Nat.reduceLeDiff, Nat.reduceAdd, Nat.reduceSub, Nat.reduceMul, Nat.reduceBEq, Int.reduceLE, Int.reduceLT, Int.reduceToNat, Int.reduceNeg, BitVec.reduceToNat, decide_true, decide_false, and_true, true_and, and_self, Bool.or_true, Bool.true_or, Bool.or_false, Bool.false_or, Bool.not_true, Bool.not_false, List.map_cons, List.map_nil, List.length_cons, List.length_nil, List.getElem?_toArray, List.getElem?_cons_zero, List.getElem?_cons_succ, List.getElem?_nil, forall_const, true_implies, reduceCtorEq, false_and, and_false, false_implies, implies_true, Bool.false_eq_true, Bool.true_eq_false, ne_eq, not_true, not_false_iff, Nat.sub_zero, Nat.zero_add, Nat.add_zero, List.drop_zero, List.drop_succ_cons, List.drop_nil, List.take_zero, List.take_succ_cons, List.take_nil, List.set_cons_zero, List.set_cons_succ, List.nil_append, List.cons_append, List.append_nil, List.replicate_zero, List.replicate_succ, BitVec.ofNat_eq_ofNat, Option.some.injEq, AV.int.injEq, AV.u64.injEq, AV.u32.injEq, AV.u8.injEq, AV.bool.injEq, AV.a64.injEq, AV.a32.injEq, AV.a8.injEq, Nat.zero_le, Int.toNat_natCast, n7, cTrim, cDigit, cDigits, cWhole, cCompare, cCmp, cTimes, cLess, ha]
    intro A ca hca
    repeat (refine And.intro (by first | omega | (simp only [intIn]; omega) | decide) ?_)
    intro d hd hdv hdl A3 c3 hc3
    rw [← hdv] at h
    refine ⟨fun h0 => ?_, fun h0 => ?_⟩
    · have hn : d = [] := List.eq_nil_of_length_eq_zero (by omega)
      subst hn
      exact h
    · have hne : d ≠ [] := fun e => h0 (by rw [e]; rfl)
      have hl : 0 < d.length := List.length_pos_iff.2 hne
      have htop := bl_top hd hne
      have e1 : ((d.length : Int) - 1).toNat = d.length - 1 := by omega
      have htl : blN (g64 d (d.length - 1)).toNat ≤ 16 := blN_le (hd.dig.get _)
      repeat (refine And.intro (by first | omega | (simp only [intIn]; omega) | decide) ?_)
      rw [e1]
      refine loopU _ _ _ [2] [] 2 (ι := {s : Nat × U64 // s.1 + blN s.2.toNat = blN (nv16 d) ∧ s.1 ≤ 1000000}) (fun s => [(4, .int (s.1.1 : Int)), (5, .u64 s.1.2)]) (fun _ => []) (fun s => s.1.2.toNat) ?_ ?_
      · refine LeJ.mk ⟨(16 * (d.length - 1), g64 d (d.length - 1)), htop.symm, by dsimp only; omega⟩ trivial ?_
        simp (maxSteps := 1000000) only [leS, leA, stU_env, stU_mem, pickA, getA, delA, setA, Cells.part, Cells.len, List.take_nil, List.drop_nil, List.length_nil, Nat.zero_add, ↓reduceIte, Nat.reduceEqDiff, Option.some.injEq, List.nil_append, List.cons_append, true_and, and_true, and_self, reduceCtorEq, AV.int.injEq, ME.own.injEq, ME.row.injEq, Cells.c32.injEq, Cells.c64.injEq, Cells.c8.injEq, AV.ptr.injEq, AV.ros.injEq, AV.grow.injEq, AV.u64.injEq, AV.u32.injEq]
        first | done | omega | exact ⟨by omega, rfl⟩
      · rintro ⟨⟨n, x⟩, hI, hn⟩
        dsimp only at hI hn
        simp (maxSteps := 10000000) (implicitDefEqProofs := false) only [↓both_true, ↓both_false, ↓entryVC, ↓vc_skip, ↓vc_draw, ↓vc_list, ↓vc_seq, ↓vc_seqn, ↓vc_seqe, ↓vc_seqr, ↓vc_cond, ↓condVC, ↓vc_block, ↓vc_blockn, ↓vc_blockr, ↓vc_blocke, ↓vc_loop, ↓vc_exit, ↓vc_ret, ↓vc_loopn, ↓vc_loope, ↓vc_loopr, ↓vcl_nil, ↓vcl_cons, ↓lw_eq, ↓listVC, ↓memK, ↓memR, ↓envOf, ↓guardVC, ↓opVC, ↓pureVC, ↓binT, ↓wrapT, ↓TDsc.isW, ↓binW, ↓binVC, ↓bin8, ↓bin32, ↓bin64, ↓binInt, ↓shVC, ↓unVC, ↓cvVC, ↓rdVC, ↓loadVC, ↓pickC, ↓fillVC, ↓bndVC, ↓sliceVC, ↓bltVC, ↓storeVC, ↓appVC, ↓apzVC, ↓markVC, ↓copyVC, ↓callVC, ↓argsVC, ↓argVC, ↓bindR, ↓bindR1, ↓bindRs, ↓retW_eq, ↓extW_eq, ↓rowW_eq, ↓aggW_eq, ↓plv_nil, ↓plv_tk, ↓plv_fz, ↓plv_ld, ↓pt_eq, ↓pz_eq, ↓pl_eq, ↓delAll, ↓keepM_nil, ↓keepM, ↓extE, ↓extM, ↓leS, ↓leA, ↓retVC, ↓retR, ↓resVC, ↓resV1, ↓ressVC, ↓strU, ↓xAdd64, ↓xSub64, ↓vc_jn, ↓vc_je, ↓vc_jr, ↓pickA, ↓stU_env, ↓stU_mem, frz, both_true, both_false, both_dec, both_ndec, ev, absC, getA, setA, delA, tt, AV.good, AV.plain, AV.isSl, AV.cells, AV.one, Cells.len, Cells.get, Cells.sub, Cells.part, Cells.agg, Cells.upd, Cells.set, Cells.cat, Cells.rep, Cells.ones, TDsc.agg, zOf, putE, dstB, letGo, quietOp, slotOp, pickA, true_or, or_true, List.append_eq, Int.cast_ofNat_Int, List.any_cons, List.any_nil, beq_iff_eq, Bool.decide_eq_true, Option.getD_some, Option.getD_none, Option.map_some, Option.map_none, Option.bind_some, Option.isSome_some, Option.isNone_some, Option.isNone_none, Option.isSome_none, ↓reduceIte, Nat.reduceEqDiff, Nat.reduceLT, Nat.reduceLeDiff, Nat.reduceAdd, Nat.reduceSub, Nat.reduceMul, Nat.reduceBEq, Int.reduceLE, Int.reduceLT, Int.reduceToNat, Int.reduceNeg, BitVec.reduceToNat, decide_true, decide_false, and_true, true_and, and_self, Bool.or_true, Bool.true_or, Bool.or_false, Bool.false_or, Bool.not_true, Bool.not_false, List.map_cons, List.map_nil, List.length_cons, List.length_nil, List.getElem?_toArray, List.getElem?_cons_zero, List.getElem?_cons_succ, List.getElem?_nil, forall_const, true_implies, reduceCtorEq, false_and, and_false, false_implies, implies_true, Bool.false_eq_true, Bool.true_eq_false, ne_eq, not_true, not_false_iff, Nat.sub_zero, Nat.zero_add, Nat.add_zero, List.drop_zero, List.drop_succ_cons, List.drop_nil, List.take_zero, List.take_succ_cons, List.take_nil, List.set_cons_zero, List.set_cons_succ, List.nil_append, List.cons_append, List.append_nil, List.replicate_zero, List.replicate_succ, BitVec.ofNat_eq_ofNat, Option.some.injEq, AV.int.injEq, AV.u64.injEq, AV.u32.injEq, AV.u8.injEq, AV.bool.injEq, AV.a64.injEq, AV.a32.injEq, AV.a8.injEq, Nat.zero_le, Int.toNat_natCast, n7, cTrim, cDigit, cDigits, cWhole, cCompare, cCmp, cTimes, cLess]
        refine ⟨fun hx => ?_, fun hx => ?_⟩
        · have e2 : (x / 2#64).toNat = x.toNat / 2 := by rw [BitVec.toNat_udiv]; rfl
          have e3 := blN_half hx
          refine ⟨by simp only [intIn]; omega, by decide, ?_⟩
          refine LeJ.mk ⟨(n + 1, x / 2#64), by dsimp only; rw [e2]; omega, by dsimp only; omega⟩ (by dsimp only; rw [e2]; omega) ?_
          simp (maxSteps := 1000000) only [leS, leA, stU_env, stU_mem, pickA, getA, delA, setA, Cells.part, Cells.len, List.take_nil, List.drop_nil, List.length_nil, Nat.zero_add, ↓reduceIte, Nat.reduceEqDiff, Option.some.injEq, List.nil_append, List.cons_append, true_and, and_true, and_self, reduceCtorEq, AV.int.injEq, ME.own.injEq, ME.row.injEq, Cells.c32.injEq, Cells.c64.injEq, Cells.c8.injEq, AV.ptr.injEq, AV.ros.injEq, AV.grow.injEq, AV.u64.injEq, AV.u32.injEq]
          first | done | omega
        · have hx0 : x.toNat = 0 := by omega
          rw [hx0] at hI
          have hb0 : blN 0 = 0 := rfl
          rw [hb0, Nat.add_zero] at hI
          rw [hI]
          exact h
  · exact h.elim
set_option maxRecDepth 100000 in
set_option maxHeartbeats 1000000 in
theorem sBitR : Sound Try.prog 85 cBit := by
  refine sound_vc (tt := tt) (ct := n7) ttok n7_ok mixed Try.func85 rfl (by decide) (rs := [.tmp 4]) rfl (ts := [3]) (k := 0) ?_
  intro cas K h
  unfold cBit at h
  split at h
  · rename_i a i
    rw [Try.ntmps85]
    refine ⟨by simp, ?_⟩
    obtain ⟨⟨ha, hi⟩, h⟩ := h
    simp (maxSteps := 10000000) (implicitDefEqProofs := false) only [↓both_true, ↓both_false, ↓entryVC, ↓vc_skip, ↓vc_draw, ↓vc_list, ↓vc_seq, ↓vc_seqn, ↓vc_seqe, ↓vc_seqr, ↓vc_cond, ↓condVC, ↓vc_block, ↓vc_blockn, ↓vc_blockr, ↓vc_blocke, ↓vc_loop, ↓vc_exit, ↓vc_ret, ↓vc_loopn, ↓vc_loope, ↓vc_loopr, ↓vcl_nil, ↓vcl_cons, ↓lw_eq, ↓listVC, ↓memK, ↓memR, ↓envOf, ↓guardVC, ↓opVC, ↓pureVC, ↓binT, ↓wrapT, ↓TDsc.isW, ↓binW, ↓binVC, ↓bin8, ↓bin32, ↓bin64, ↓binInt, ↓shVC, ↓unVC, ↓cvVC, ↓rdVC, ↓loadVC, ↓pickC, ↓fillVC, ↓bndVC, ↓sliceVC, ↓bltVC, ↓storeVC, ↓appVC, ↓apzVC, ↓markVC, ↓copyVC, ↓callVC, ↓argsVC, ↓argVC, ↓bindR, ↓bindR1, ↓bindRs, ↓retW_eq, ↓extW_eq, ↓rowW_eq, ↓aggW_eq, ↓plv_nil, ↓plv_tk, ↓plv_fz, ↓plv_ld, ↓pt_eq, ↓pz_eq, ↓pl_eq, ↓delAll, ↓keepM_nil, ↓keepM, ↓extE, ↓extM, ↓leS, ↓leA, ↓retVC, ↓retR, ↓resVC, ↓resV1, ↓ressVC, ↓strU, ↓xAdd64, ↓xSub64, ↓vc_jn, ↓vc_je, ↓vc_jr, ↓pickA, ↓stU_env, ↓stU_mem, frz, both_true, both_false, both_dec, both_ndec, ev, absC, getA, setA, delA, tt, AV.good, AV.plain, AV.isSl, AV.cells, AV.one, Cells.len, Cells.get, Cells.sub, Cells.part, Cells.agg, Cells.upd, Cells.set, Cells.cat, Cells.rep, Cells.ones, TDsc.agg, zOf, putE, dstB, letGo, quietOp, slotOp, pickA, true_or, or_true, List.append_eq, Int.cast_ofNat_Int, List.any_cons, List.any_nil, beq_iff_eq, Bool.decide_eq_true, Option.getD_some, Option.getD_none, Option.map_some, Option.map_none, Option.bind_some, Option.isSome_some, Option.isNone_some, Option.isNone_none, Option.isSome_none, ↓reduceIte, Nat.reduceEqDiff, Nat.reduceLT, Nat.reduceLeDiff, Nat.reduceAdd, Nat.reduceSub, Nat.reduceMul, Nat.reduceBEq, Int.reduceLE, Int.reduceLT, Int.reduceToNat, Int.reduceNeg, BitVec.reduceToNat, decide_true, decide_false, and_true, true_and, and_self, Bool.or_true, Bool.true_or, Bool.or_false, Bool.false_or, Bool.not_true, Bool.not_false, List.map_cons, List.map_nil, List.length_cons, List.length_nil, List.getElem?_toArray, List.getElem?_cons_zero, List.getElem?_cons_succ, List.getElem?_nil, forall_const, true_implies, reduceCtorEq, false_and, and_false, false_implies, implies_true, Bool.false_eq_true, Bool.true_eq_false, ne_eq, not_true, not_false_iff, Nat.sub_zero, Nat.zero_add, Nat.add_zero, List.drop_zero, List.drop_succ_cons, List.drop_nil, List.take_zero, List.take_succ_cons, List.take_nil, List.set_cons_zero, List.set_cons_succ, List.nil_append, List.cons_append, List.append_nil, List.replicate_zero, List.replicate_succ, BitVec.ofNat_eq_ofNat, Option.some.injEq, AV.int.injEq, AV.u64.injEq, AV.u32.injEq, AV.u8.injEq, AV.bool.injEq, AV.a64.injEq, AV.a32.injEq, AV.a8.injEq, Nat.zero_le, Int.toNat_natCast, n7, cTrim, cDigit, cDigits, cWhole, cCompare, cCmp, cTimes, cLess, ha]
    intro ca hca
    unfold bitF at h
    refine ⟨fun hge => ?_, fun hlt => ?_⟩
    · rw [if_neg hge] at h
      refine ⟨⟨by omega, hi⟩, fun h2 => ?_, fun h2 => ?_⟩
      · rw [if_pos h2] at h; exact h
      · rw [if_neg h2] at h
        obtain ⟨m, hm⟩ : ∃ m : Nat, i % 32 = (m : Int) := ⟨(i % 32).toNat, by omega⟩
        have hm32 : m < 32 := by omega
        have e2 : (BitVec.ofInt 64 (i % 32)).toNat = m := by rw [hm, BitVec.ofInt_natCast, BitVec.toNat_ofNat]; omega
        have e3 : (i % 32).toNat = m := by omega
        rw [e3] at h
        rw [e2]
        have hp : (1#32 <<< m : U32).toNat = 2 ^ m := by
          rw [BitVec.toNat_shiftLeft, Nat.shiftLeft_eq, show (1#32 : U32).toNat = 1 from rfl, Nat.one_mul]
          exact Nat.mod_eq_of_lt (Nat.pow_lt_pow_right (by decide) (by omega))
        have hz : ¬ (1#32 <<< m : U32) = 0#32 := fun hz => by
          rw [hz] at hp
          have := Nat.two_pow_pos m
          have h0 : (0#32 : U32).toNat = 0 := rfl
          omega
        refine ⟨⟨by omega, hi⟩, ⟨by omega, by omega⟩, by omega, by omega, by omega, hz, by decide, ?_⟩
        rw [BitVec.toNat_umod, BitVec.toNat_udiv, hp]
        exact h
    · rw [if_pos hlt] at h; exact h
  · exact h.elim
set_option maxRecDepth 100000 in
set_option maxHeartbeats 1000000 in
theorem sBitN : Sound Try.prog 83 cBit := by
  refine sound_vc (tt := tt) (ct := n7) ttok n7_ok mixed Try.func83 rfl (by decide) (rs := [.tmp 4]) rfl (ts := [3]) (k := 0) ?_
  intro cas K h
  unfold cBit at h
  split at h
  · rename_i a i
    rw [Try.ntmps83]
    refine ⟨by simp, ?_⟩
    obtain ⟨⟨ha, hi⟩, h⟩ := h
    simp (maxSteps := 10000000) (implicitDefEqProofs := false) only [↓both_true, ↓both_false, ↓entryVC, ↓vc_skip, ↓vc_draw, ↓vc_list, ↓vc_seq, ↓vc_seqn, ↓vc_seqe, ↓vc_seqr, ↓vc_cond, ↓condVC, ↓vc_block, ↓vc_blockn, ↓vc_blockr, ↓vc_blocke, ↓vc_loop, ↓vc_exit, ↓vc_ret, ↓vc_loopn, ↓vc_loope, ↓vc_loopr, ↓vcl_nil, ↓vcl_cons, ↓lw_eq, ↓listVC, ↓memK, ↓memR, ↓envOf, ↓guardVC, ↓opVC, ↓pureVC, ↓binT, ↓wrapT, ↓TDsc.isW, ↓binW, ↓binVC, ↓bin8, ↓bin32, ↓bin64, ↓binInt, ↓shVC, ↓unVC, ↓cvVC, ↓rdVC, ↓loadVC, ↓pickC, ↓fillVC, ↓bndVC, ↓sliceVC, ↓bltVC, ↓storeVC, ↓appVC, ↓apzVC, ↓markVC, ↓copyVC, ↓callVC, ↓argsVC, ↓argVC, ↓bindR, ↓bindR1, ↓bindRs, ↓retW_eq, ↓extW_eq, ↓rowW_eq, ↓aggW_eq, ↓plv_nil, ↓plv_tk, ↓plv_fz, ↓plv_ld, ↓pt_eq, ↓pz_eq, ↓pl_eq, ↓delAll, ↓keepM_nil, ↓keepM, ↓extE, ↓extM, ↓leS, ↓leA, ↓retVC, ↓retR, ↓resVC, ↓resV1, ↓ressVC, ↓strU, ↓xAdd64, ↓xSub64, ↓vc_jn, ↓vc_je, ↓vc_jr, ↓pickA, ↓stU_env, ↓stU_mem, frz, both_true, both_false, both_dec, both_ndec, ev, absC, getA, setA, delA, tt, AV.good, AV.plain, AV.isSl, AV.cells, AV.one, Cells.len, Cells.get, Cells.sub, Cells.part, Cells.agg, Cells.upd, Cells.set, Cells.cat, Cells.rep, Cells.ones, TDsc.agg, zOf, putE, dstB, letGo, quietOp, slotOp, pickA, true_or, or_true, List.append_eq, Int.cast_ofNat_Int, List.any_cons, List.any_nil, beq_iff_eq, Bool.decide_eq_true, Option.getD_some, Option.getD_none, Option.map_some, Option.map_none, Option.bind_some, Option.isSome_some, Option.isNone_some, Option.isNone_none, Option.isSome_none, ↓reduceIte, Nat.reduceEqDiff, Nat.reduceLT, Nat.reduceLeDiff, Nat.reduceAdd, Nat.reduceSub, Nat.reduceMul, Nat.reduceBEq, Int.reduceLE, Int.reduceLT, Int.reduceToNat, Int.reduceNeg, BitVec.reduceToNat, decide_true, decide_false, and_true, true_and, and_self, Bool.or_true, Bool.true_or, Bool.or_false, Bool.false_or, Bool.not_true, Bool.not_false, List.map_cons, List.map_nil, List.length_cons, List.length_nil, List.getElem?_toArray, List.getElem?_cons_zero, List.getElem?_cons_succ, List.getElem?_nil, forall_const, true_implies, reduceCtorEq, false_and, and_false, false_implies, implies_true, Bool.false_eq_true, Bool.true_eq_false, ne_eq, not_true, not_false_iff, Nat.sub_zero, Nat.zero_add, Nat.add_zero, List.drop_zero, List.drop_succ_cons, List.drop_nil, List.take_zero, List.take_succ_cons, List.take_nil, List.set_cons_zero, List.set_cons_succ, List.nil_append, List.cons_append, List.append_nil, List.replicate_zero, List.replicate_succ, BitVec.ofNat_eq_ofNat, Option.some.injEq, AV.int.injEq, AV.u64.injEq, AV.u32.injEq, AV.u8.injEq, AV.bool.injEq, AV.a64.injEq, AV.a32.injEq, AV.a8.injEq, Nat.zero_le, Int.toNat_natCast, n7, cTrim, cDigit, cDigits, cWhole, cCompare, cCmp, cTimes, cLess, ha]
    intro ca hca
    unfold bitF at h
    refine ⟨fun hge => ?_, fun hlt => ?_⟩
    · rw [if_neg hge] at h
      refine ⟨⟨by omega, hi⟩, fun h2 => ?_, fun h2 => ?_⟩
      · rw [if_pos h2] at h; exact h
      · rw [if_neg h2] at h
        obtain ⟨m, hm⟩ : ∃ m : Nat, i % 32 = (m : Int) := ⟨(i % 32).toNat, by omega⟩
        have hm32 : m < 32 := by omega
        have e2 : (BitVec.ofInt 64 (i % 32)).toNat = m := by rw [hm, BitVec.ofInt_natCast, BitVec.toNat_ofNat]; omega
        have e3 : (i % 32).toNat = m := by omega
        rw [e3] at h
        rw [e3]
        refine ⟨⟨by omega, hi⟩, ⟨by omega, by omega⟩, by omega, by omega, by omega, by omega, ?_⟩
        rw [BitVec.toNat_and, BitVec.toNat_ushiftRight, Nat.shiftRight_eq_div_pow, show (1#32 : U32).toNat = 2 ^ 1 - 1 from rfl, Nat.and_two_pow_sub_one_eq_mod]
        exact h
    · rw [if_pos hlt] at h; exact h
  · exact h.elim
end Go.Proofs.Ytkpbjkhgiackpaa
