/- The next word of a quotient, guessed: the program's, by the engine. -/
import Derived.Test.YtkpbjkhgiackpaaQm0
namespace Go.Proofs.Ytkpbjkhgiackpaa
open Go Go.RowKit
set_option linter.unusedVariables false
set_option linter.unusedSimpArgs false

/-- What the guess comes to: by the three highest words of what is left, and the two highest of the divisor. -/
def gsT (r2 r1 r0 : U32) : Nat := (r2.toNat * 4294967296 + r1.toNat) * 4294967296 + r0.toNat
def gsD (d1 d0 : U32) : Nat := d1.toNat * 4294967296 + d0.toNat
def cGuess : CT := fun cas K => match cas with
  | [.v (.u32 r2), .v (.u32 r1), .v (.u32 r0), .v (.u32 d1), .v (.u32 d0)] => (2147483648 ≤ d1.toNat ∧ r2.toNat ≤ d1.toNat) ∧
      ∀ q : U64, q.toNat < 4294967296 → q.toNat * gsD d1 d0 ≤ gsT r2 r1 r0 → (4294967296 ≤ q.toNat + 1 ∨ gsT r2 r1 r0 < (q.toNat + 1) * gsD d1 d0) → K (.one (.v (.u64 q)))
  | _ => False
/-- The guess so far. -/
def GsI (t d1 T D : Nat) (s : U64 × U64) : Prop := s.1.toNat * d1 + s.2.toNat = t ∧ s.2.toNat < 4294967296 ∧ s.1.toNat ≤ 4294967296 + 1 ∧ (4294967296 ≤ s.1.toNat + 1 ∨ T < (s.1.toNat + 1) * D)
theorem hilo64 {l : U64} (r0 : U32) (h : l.toNat < 4294967296) : (l <<< 32 ||| r0.setWidth 64 : U64).toNat = l.toNat * 4294967296 + r0.toNat := by
  have e : ((l.setWidth 32 : U32).setWidth 64 : U64) = l := BitVec.eq_of_toNat_eq (by simp only [BitVec.toNat_setWidth]; omega)
  have e2 : (l.setWidth 32 : U32).toNat = l.toNat := by rw [BitVec.toNat_setWidth]; omega
  have := hilo (l.setWidth 32) r0
  rw [e, e2] at this
  exact this
theorem shr_zero {x : U64} : x >>> 32 = 0#64 ↔ x.toNat < 4294967296 := by
  constructor
  · intro h
    have := congrArg BitVec.toNat h
    rw [BitVec.toNat_ushiftRight, Nat.shiftRight_eq_div_pow] at this
    have z : (0#64 : U64).toNat = 0 := rfl
    rw [z] at this
    omega
  · intro h
    refine BitVec.eq_of_toNat_eq ?_
    rw [BitVec.toNat_ushiftRight, Nat.shiftRight_eq_div_pow]
    have z : (0#64 : U64).toNat = 0 := rfl
    rw [z]; omega
theorem sub_one {q : U64} (h : 0 < q.toNat) : (q - 1#64).toNat = q.toNat - 1 := by
  have := q.isLt
  rw [BitVec.toNat_sub]
  have z : (1#64 : U64).toNat = 1 := rfl
  rw [z]; omega
theorem gs_stop {t T q l : Nat} {d1 d0 r0 : U32} (hT : t * 4294967296 + r0.toNat = T) (h1 : q * d1.toNat + l = t) (h2 : q * d0.toNat ≤ l * 4294967296 + r0.toNat) : q * gsD d1 d0 ≤ T := by
  unfold gsD
  rw [Nat.mul_add, ← Nat.mul_assoc]
  rw [← h1, Nat.add_mul] at hT
  omega
theorem gs_over {t T q l : Nat} {d1 d0 r0 : U32} (hT : t * 4294967296 + r0.toNat = T) (h1 : q * d1.toNat + l = t) (h2 : l * 4294967296 + r0.toNat < q * d0.toNat) : T < q * gsD d1 d0 := by
  unfold gsD
  rw [Nat.mul_add, ← Nat.mul_assoc]
  rw [← h1, Nat.add_mul] at hT
  omega
theorem gs_break {t T q l : Nat} {d1 d0 r0 : U32} (b0 : d0.toNat < 2 ^ 32) (htop : t < (d1.toNat + 1) * 4294967296) (hT : t * 4294967296 + r0.toNat = T) (hq : 0 < q) (h1 : q * d1.toNat + l = t) (h2 : 4294967296 ≤ l + d1.toNat) (hw : 4294967296 ≤ q ∨ T < q * gsD d1 d0) :
    q - 1 < 4294967296 ∧ (q - 1) * gsD d1 d0 ≤ T ∧ (4294967296 ≤ q - 1 + 1 ∨ T < (q - 1 + 1) * gsD d1 d0) := by
  obtain ⟨p, rfl⟩ : ∃ p, q = p + 1 := ⟨q - 1, by omega⟩
  rw [Nat.add_sub_cancel]
  rw [Nat.add_mul, Nat.one_mul] at h1 htop
  have hp : p < 4294967296 := by
    have h3 : p * d1.toNat < 4294967296 * d1.toNat := by rw [Nat.mul_comm 4294967296]; omega
    exact Nat.lt_of_mul_lt_mul_right h3
  refine ⟨hp, ?_, hw⟩
  have h4 : p * d0.toNat ≤ 4294967296 * 4294967296 := Nat.mul_le_mul (by omega) (by omega)
  have h5 : t * 4294967296 = p * d1.toNat * 4294967296 + (d1.toNat + l) * 4294967296 := by rw [← h1, ← Nat.add_mul, Nat.add_assoc]
  have h6 : 4294967296 * 4294967296 ≤ (d1.toNat + l) * 4294967296 := Nat.mul_le_mul_right _ (by omega)
  unfold gsD
  rw [Nat.mul_add, ← Nat.mul_assoc]
  omega
theorem gs_start {t : U64} {d1 r2 r1 r0 d0 : U32} (hd1 : 2147483648 ≤ d1.toNat) (hr2 : r2.toNat ≤ d1.toNat) (et : t.toNat = r2.toNat * 4294967296 + r1.toNat) (ey : (d1.setWidth 64 : U64).toNat = d1.toNat) :
    GsI t.toNat d1.toNat (gsT r2 r1 r0) (gsD d1 d0) (t / d1.setWidth 64, t % d1.setWidth 64) := by
  have hp : 0 < d1.toNat := by omega
  have a1 := r1.isLt
  have a0 := r0.isLt
  have b1 := d1.isLt
  have hm := Nat.mod_lt t.toNat hp
  have hdm := Nat.div_add_mod t.toNat d1.toNat
  refine ⟨?_, ?_, ?_, .inr ?_⟩
  · dsimp only
    rw [BitVec.toNat_udiv, BitVec.toNat_umod, ey, Nat.mul_comm]
    exact hdm
  · dsimp only
    rw [BitVec.toNat_umod, ey]; omega
  · dsimp only
    rw [BitVec.toNat_udiv, ey]
    rw [← Nat.lt_succ_iff, Nat.div_lt_iff_lt_mul hp, et]
    have h1 : r2.toNat * 4294967296 ≤ d1.toNat * 4294967296 := Nat.mul_le_mul_right _ hr2
    show _ < (4294967296 + 1 + 1) * d1.toNat
    omega
  · dsimp only
    rw [BitVec.toNat_udiv, ey]
    have h1 : t.toNat + 1 ≤ (t.toNat / d1.toNat + 1) * d1.toNat := by
      rw [Nat.add_mul, Nat.one_mul, Nat.mul_comm]; omega
    have h2 : (t.toNat + 1) * 4294967296 ≤ (t.toNat / d1.toNat + 1) * d1.toNat * 4294967296 := Nat.mul_le_mul_right _ h1
    unfold gsT gsD
    rw [← et, Nat.mul_add, ← Nat.mul_assoc]
    omega
def g0 : CTab := fun F => match F with
  | _ => .fn noCT
theorem g0_ok : CTok Try.prog g0 := by
  intro F
  unfold g0
  split
  · exact sound_none _ _
set_option maxRecDepth 100000 in
set_option maxHeartbeats 1000000 in
theorem sGuess : Sound Try.prog 117 cGuess := by
  refine sound_vc (tt := tt) (ct := g0) ttok g0_ok mixed Try.func117 rfl (by decide) (rs := [.tmp 10]) rfl (ts := [37]) (k := 0) ?_
  intro cas K h
  unfold cGuess at h
  split at h
  · rename_i r2 r1 r0 d1 d0
    rw [Try.ntmps117]
    refine ⟨by simp, ?_⟩
    obtain ⟨⟨hd1, hr2⟩, h⟩ := h
    have b1 := d1.isLt
    have b0 := d0.isLt
    have a2 := r2.isLt
    have a1 := r1.isLt
    have a0 := r0.isLt
    have ey : (d1.setWidth 64 : U64).toNat = d1.toNat := by rw [BitVec.toNat_setWidth]; omega
    have hz : ¬ (d1.setWidth 64 : U64) = 0#64 := fun hq => by rw [hq] at ey; simp at ey; omega
    simp (maxSteps := 10000000) (implicitDefEqProofs := false) only [↓both_true, ↓both_false, ↓entryVC, ↓vc_skip, ↓vc_draw, ↓vc_list, ↓vc_seq, ↓vc_seqn, ↓vc_seqe, ↓vc_seqr, ↓vc_cond, ↓condVC, ↓vc_block, ↓vc_blockn, ↓vc_blockr, ↓vc_blocke, ↓vc_loop, ↓vc_exit, ↓vc_ret, ↓vc_loopn, ↓vc_loope, ↓vc_loopr, ↓vcl_nil, ↓vcl_cons, ↓lw_eq, ↓listVC, ↓memK, ↓memR, ↓envOf, ↓guardVC, ↓opVC, ↓pureVC, ↓binT, ↓wrapT, ↓TDsc.isW, ↓binW, ↓binVC, ↓bin8, ↓bin32, ↓bin64, ↓binInt, ↓shVC, ↓unVC, ↓cvVC, ↓rdVC, ↓loadVC, ↓pickC, ↓fillVC, ↓bndVC, ↓sliceVC, ↓bltVC, ↓storeVC, ↓appVC, ↓apzVC, ↓markVC, ↓copyVC, ↓callVC, ↓argsVC, ↓argVC, ↓bindR, ↓bindR1, ↓bindRs, ↓retW_eq, ↓extW_eq, ↓rowW_eq, ↓aggW_eq, ↓plv_nil, ↓plv_tk, ↓plv_fz, ↓plv_ld, ↓pt_eq, ↓pz_eq, ↓pl_eq, ↓delAll, ↓keepM_nil, ↓keepM, ↓extE, ↓extM, ↓leS, ↓leA, ↓retVC, ↓retR, ↓resVC, ↓resV1, ↓ressVC, ↓strU, ↓xAdd64, ↓xSub64, ↓vc_jn, ↓vc_je, ↓vc_jr, ↓pickA, ↓stU_env, ↓stU_mem, frz, both_true, both_false, both_dec, both_ndec, ev, absC, getA, setA, delA, tt, AV.good, AV.plain, AV.isSl, AV.cells, AV.one, Cells.len, Cells.get, Cells.sub, Cells.part, Cells.agg, Cells.upd, Cells.set, Cells.cat, Cells.rep, Cells.ones, TDsc.agg, zOf, putE, dstB, letGo, quietOp, slotOp, pickA, true_or, or_true, List.append_eq, Int.cast_ofNat_Int, List.any_cons, List.any_nil, beq_iff_eq, Bool.decide_eq_true, Option.getD_some, Option.getD_none, Option.map_some, Option.map_none, Option.bind_some, Option.isSome_some, Option.isNone_some, Option.isNone_none, Option.isSome_none, ↓reduceIte, Nat.reduceEqDiff, Nat.reduceLT, Nat.reduceLeDiff, Nat.reduceAdd, Nat.reduceSub, Nat.reduceMul, Nat.reduceBEq, Int.reduceLE, Int.reduceLT, Int.reduceToNat, Int.reduceNeg, BitVec.reduceToNat, decide_true, decide_false, and_true, true_and, and_self, Bool.or_true, Bool.true_or, Bool.or_false, Bool.false_or, Bool.not_true, Bool.not_false, List.map_cons, List.map_nil, List.length_cons, List.length_nil, List.getElem?_toArray, List.getElem?_cons_zero, List.getElem?_cons_succ, List.getElem?_nil, forall_const, true_implies, reduceCtorEq, false_and, and_false, false_implies, implies_true, Bool.false_eq_true, Bool.true_eq_false, ne_eq, not_true, not_false_iff, Nat.sub_zero, Nat.zero_add, Nat.add_zero, List.drop_zero, List.drop_succ_cons, List.drop_nil, List.take_zero, List.take_succ_cons, List.take_nil, List.set_cons_zero, List.set_cons_succ, List.nil_append, List.cons_append, List.append_nil, List.replicate_zero, List.replicate_succ, BitVec.ofNat_eq_ofNat, Option.some.injEq, AV.int.injEq, AV.u64.injEq, AV.u32.injEq, AV.u8.injEq, AV.bool.injEq, AV.a64.injEq, AV.a32.injEq, AV.a8.injEq, Nat.zero_le, Int.toNat_natCast, g0]
    refine draw_ _ _ _ [(.fz, 0), (.fz, 1), (.fz, 4), (.fz, 5), (.tk, 2), (.fz, 3), (.fz, 8), (.tk, 6), (.fz, 7), (.fz, 9)] [] [] (by kernel_rfl) ?_
    simp (maxSteps := 10000000) (implicitDefEqProofs := false) only [↓both_true, ↓both_false, ↓entryVC, ↓vc_skip, ↓vc_draw, ↓vc_list, ↓vc_seq, ↓vc_seqn, ↓vc_seqe, ↓vc_seqr, ↓vc_cond, ↓condVC, ↓vc_block, ↓vc_blockn, ↓vc_blockr, ↓vc_blocke, ↓vc_loop, ↓vc_exit, ↓vc_ret, ↓vc_loopn, ↓vc_loope, ↓vc_loopr, ↓vcl_nil, ↓vcl_cons, ↓lw_eq, ↓listVC, ↓memK, ↓memR, ↓envOf, ↓guardVC, ↓opVC, ↓pureVC, ↓binT, ↓wrapT, ↓TDsc.isW, ↓binW, ↓binVC, ↓bin8, ↓bin32, ↓bin64, ↓binInt, ↓shVC, ↓unVC, ↓cvVC, ↓rdVC, ↓loadVC, ↓pickC, ↓fillVC, ↓bndVC, ↓sliceVC, ↓bltVC, ↓storeVC, ↓appVC, ↓apzVC, ↓markVC, ↓copyVC, ↓callVC, ↓argsVC, ↓argVC, ↓bindR, ↓bindR1, ↓bindRs, ↓retW_eq, ↓extW_eq, ↓rowW_eq, ↓aggW_eq, ↓plv_nil, ↓plv_tk, ↓plv_fz, ↓plv_ld, ↓pt_eq, ↓pz_eq, ↓pl_eq, ↓delAll, ↓keepM_nil, ↓keepM, ↓extE, ↓extM, ↓leS, ↓leA, ↓retVC, ↓retR, ↓resVC, ↓resV1, ↓ressVC, ↓strU, ↓xAdd64, ↓xSub64, ↓vc_jn, ↓vc_je, ↓vc_jr, ↓pickA, ↓stU_env, ↓stU_mem, frz, both_true, both_false, both_dec, both_ndec, ev, absC, getA, setA, delA, tt, AV.good, AV.plain, AV.isSl, AV.cells, AV.one, Cells.len, Cells.get, Cells.sub, Cells.part, Cells.agg, Cells.upd, Cells.set, Cells.cat, Cells.rep, Cells.ones, TDsc.agg, zOf, putE, dstB, letGo, quietOp, slotOp, pickA, true_or, or_true, List.append_eq, Int.cast_ofNat_Int, List.any_cons, List.any_nil, beq_iff_eq, Bool.decide_eq_true, Option.getD_some, Option.getD_none, Option.map_some, Option.map_none, Option.bind_some, Option.isSome_some, Option.isNone_some, Option.isNone_none, Option.isSome_none, ↓reduceIte, Nat.reduceEqDiff, Nat.reduceLT, Nat.reduceLeDiff, Nat.reduceAdd, Nat.reduceSub, Nat.reduceMul, Nat.reduceBEq, Int.reduceLE, Int.reduceLT, Int.reduceToNat, Int.reduceNeg, BitVec.reduceToNat, decide_true, decide_false, and_true, true_and, and_self, Bool.or_true, Bool.true_or, Bool.or_false, Bool.false_or, Bool.not_true, Bool.not_false, List.map_cons, List.map_nil, List.length_cons, List.length_nil, List.getElem?_toArray, List.getElem?_cons_zero, List.getElem?_cons_succ, List.getElem?_nil, forall_const, true_implies, reduceCtorEq, false_and, and_false, false_implies, implies_true, Bool.false_eq_true, Bool.true_eq_false, ne_eq, not_true, not_false_iff, Nat.sub_zero, Nat.zero_add, Nat.add_zero, List.drop_zero, List.drop_succ_cons, List.drop_nil, List.take_zero, List.take_succ_cons, List.take_nil, List.set_cons_zero, List.set_cons_succ, List.nil_append, List.cons_append, List.append_nil, List.replicate_zero, List.replicate_succ, BitVec.ofNat_eq_ofNat, Option.some.injEq, AV.int.injEq, AV.u64.injEq, AV.u32.injEq, AV.u8.injEq, AV.bool.injEq, AV.a64.injEq, AV.a32.injEq, AV.a8.injEq, Nat.zero_le, Int.toNat_natCast, g0]
    refine ⟨hz, hz, ?_⟩
    have et := hilo r2 r1
    generalize ((BitVec.setWidth 64 r2 <<< 32 ||| BitVec.setWidth 64 r1) : U64) = t at *
    refine loopU _ _ _ [2, 3, 4] [] 5 (ι := {s : U64 × U64 // GsI t.toNat d1.toNat (gsT r2 r1 r0) (gsD d1 d0) s}) (fun s => [(12, .u64 s.1.1), (13, .u64 s.1.2)]) (fun _ => []) (fun s => s.1.1.toNat) ?_ ?_
    · refine LeJ.mk ⟨(t / d1.setWidth 64, t % d1.setWidth 64), gs_start hd1 hr2 et ey⟩ trivial ?_
      simp (maxSteps := 1000000) only [leS, leA, stU_env, stU_mem, pickA, getA, delA, setA, Cells.part, Cells.len, List.take_nil, List.drop_nil, List.length_nil, Nat.zero_add, ↓reduceIte, Nat.reduceEqDiff, Option.some.injEq, List.nil_append, List.cons_append, true_and, and_true, and_self, reduceCtorEq, AV.int.injEq, ME.own.injEq, ME.row.injEq, Cells.c32.injEq, Cells.c64.injEq, Cells.c8.injEq, AV.ptr.injEq, AV.ros.injEq, AV.grow.injEq, AV.u64.injEq, AV.u32.injEq]
      first | done | rfl | exact ⟨rfl, rfl⟩
    · rintro ⟨⟨q, l⟩, hI⟩
      obtain ⟨i1, i2, i3, i4⟩ := id hI
      dsimp only at i1 i2 i3 i4
      simp (maxSteps := 10000000) (implicitDefEqProofs := false) only [↓both_true, ↓both_false, ↓entryVC, ↓vc_skip, ↓vc_draw, ↓vc_list, ↓vc_seq, ↓vc_seqn, ↓vc_seqe, ↓vc_seqr, ↓vc_cond, ↓condVC, ↓vc_block, ↓vc_blockn, ↓vc_blockr, ↓vc_blocke, ↓vc_loop, ↓vc_exit, ↓vc_ret, ↓vc_loopn, ↓vc_loope, ↓vc_loopr, ↓vcl_nil, ↓vcl_cons, ↓lw_eq, ↓listVC, ↓memK, ↓memR, ↓envOf, ↓guardVC, ↓opVC, ↓pureVC, ↓binT, ↓wrapT, ↓TDsc.isW, ↓binW, ↓binVC, ↓bin8, ↓bin32, ↓bin64, ↓binInt, ↓shVC, ↓unVC, ↓cvVC, ↓rdVC, ↓loadVC, ↓pickC, ↓fillVC, ↓bndVC, ↓sliceVC, ↓bltVC, ↓storeVC, ↓appVC, ↓apzVC, ↓markVC, ↓copyVC, ↓callVC, ↓argsVC, ↓argVC, ↓bindR, ↓bindR1, ↓bindRs, ↓retW_eq, ↓extW_eq, ↓rowW_eq, ↓aggW_eq, ↓plv_nil, ↓plv_tk, ↓plv_fz, ↓plv_ld, ↓pt_eq, ↓pz_eq, ↓pl_eq, ↓delAll, ↓keepM_nil, ↓keepM, ↓extE, ↓extM, ↓leS, ↓leA, ↓retVC, ↓retR, ↓resVC, ↓resV1, ↓ressVC, ↓strU, ↓xAdd64, ↓xSub64, ↓vc_jn, ↓vc_je, ↓vc_jr, ↓pickA, ↓stU_env, ↓stU_mem, frz, both_true, both_false, both_dec, both_ndec, ev, absC, getA, setA, delA, tt, AV.good, AV.plain, AV.isSl, AV.cells, AV.one, Cells.len, Cells.get, Cells.sub, Cells.part, Cells.agg, Cells.upd, Cells.set, Cells.cat, Cells.rep, Cells.ones, TDsc.agg, zOf, putE, dstB, letGo, quietOp, slotOp, pickA, true_or, or_true, List.append_eq, Int.cast_ofNat_Int, List.any_cons, List.any_nil, beq_iff_eq, Bool.decide_eq_true, Option.getD_some, Option.getD_none, Option.map_some, Option.map_none, Option.bind_some, Option.isSome_some, Option.isNone_some, Option.isNone_none, Option.isSome_none, ↓reduceIte, Nat.reduceEqDiff, Nat.reduceLT, Nat.reduceLeDiff, Nat.reduceAdd, Nat.reduceSub, Nat.reduceMul, Nat.reduceBEq, Int.reduceLE, Int.reduceLT, Int.reduceToNat, Int.reduceNeg, BitVec.reduceToNat, decide_true, decide_false, and_true, true_and, and_self, Bool.or_true, Bool.true_or, Bool.or_false, Bool.false_or, Bool.not_true, Bool.not_false, List.map_cons, List.map_nil, List.length_cons, List.length_nil, List.getElem?_toArray, List.getElem?_cons_zero, List.getElem?_cons_succ, List.getElem?_nil, forall_const, true_implies, reduceCtorEq, false_and, and_false, false_implies, implies_true, Bool.false_eq_true, Bool.true_eq_false, ne_eq, not_true, not_false_iff, Nat.sub_zero, Nat.zero_add, Nat.add_zero, List.drop_zero, List.drop_succ_cons, List.drop_nil, List.take_zero, List.take_succ_cons, List.take_nil, List.set_cons_zero, List.set_cons_succ, List.nil_append, List.cons_append, List.append_nil, List.replicate_zero, List.replicate_succ, BitVec.ofNat_eq_ofNat, Option.some.injEq, AV.int.injEq, AV.u64.injEq, AV.u32.injEq, AV.u8.injEq, AV.bool.injEq, AV.a64.injEq, AV.a32.injEq, AV.a8.injEq, Nat.zero_le, Int.toNat_natCast, g0]
      have el := hilo64 (l := l) r0 i2
      have ea : (l + BitVec.setWidth 64 d1).toNat = l.toNat + d1.toNat := by
        rw [BitVec.toNat_add, ey]; omega
      have eb : (l + BitVec.setWidth 64 d1) >>> 32 = 0#64 ↔ l.toNat + d1.toNat < 4294967296 := by
        rw [shr_zero, ea]
      have htop : t.toNat < (d1.toNat + 1) * 4294967296 := by
        have h1 : r2.toNat * 4294967296 ≤ d1.toNat * 4294967296 := Nat.mul_le_mul_right _ hr2
        rw [Nat.add_mul, Nat.one_mul]; omega
      have fin : 0 < q.toNat → (4294967296 ≤ q.toNat ∨ gsT r2 r1 r0 < q.toNat * gsD d1 d0) → ¬ (l + BitVec.setWidth 64 d1) >>> 32 = 0#64 → K (.one (.v (.u64 (q - 1#64)))) := fun hq hw hn => by
        have hn2 : 4294967296 ≤ l.toNat + d1.toNat := by
          have := mt eb.2 hn; omega
        obtain ⟨f1, f2, f3⟩ := gs_break b0 htop (T := gsT r2 r1 r0) (by unfold gsT; rw [et]) hq i1 hn2 hw
        have em := sub_one hq
        exact h _ (by rw [em]; exact f1) (by rw [em]; exact f2) (by rw [em]; exact f3)
      have go : 0 < q.toNat → (4294967296 ≤ q.toNat ∨ gsT r2 r1 r0 < q.toNat * gsD d1 d0) → (l + BitVec.setWidth 64 d1) >>> 32 = 0#64 → GsI t.toNat d1.toNat (gsT r2 r1 r0) (gsD d1 d0) (q - 1#64, l + BitVec.setWidth 64 d1) := fun hq hw hn => by
        have hn2 := eb.1 hn
        have em := sub_one hq
        have hs : (q.toNat - 1) * d1.toNat + d1.toNat = q.toNat * d1.toNat := by
          conv => rhs; rw [show q.toNat = q.toNat - 1 + 1 by omega, Nat.add_mul, Nat.one_mul]
        refine ⟨by dsimp only; rw [em, ea]; omega, by dsimp only; rw [ea]; exact hn2, by dsimp only; rw [em]; omega, ?_⟩
        dsimp only
        rw [em, show q.toNat - 1 + 1 = q.toNat by omega]; exact hw
      by_cases hq : q >>> 32 = 0#64
      · have hq2 := shr_zero.1 hq
        have ed : (d0.setWidth 64 : U64).toNat = d0.toNat := by rw [BitVec.toNat_setWidth]; omega
        have ep : (q * BitVec.setWidth 64 d0).toNat = q.toNat * d0.toNat := by
          rw [BitVec.toNat_mul, ed]
          have : q.toNat * d0.toNat ≤ 4294967295 * 4294967295 := Nat.mul_le_mul (by omega) (by omega)
          exact Nat.mod_eq_of_lt (by omega)
        rw [show (!!decide (q >>> 32 = 0#64)) = true by simp [hq], both_true, el, ep]
        refine ⟨fun hlt => ?_, fun hge => h q hq2 (gs_stop (T := gsT r2 r1 r0) (by unfold gsT; rw [et]) i1 (by omega)) i4⟩
        have hpos : 0 < q.toNat := by
          rcases Nat.eq_zero_or_pos q.toNat with h0 | h0
          · rw [h0, Nat.zero_mul] at hlt; omega
          · exact h0
        have hw : 4294967296 ≤ q.toNat ∨ gsT r2 r1 r0 < q.toNat * gsD d1 d0 := .inr (gs_over (by unfold gsT; rw [et]) i1 hlt)
        refine ⟨fin hpos hw, fun hn => ?_⟩
        refine LeJ.mk ⟨(q - 1#64, l + BitVec.setWidth 64 d1), go hpos hw hn⟩ (by dsimp only; rw [sub_one hpos]; omega) ?_
        simp (maxSteps := 1000000) only [leS, leA, stU_env, stU_mem, pickA, getA, delA, setA, Cells.part, Cells.len, List.take_nil, List.drop_nil, List.length_nil, Nat.zero_add, ↓reduceIte, Nat.reduceEqDiff, Option.some.injEq, List.nil_append, List.cons_append, true_and, and_true, and_self, reduceCtorEq, AV.int.injEq, ME.own.injEq, ME.row.injEq, Cells.c32.injEq, Cells.c64.injEq, Cells.c8.injEq, AV.ptr.injEq, AV.ros.injEq, AV.grow.injEq, AV.u64.injEq, AV.u32.injEq]
        first | done | rfl | exact ⟨rfl, rfl⟩
      · have hq2 : 4294967296 ≤ q.toNat := by
          have := mt shr_zero.2 hq; omega
        have hpos : 0 < q.toNat := by omega
        rw [show (!!decide (q >>> 32 = 0#64)) = false by simp [hq], both_false]
        refine ⟨fin hpos (.inl hq2), fun hn => ?_⟩
        refine LeJ.mk ⟨(q - 1#64, l + BitVec.setWidth 64 d1), go hpos (.inl hq2) hn⟩ (by dsimp only; rw [sub_one hpos]; omega) ?_
        simp (maxSteps := 1000000) only [leS, leA, stU_env, stU_mem, pickA, getA, delA, setA, Cells.part, Cells.len, List.take_nil, List.drop_nil, List.length_nil, Nat.zero_add, ↓reduceIte, Nat.reduceEqDiff, Option.some.injEq, List.nil_append, List.cons_append, true_and, and_true, and_self, reduceCtorEq, AV.int.injEq, ME.own.injEq, ME.row.injEq, Cells.c32.injEq, Cells.c64.injEq, Cells.c8.injEq, AV.ptr.injEq, AV.ros.injEq, AV.grow.injEq, AV.u64.injEq, AV.u32.injEq]
        first | done | rfl | exact ⟨rfl, rfl⟩
  · exact h.elim
end Go.Proofs.Ytkpbjkhgiackpaa
