/- The law of what is undone, by the engine. -/
import Derived.Test.YtjleiifcigojoaaLa
import Derived.Test.YtjleiifcigojoaaDv1
namespace Go.Proofs.Ytjleiifcigojoaa
open Go Go.RowKit
set_option linter.unusedVariables false
set_option linter.unusedSimpArgs false

theorem sgn_zeroU {x y : Nat} : sgn x y = 0 ↔ x = y := by
  unfold sgn
  split
  · simp; omega
  · split <;> simp <;> omega
theorem len0 {r : List U32} (hr : Can32 r) (h : nv32 r = 0) : decide ((r.length : Int) = 0) = true := by
  rw [hr.nil_iff.2 h]; rfl
def cLawU : CT := fun cas K => match cas with
  | [.s (.c32 a), .s (.c32 b)] => K (.one (.v (.bool true)))
  | _ => False
def cSubK : CT := fun cas K => match cas with
  | [.s (.c32 a), .s (.c32 b)] => (a.length ≤ 100000 ∧ b.length ≤ 100000 ∧ nv32 b ≤ nv32 a) ∧ ∀ e, Can32 e → nv32 e = nv32 a - nv32 b → e.length ≤ a.length → K (.tup [.al (.c32 e), .v (.int 0)])
  | _ => False
theorem sSubK : Sound Try.prog 25 cSubK := fun cas K W vals ha h => sSubN cas K W vals ha (by
  unfold cSubK at h
  split at h
  · obtain ⟨⟨h1, h2, h3⟩, h4⟩ := h
    exact ⟨⟨h1, h2⟩, fun h5 => absurd h5 (by omega), fun _ => h4⟩
  · exact h.elim)
def w5 : CTab := fun F => match F with
  | 11 => .fn cAlive
  | 24 => .fn cAddN
  | 25 => .fn cSubK
  | 19 => .fn cMulN
  | 23 => .fn cCmpN
  | 12 => .fn cDivN
  | 29 => .fn cBits
  | _ => .fn noCT
theorem w5_ok : CTok Try.prog w5 := by
  intro F
  unfold w5
  split
  · exact sAlive
  · exact sAddN
  · exact sSubK
  · exact sMulN
  · exact sCmpN
  · exact sDivN
  · exact sBitsN
  · exact sound_none _ _
set_option maxRecDepth 100000 in
set_option maxHeartbeats 8000000 in
theorem sNatUndone : Sound Try.prog 9 cLawU := by
  refine sound_vc (tt := tt) (ct := w5) ttok w5_ok mixed Try.func9 rfl (by decide) (rs := [.tmp 4]) rfl (ts := [4]) (k := 0) ?_
  intro cas K h
  unfold cLawU at h
  split at h
  · rename_i a b
    rw [Try.ntmps9]
    refine ⟨by simp, ?_⟩
    have h0 := h
    simp (maxSteps := 10000000) (implicitDefEqProofs := false) only [↓both_true, ↓both_false, ↓entryVC, ↓vc_skip, ↓vc_draw, ↓vc_list, ↓vc_seq, ↓vc_seqn, ↓vc_seqe, ↓vc_seqr, ↓vc_cond, ↓condVC, ↓vc_block, ↓vc_blockn, ↓vc_blockr, ↓vc_blocke, ↓vc_loop, ↓vc_exit, ↓vc_ret, ↓vc_loopn, ↓vc_loope, ↓vc_loopr, ↓vcl_nil, ↓vcl_cons, ↓lw_eq, ↓listVC, ↓memK, ↓memR, ↓envOf, ↓guardVC, ↓opVC, ↓pureVC, ↓binT, ↓wrapT, ↓TDsc.isW, ↓binW, ↓binVC, ↓bin8, ↓bin32, ↓bin64, ↓binInt, ↓shVC, ↓unVC, ↓cvVC, ↓rdVC, ↓loadVC, ↓pickC, ↓fillVC, ↓bndVC, ↓sliceVC, ↓bltVC, ↓storeVC, ↓appVC, ↓apzVC, ↓markVC, ↓copyVC, ↓callVC, ↓argsVC, ↓argVC, ↓bindR, ↓bindR1, ↓bindRs, ↓retW_eq, ↓extW_eq, ↓rowW_eq, ↓aggW_eq, ↓plv_nil, ↓plv_tk, ↓plv_fz, ↓plv_ld, ↓pt_eq, ↓pz_eq, ↓pl_eq, ↓delAll, ↓keepM_nil, ↓keepM, ↓extE, ↓extM, ↓leS, ↓leA, ↓retVC, ↓retR, ↓resVC, ↓resV1, ↓ressVC, ↓strU, ↓xAdd64, ↓xSub64, ↓vc_jn, ↓vc_je, ↓vc_jr, ↓pickA, ↓stU_env, ↓stU_mem, both_true, both_false, both_dec, both_ndec, ev, absC, getA, setA, delA, tt, AV.good, AV.plain, AV.isSl, AV.cells, AV.one, Cells.len, Cells.get, Cells.sub, Cells.part, Cells.agg, Cells.upd, Cells.set, Cells.cat, Cells.rep, Cells.ones, TDsc.agg, zOf, putE, dstB, letGo, quietOp, slotOp, pickA, true_or, or_true, List.append_eq, Int.cast_ofNat_Int, List.any_cons, List.any_nil, beq_iff_eq, Bool.decide_eq_true, Option.getD_some, Option.getD_none, Option.map_some, Option.map_none, Option.bind_some, Option.isSome_some, Option.isNone_some, Option.isNone_none, Option.isSome_none, ↓reduceIte, Nat.reduceEqDiff, Nat.reduceLT, Nat.reduceLeDiff, Nat.reduceAdd, Nat.reduceSub, Nat.reduceMul, Nat.reduceBEq, Int.reduceLE, Int.reduceLT, Int.reduceToNat, Int.reduceNeg, BitVec.reduceToNat, decide_true, decide_false, and_true, true_and, and_self, Bool.or_true, Bool.true_or, Bool.or_false, Bool.false_or, Bool.not_true, Bool.not_false, List.map_cons, List.map_nil, List.length_cons, List.length_nil, List.getElem?_toArray, List.getElem?_cons_zero, List.getElem?_cons_succ, List.getElem?_nil, forall_const, true_implies, reduceCtorEq, false_and, and_false, false_implies, implies_true, Bool.false_eq_true, Bool.true_eq_false, ne_eq, not_true, not_false_iff, Nat.sub_zero, Nat.zero_add, Nat.add_zero, List.drop_zero, List.drop_succ_cons, List.drop_nil, List.take_zero, List.take_succ_cons, List.take_nil, List.set_cons_zero, List.set_cons_succ, List.nil_append, List.cons_append, List.append_nil, List.replicate_zero, List.replicate_succ, BitVec.ofNat_eq_ofNat, Option.some.injEq, AV.int.injEq, AV.u64.injEq, AV.u32.injEq, AV.u8.injEq, AV.bool.injEq, AV.a64.injEq, AV.a32.injEq, AV.a8.injEq, Nat.zero_le, Int.toNat_natCast, w5, cAlive, cAddN, cSubK, cMulN, cCmpN, cDivN, cBits, List.getD_cons_zero]
    intros
    by_cases c1 : 80 < (a.length : Int)
    · simp (maxSteps := 10000000) (implicitDefEqProofs := false) only [↓both_true, ↓both_false, ↓entryVC, ↓vc_skip, ↓vc_draw, ↓vc_list, ↓vc_seq, ↓vc_seqn, ↓vc_seqe, ↓vc_seqr, ↓vc_cond, ↓condVC, ↓vc_block, ↓vc_blockn, ↓vc_blockr, ↓vc_blocke, ↓vc_loop, ↓vc_exit, ↓vc_ret, ↓vc_loopn, ↓vc_loope, ↓vc_loopr, ↓vcl_nil, ↓vcl_cons, ↓lw_eq, ↓listVC, ↓memK, ↓memR, ↓envOf, ↓guardVC, ↓opVC, ↓pureVC, ↓binT, ↓wrapT, ↓TDsc.isW, ↓binW, ↓binVC, ↓bin8, ↓bin32, ↓bin64, ↓binInt, ↓shVC, ↓unVC, ↓cvVC, ↓rdVC, ↓loadVC, ↓pickC, ↓fillVC, ↓bndVC, ↓sliceVC, ↓bltVC, ↓storeVC, ↓appVC, ↓apzVC, ↓markVC, ↓copyVC, ↓callVC, ↓argsVC, ↓argVC, ↓bindR, ↓bindR1, ↓bindRs, ↓retW_eq, ↓extW_eq, ↓rowW_eq, ↓aggW_eq, ↓plv_nil, ↓plv_tk, ↓plv_fz, ↓plv_ld, ↓pt_eq, ↓pz_eq, ↓pl_eq, ↓delAll, ↓keepM_nil, ↓keepM, ↓extE, ↓extM, ↓leS, ↓leA, ↓retVC, ↓retR, ↓resVC, ↓resV1, ↓ressVC, ↓strU, ↓xAdd64, ↓xSub64, ↓vc_jn, ↓vc_je, ↓vc_jr, ↓pickA, ↓stU_env, ↓stU_mem, both_true, both_false, both_dec, both_ndec, ev, absC, getA, setA, delA, tt, AV.good, AV.plain, AV.isSl, AV.cells, AV.one, Cells.len, Cells.get, Cells.sub, Cells.part, Cells.agg, Cells.upd, Cells.set, Cells.cat, Cells.rep, Cells.ones, TDsc.agg, zOf, putE, dstB, letGo, quietOp, slotOp, pickA, true_or, or_true, List.append_eq, Int.cast_ofNat_Int, List.any_cons, List.any_nil, beq_iff_eq, Bool.decide_eq_true, Option.getD_some, Option.getD_none, Option.map_some, Option.map_none, Option.bind_some, Option.isSome_some, Option.isNone_some, Option.isNone_none, Option.isSome_none, ↓reduceIte, Nat.reduceEqDiff, Nat.reduceLT, Nat.reduceLeDiff, Nat.reduceAdd, Nat.reduceSub, Nat.reduceMul, Nat.reduceBEq, Int.reduceLE, Int.reduceLT, Int.reduceToNat, Int.reduceNeg, BitVec.reduceToNat, decide_true, decide_false, and_true, true_and, and_self, Bool.or_true, Bool.true_or, Bool.or_false, Bool.false_or, Bool.not_true, Bool.not_false, List.map_cons, List.map_nil, List.length_cons, List.length_nil, List.getElem?_toArray, List.getElem?_cons_zero, List.getElem?_cons_succ, List.getElem?_nil, forall_const, true_implies, reduceCtorEq, false_and, and_false, false_implies, implies_true, Bool.false_eq_true, Bool.true_eq_false, ne_eq, not_true, not_false_iff, Nat.sub_zero, Nat.zero_add, Nat.add_zero, List.drop_zero, List.drop_succ_cons, List.drop_nil, List.take_zero, List.take_succ_cons, List.take_nil, List.set_cons_zero, List.set_cons_succ, List.nil_append, List.cons_append, List.append_nil, List.replicate_zero, List.replicate_succ, BitVec.ofNat_eq_ofNat, Option.some.injEq, AV.int.injEq, AV.u64.injEq, AV.u32.injEq, AV.u8.injEq, AV.bool.injEq, AV.a64.injEq, AV.a32.injEq, AV.a8.injEq, Nat.zero_le, Int.toNat_natCast, w5, cAlive, c1]
      exact h
    · by_cases c2 : 80 < (b.length : Int)
      · simp (maxSteps := 10000000) (implicitDefEqProofs := false) only [↓both_true, ↓both_false, ↓entryVC, ↓vc_skip, ↓vc_draw, ↓vc_list, ↓vc_seq, ↓vc_seqn, ↓vc_seqe, ↓vc_seqr, ↓vc_cond, ↓condVC, ↓vc_block, ↓vc_blockn, ↓vc_blockr, ↓vc_blocke, ↓vc_loop, ↓vc_exit, ↓vc_ret, ↓vc_loopn, ↓vc_loope, ↓vc_loopr, ↓vcl_nil, ↓vcl_cons, ↓lw_eq, ↓listVC, ↓memK, ↓memR, ↓envOf, ↓guardVC, ↓opVC, ↓pureVC, ↓binT, ↓wrapT, ↓TDsc.isW, ↓binW, ↓binVC, ↓bin8, ↓bin32, ↓bin64, ↓binInt, ↓shVC, ↓unVC, ↓cvVC, ↓rdVC, ↓loadVC, ↓pickC, ↓fillVC, ↓bndVC, ↓sliceVC, ↓bltVC, ↓storeVC, ↓appVC, ↓apzVC, ↓markVC, ↓copyVC, ↓callVC, ↓argsVC, ↓argVC, ↓bindR, ↓bindR1, ↓bindRs, ↓retW_eq, ↓extW_eq, ↓rowW_eq, ↓aggW_eq, ↓plv_nil, ↓plv_tk, ↓plv_fz, ↓plv_ld, ↓pt_eq, ↓pz_eq, ↓pl_eq, ↓delAll, ↓keepM_nil, ↓keepM, ↓extE, ↓extM, ↓leS, ↓leA, ↓retVC, ↓retR, ↓resVC, ↓resV1, ↓ressVC, ↓strU, ↓xAdd64, ↓xSub64, ↓vc_jn, ↓vc_je, ↓vc_jr, ↓pickA, ↓stU_env, ↓stU_mem, both_true, both_false, both_dec, both_ndec, ev, absC, getA, setA, delA, tt, AV.good, AV.plain, AV.isSl, AV.cells, AV.one, Cells.len, Cells.get, Cells.sub, Cells.part, Cells.agg, Cells.upd, Cells.set, Cells.cat, Cells.rep, Cells.ones, TDsc.agg, zOf, putE, dstB, letGo, quietOp, slotOp, pickA, true_or, or_true, List.append_eq, Int.cast_ofNat_Int, List.any_cons, List.any_nil, beq_iff_eq, Bool.decide_eq_true, Option.getD_some, Option.getD_none, Option.map_some, Option.map_none, Option.bind_some, Option.isSome_some, Option.isNone_some, Option.isNone_none, Option.isSome_none, ↓reduceIte, Nat.reduceEqDiff, Nat.reduceLT, Nat.reduceLeDiff, Nat.reduceAdd, Nat.reduceSub, Nat.reduceMul, Nat.reduceBEq, Int.reduceLE, Int.reduceLT, Int.reduceToNat, Int.reduceNeg, BitVec.reduceToNat, decide_true, decide_false, and_true, true_and, and_self, Bool.or_true, Bool.true_or, Bool.or_false, Bool.false_or, Bool.not_true, Bool.not_false, List.map_cons, List.map_nil, List.length_cons, List.length_nil, List.getElem?_toArray, List.getElem?_cons_zero, List.getElem?_cons_succ, List.getElem?_nil, forall_const, true_implies, reduceCtorEq, false_and, and_false, false_implies, implies_true, Bool.false_eq_true, Bool.true_eq_false, ne_eq, not_true, not_false_iff, Nat.sub_zero, Nat.zero_add, Nat.add_zero, List.drop_zero, List.drop_succ_cons, List.drop_nil, List.take_zero, List.take_succ_cons, List.take_nil, List.set_cons_zero, List.set_cons_succ, List.nil_append, List.cons_append, List.append_nil, List.replicate_zero, List.replicate_succ, BitVec.ofNat_eq_ofNat, Option.some.injEq, AV.int.injEq, AV.u64.injEq, AV.u32.injEq, AV.u8.injEq, AV.bool.injEq, AV.a64.injEq, AV.a32.injEq, AV.a8.injEq, Nat.zero_le, Int.toNat_natCast, w5, cAlive, c1, c2]
        exact h
      · simp (maxSteps := 10000000) (implicitDefEqProofs := false) only [↓both_true, ↓both_false, ↓entryVC, ↓vc_skip, ↓vc_draw, ↓vc_list, ↓vc_seq, ↓vc_seqn, ↓vc_seqe, ↓vc_seqr, ↓vc_cond, ↓condVC, ↓vc_block, ↓vc_blockn, ↓vc_blockr, ↓vc_blocke, ↓vc_loop, ↓vc_exit, ↓vc_ret, ↓vc_loopn, ↓vc_loope, ↓vc_loopr, ↓vcl_nil, ↓vcl_cons, ↓lw_eq, ↓listVC, ↓memK, ↓memR, ↓envOf, ↓guardVC, ↓opVC, ↓pureVC, ↓binT, ↓wrapT, ↓TDsc.isW, ↓binW, ↓binVC, ↓bin8, ↓bin32, ↓bin64, ↓binInt, ↓shVC, ↓unVC, ↓cvVC, ↓rdVC, ↓loadVC, ↓pickC, ↓fillVC, ↓bndVC, ↓sliceVC, ↓bltVC, ↓storeVC, ↓appVC, ↓apzVC, ↓markVC, ↓copyVC, ↓callVC, ↓argsVC, ↓argVC, ↓bindR, ↓bindR1, ↓bindRs, ↓retW_eq, ↓extW_eq, ↓rowW_eq, ↓aggW_eq, ↓plv_nil, ↓plv_tk, ↓plv_fz, ↓plv_ld, ↓pt_eq, ↓pz_eq, ↓pl_eq, ↓delAll, ↓keepM_nil, ↓keepM, ↓extE, ↓extM, ↓leS, ↓leA, ↓retVC, ↓retR, ↓resVC, ↓resV1, ↓ressVC, ↓strU, ↓xAdd64, ↓xSub64, ↓vc_jn, ↓vc_je, ↓vc_jr, ↓pickA, ↓stU_env, ↓stU_mem, both_true, both_false, both_dec, both_ndec, ev, absC, getA, setA, delA, tt, AV.good, AV.plain, AV.isSl, AV.cells, AV.one, Cells.len, Cells.get, Cells.sub, Cells.part, Cells.agg, Cells.upd, Cells.set, Cells.cat, Cells.rep, Cells.ones, TDsc.agg, zOf, putE, dstB, letGo, quietOp, slotOp, pickA, true_or, or_true, List.append_eq, Int.cast_ofNat_Int, List.any_cons, List.any_nil, beq_iff_eq, Bool.decide_eq_true, Option.getD_some, Option.getD_none, Option.map_some, Option.map_none, Option.bind_some, Option.isSome_some, Option.isNone_some, Option.isNone_none, Option.isSome_none, ↓reduceIte, Nat.reduceEqDiff, Nat.reduceLT, Nat.reduceLeDiff, Nat.reduceAdd, Nat.reduceSub, Nat.reduceMul, Nat.reduceBEq, Int.reduceLE, Int.reduceLT, Int.reduceToNat, Int.reduceNeg, BitVec.reduceToNat, decide_true, decide_false, and_true, true_and, and_self, Bool.or_true, Bool.true_or, Bool.or_false, Bool.false_or, Bool.not_true, Bool.not_false, List.map_cons, List.map_nil, List.length_cons, List.length_nil, List.getElem?_toArray, List.getElem?_cons_zero, List.getElem?_cons_succ, List.getElem?_nil, forall_const, true_implies, reduceCtorEq, false_and, and_false, false_implies, implies_true, Bool.false_eq_true, Bool.true_eq_false, ne_eq, not_true, not_false_iff, Nat.sub_zero, Nat.zero_add, Nat.add_zero, List.drop_zero, List.drop_succ_cons, List.drop_nil, List.take_zero, List.take_succ_cons, List.take_nil, List.set_cons_zero, List.set_cons_succ, List.nil_append, List.cons_append, List.append_nil, List.replicate_zero, List.replicate_succ, BitVec.ofNat_eq_ofNat, Option.some.injEq, AV.int.injEq, AV.u64.injEq, AV.u32.injEq, AV.u8.injEq, AV.bool.injEq, AV.a64.injEq, AV.a32.injEq, AV.a8.injEq, Nat.zero_le, Int.toNat_natCast, w5, cAlive, cAddN, cSubK, cMulN, cCmpN, cDivN, cBits, List.getD_cons_zero, c1, c2]
        simp only [sgn_zeroU]
        refine ⟨⟨by omega, by omega⟩, fun s ds vs ls ks ms => ⟨⟨by omega, by omega, by omega⟩, fun t dt vt lt kt mt => ⟨⟨by omega, by omega⟩, fun hn => absurd (by omega : nv32 t = nv32 a) hn, fun _ => ⟨⟨by omega, by omega⟩, fun hz => ⟨by omega, fun _ => h, fun hn => absurd (by rw [hz]; rfl) hn⟩, fun hb0 hlt e de ve le => ?_, fun hb0 hge q r dq dr vq vr lq lr => ?_⟩⟩⟩⟩
        · have hbl : ¬ ((blN (nv32 b) : Nat) : Int) = 0 := fun h9 => by
            have := (bl_bounds hb0).2.2; omega
          refine fun c m => ⟨by omega, fun hz => absurd hz hbl, fun _ => ⟨by omega, fun e1 d1 v1 l1 k1 m1 => ⟨⟨by omega, by omega⟩, fun e2 d2 v2 l2 k2 m2 => ⟨⟨by omega, by omega⟩, fun e3 d3 v3 l3 k3 m3 => ?_⟩⟩⟩⟩
          have heq : nv32 e2 = nv32 a := by rw [v2, v1, show nv32 [] = 0 from rfl, Nat.zero_mul, Nat.zero_add, ve]
          have hRb : nv32 e < nv32 b := by omega
          refine ⟨⟨by omega, by omega⟩, fun hz => absurd hz hb0, fun _ hl e4 d4 v4 l4 k4 m4 => ⟨⟨by omega, by omega⟩, fun _ => ⟨⟨by omega, by omega⟩, fun _ => ?_, fun hn => absurd (sgn_neg.2 hRb) hn⟩, fun hn => absurd heq hn⟩, fun _ hg q5 r5 dq5 dr5 vq5 vr5 lq5 lr5 k5 m5 k6 m6 => ⟨⟨by omega, by omega⟩, fun _ => ⟨⟨by omega, by omega⟩, fun _ => ⟨⟨by omega, by omega⟩, fun _ => ?_, fun hn => absurd ?_ hn⟩, fun hn => absurd (sgn_neg.2 hRb) hn⟩, fun hn => absurd heq hn⟩⟩
          · have hz : nv32 a = 0 := by
              rcases Nat.eq_zero_or_pos (nv32 a) with h9 | h9
              · exact h9
              · have : 1 * nv32 b ≤ nv32 a * nv32 b := Nat.mul_le_mul_right _ h9
                rw [v3] at hl; omega
            refine ⟨by omega, fun _ => ?_, fun hn => absurd (by rw [hz]; rfl) hn⟩
            rw [len0 d4 (by rw [v4, v3, hz, Nat.zero_mul])]; exact h
          · rw [len0 dr5 (by rw [vr5, v3, Nat.mul_mod_left])]; exact h
          · rw [vq5, v3, Nat.mul_div_cancel _ (by omega)]
        · have hbl : ¬ ((blN (nv32 b) : Nat) : Int) = 0 := fun h9 => by
            have := (bl_bounds hb0).2.2; omega
          refine fun c m c' m' => ⟨by omega, fun hz => absurd hz hbl, fun _ => ⟨⟨by omega, by omega⟩, fun e1 d1 v1 l1 k1 m1 => ⟨⟨by omega, by omega⟩, fun e2 d2 v2 l2 k2 m2 => ⟨⟨by omega, by omega⟩, fun e3 d3 v3 l3 k3 m3 => ?_⟩⟩⟩⟩
          have heq : nv32 e2 = nv32 a := by rw [v2, v1, vq, vr, Nat.mul_comm]; exact Nat.div_add_mod _ _
          have hRb : nv32 r < nv32 b := by rw [vr]; exact Nat.mod_lt _ (by omega)
          refine ⟨⟨by omega, by omega⟩, fun hz => absurd hz hb0, fun _ hl e4 d4 v4 l4 k4 m4 => ⟨⟨by omega, by omega⟩, fun _ => ⟨⟨by omega, by omega⟩, fun _ => ?_, fun hn => absurd (sgn_neg.2 hRb) hn⟩, fun hn => absurd heq hn⟩, fun _ hg q5 r5 dq5 dr5 vq5 vr5 lq5 lr5 k5 m5 k6 m6 => ⟨⟨by omega, by omega⟩, fun _ => ⟨⟨by omega, by omega⟩, fun _ => ⟨⟨by omega, by omega⟩, fun _ => ?_, fun hn => absurd ?_ hn⟩, fun hn => absurd (sgn_neg.2 hRb) hn⟩, fun hn => absurd heq hn⟩⟩
          · have hz : nv32 a = 0 := by
              rcases Nat.eq_zero_or_pos (nv32 a) with h9 | h9
              · exact h9
              · have : 1 * nv32 b ≤ nv32 a * nv32 b := Nat.mul_le_mul_right _ h9
                rw [v3] at hl; omega
            refine ⟨by omega, fun _ => ?_, fun hn => absurd (by rw [hz]; rfl) hn⟩
            rw [len0 d4 (by rw [v4, v3, hz, Nat.zero_mul])]; exact h
          · rw [len0 dr5 (by rw [vr5, v3, Nat.mul_mod_left])]; exact h
          · rw [vq5, v3, Nat.mul_div_cancel _ (by omega)]
  · exact h.elim
end Go.Proofs.Ytjleiifcigojoaa
