/- The document's shifts down, by the engine. -/
import Derived.Test.YtjleiifcigojoaaN4r
import Derived.Test.YtjleiifcigojoaaNs
namespace Go.Proofs.Ytjleiifcigojoaa
open Go Go.RowKit
set_option linter.unusedVariables false
set_option linter.unusedSimpArgs false

def cShrR : CT := fun cas K => match cas with
  | [.s (.c32 a), .v (.int n)] => (a.length ≤ 10000 ∧ intIn n) ∧ ∀ e, Can32 e → nv32 e = nv32 a / 2 ^ n.toNat → e.length ≤ 2 * a.length → (e = [] → K (.one (.s (.c32 e)))) ∧ K (.one (.al (.c32 e)))
  | _ => False
def n8 : CTab := fun F => match F with
  | 46 => .fn cTrim
  | 53 => .fn cDigit
  | 45 => .fn cDigits
  | 51 => .fn cWhole
  | 47 => .fn cCompare
  | 27 => .fn cCmp
  | 50 => .fn cTimes
  | 49 => .fn cLess
  | _ => .fn noCT
theorem n8_ok : CTok Try.prog n8 := by
  intro F
  unfold n8
  split
  · exact sTrim
  · exact sDigit
  · exact sDigits
  · exact sWhole
  · exact sCompare
  · exact sCmpR
  · exact sTimes
  · exact sLess
  · exact sound_none _ _
set_option maxRecDepth 100000 in
set_option maxHeartbeats 1000000 in
theorem sShrR : Sound Try.prog 18 cShrR := by
  refine sound_vc (tt := tt) (ct := n8) ttok n8_ok mixed Try.func18 rfl (by decide) (rs := [.tmp 4]) rfl (ts := [23]) (k := 0) ?_
  intro cas K h
  unfold cShrR at h
  split at h
  · rename_i a n
    rw [Try.ntmps18]
    refine ⟨by simp, ?_⟩
    obtain ⟨⟨ha, hn⟩, h⟩ := h
    simp (maxSteps := 10000000) (implicitDefEqProofs := false) only [↓both_true, ↓both_false, ↓entryVC, ↓vc_skip, ↓vc_draw, ↓vc_list, ↓vc_seq, ↓vc_seqn, ↓vc_seqe, ↓vc_seqr, ↓vc_cond, ↓condVC, ↓vc_block, ↓vc_blockn, ↓vc_blockr, ↓vc_blocke, ↓vc_loop, ↓vc_exit, ↓vc_ret, ↓vc_loopn, ↓vc_loope, ↓vc_loopr, ↓vcl_nil, ↓vcl_cons, ↓lw_eq, ↓listVC, ↓memK, ↓memR, ↓envOf, ↓guardVC, ↓opVC, ↓pureVC, ↓binT, ↓wrapT, ↓TDsc.isW, ↓binW, ↓binVC, ↓bin8, ↓bin32, ↓bin64, ↓binInt, ↓shVC, ↓unVC, ↓cvVC, ↓rdVC, ↓loadVC, ↓pickC, ↓fillVC, ↓bndVC, ↓sliceVC, ↓bltVC, ↓storeVC, ↓appVC, ↓apzVC, ↓markVC, ↓copyVC, ↓callVC, ↓argsVC, ↓argVC, ↓bindR, ↓bindR1, ↓bindRs, ↓retW_eq, ↓extW_eq, ↓rowW_eq, ↓aggW_eq, ↓plv_nil, ↓plv_tk, ↓plv_fz, ↓plv_ld, ↓pt_eq, ↓pz_eq, ↓pl_eq, ↓delAll, ↓keepM_nil, ↓keepM, ↓extE, ↓extM, ↓leS, ↓leA, ↓retVC, ↓retR, ↓resVC, ↓resV1, ↓ressVC, ↓strU, ↓xAdd64, ↓xSub64, ↓vc_jn, ↓vc_je, ↓vc_jr, ↓pickA, ↓stU_env, ↓stU_mem, both_true, both_false, both_dec, both_ndec, ev, absC, getA, setA, delA, tt, AV.good, AV.plain, AV.isSl, AV.cells, AV.one, Cells.len, Cells.get, Cells.sub, Cells.part, Cells.agg, Cells.upd, Cells.set, Cells.cat, Cells.rep, Cells.ones, TDsc.agg, zOf, putE, dstB, letGo, quietOp, slotOp, pickA, true_or, or_true, List.append_eq, Int.cast_ofNat_Int, List.any_cons, List.any_nil, beq_iff_eq, Bool.decide_eq_true, Option.getD_some, Option.getD_none, Option.map_some, Option.map_none, Option.bind_some, Option.isSome_some, Option.isNone_some, Option.isNone_none, Option.isSome_none, ↓reduceIte, Nat.reduceEqDiff, Nat.reduceLT, Nat.reduceLeDiff, Nat.reduceAdd, Nat.reduceSub, Nat.reduceMul, Nat.reduceBEq, Int.reduceLE, Int.reduceLT, Int.reduceToNat, Int.reduceNeg, BitVec.reduceToNat, decide_true, decide_false, and_true, true_and, and_self, Bool.or_true, Bool.true_or, Bool.or_false, Bool.false_or, Bool.not_true, Bool.not_false, List.map_cons, List.map_nil, List.length_cons, List.length_nil, List.getElem?_toArray, List.getElem?_cons_zero, List.getElem?_cons_succ, List.getElem?_nil, forall_const, true_implies, reduceCtorEq, false_and, and_false, false_implies, implies_true, Bool.false_eq_true, Bool.true_eq_false, ne_eq, not_true, not_false_iff, Nat.sub_zero, Nat.zero_add, Nat.add_zero, List.drop_zero, List.drop_succ_cons, List.drop_nil, List.take_zero, List.take_succ_cons, List.take_nil, List.set_cons_zero, List.set_cons_succ, List.nil_append, List.cons_append, List.append_nil, List.replicate_zero, List.replicate_succ, BitVec.ofNat_eq_ofNat, Option.some.injEq, AV.int.injEq, AV.u64.injEq, AV.u32.injEq, AV.u8.injEq, AV.bool.injEq, AV.a64.injEq, AV.a32.injEq, AV.a8.injEq, Nat.zero_le, Int.toNat_natCast, n8, cTrim, cDigit, cDigits, cWhole, cCompare, cCmp, cTimes, cLess, ha]
    intro A ca hca d hd hdv hdl A2 c2 hc2
    refine ⟨fun hneg => ?_, fun hpos => ?_⟩
    · have hz : n.toNat = 0 := by omega
      rw [hz] at h
      refine ⟨by simp only [intIn]; omega, fun hle => ?_, fun hgt => ?_⟩
      · have h0 := h [] trivial (by
          have e3 : d = [] := List.eq_nil_of_length_eq_zero (by omega)
          rw [← hdv, e3]; rfl) (Nat.zero_le _)
        exact h0.1 rfl
      · have e1 : (((0 : Int)) / 16).toNat = 0 / 16 := by omega
        rw [e1]
        repeat (refine And.intro (by first | omega | (simp only [intIn]; omega) | decide) ?_)
        intro A3 c3 g
        obtain ⟨t, ht⟩ : ∃ t, d.drop (0 / 16) = t := ⟨_, rfl⟩
        have htl : d.length - 0 / 16 = t.length := by rw [← ht, List.length_drop]
        have htd : D16 t := by rw [← ht]; exact hd.dig.drop _
        have hsh := shr_drop hd.dig 0
        rw [ht] at hsh ⊢
        rw [htl, List.take_length]
        have hr : 0 % 16 < 16 := Nat.mod_lt _ (by decide)
        refine loopU _ _ _ [1, 5] [3] 5 (ι := {s : Nat × List U64 × Value // s.1 ≤ t.length ∧ s.2.1.length = s.1 ∧ D16 s.2.1 ∧ nv16 s.2.1 = nv16 t / 2 ^ (0 % 16) % 65536 ^ s.1}) (fun s => [(7, .int (s.1.1 : Int)), (6, .grow 4 s.1.2.2 s.1.2.1.length)]) (fun s => [(4, .row s.1.2.2 34 (.c64 s.1.2.1))]) (fun s => t.length - s.1.1) ?_ ?_
        · refine LeJ.slc 6 4 rfl rfl (by decide) fun v0 => ?_
          refine LeJ.mk ⟨(0, [], v0), Nat.zero_le _, rfl, D16.nil, by simp [nv16, Nat.mod_one]⟩ trivial ?_
          simp (maxSteps := 1000000) only [leS, leA, stU_env, stU_mem, pickA, getA, delA, setA, Cells.part, Cells.len, List.take_nil, List.drop_nil, List.length_nil, Nat.zero_add, ↓reduceIte, Nat.reduceEqDiff, Option.some.injEq, List.nil_append, List.cons_append, true_and, and_true, and_self, reduceCtorEq, AV.int.injEq, ME.own.injEq, ME.row.injEq, Cells.c32.injEq, Cells.c64.injEq, Cells.c8.injEq, AV.ptr.injEq, AV.ros.injEq, AV.grow.injEq, AV.u64.injEq, AV.u32.injEq]
          first | done | exact ⟨rfl, rfl⟩ | rfl
        · rintro ⟨⟨i, o, v1⟩, hi, hl, ho, hv⟩
          dsimp only at hi hl ho hv
          simp (maxSteps := 10000000) (implicitDefEqProofs := false) only [↓both_true, ↓both_false, ↓entryVC, ↓vc_skip, ↓vc_draw, ↓vc_list, ↓vc_seq, ↓vc_seqn, ↓vc_seqe, ↓vc_seqr, ↓vc_cond, ↓condVC, ↓vc_block, ↓vc_blockn, ↓vc_blockr, ↓vc_blocke, ↓vc_loop, ↓vc_exit, ↓vc_ret, ↓vc_loopn, ↓vc_loope, ↓vc_loopr, ↓vcl_nil, ↓vcl_cons, ↓lw_eq, ↓listVC, ↓memK, ↓memR, ↓envOf, ↓guardVC, ↓opVC, ↓pureVC, ↓binT, ↓wrapT, ↓TDsc.isW, ↓binW, ↓binVC, ↓bin8, ↓bin32, ↓bin64, ↓binInt, ↓shVC, ↓unVC, ↓cvVC, ↓rdVC, ↓loadVC, ↓pickC, ↓fillVC, ↓bndVC, ↓sliceVC, ↓bltVC, ↓storeVC, ↓appVC, ↓apzVC, ↓markVC, ↓copyVC, ↓callVC, ↓argsVC, ↓argVC, ↓bindR, ↓bindR1, ↓bindRs, ↓retW_eq, ↓extW_eq, ↓rowW_eq, ↓aggW_eq, ↓plv_nil, ↓plv_tk, ↓plv_fz, ↓plv_ld, ↓pt_eq, ↓pz_eq, ↓pl_eq, ↓delAll, ↓keepM_nil, ↓keepM, ↓extE, ↓extM, ↓leS, ↓leA, ↓retVC, ↓retR, ↓resVC, ↓resV1, ↓ressVC, ↓strU, ↓xAdd64, ↓xSub64, ↓vc_jn, ↓vc_je, ↓vc_jr, ↓pickA, ↓stU_env, ↓stU_mem, both_true, both_false, both_dec, both_ndec, ev, absC, getA, setA, delA, tt, AV.good, AV.plain, AV.isSl, AV.cells, AV.one, Cells.len, Cells.get, Cells.sub, Cells.part, Cells.agg, Cells.upd, Cells.set, Cells.cat, Cells.rep, Cells.ones, TDsc.agg, zOf, putE, dstB, letGo, quietOp, slotOp, pickA, true_or, or_true, List.append_eq, Int.cast_ofNat_Int, List.any_cons, List.any_nil, beq_iff_eq, Bool.decide_eq_true, Option.getD_some, Option.getD_none, Option.map_some, Option.map_none, Option.bind_some, Option.isSome_some, Option.isNone_some, Option.isNone_none, Option.isSome_none, ↓reduceIte, Nat.reduceEqDiff, Nat.reduceLT, Nat.reduceLeDiff, Nat.reduceAdd, Nat.reduceSub, Nat.reduceMul, Nat.reduceBEq, Int.reduceLE, Int.reduceLT, Int.reduceToNat, Int.reduceNeg, BitVec.reduceToNat, decide_true, decide_false, and_true, true_and, and_self, Bool.or_true, Bool.true_or, Bool.or_false, Bool.false_or, Bool.not_true, Bool.not_false, List.map_cons, List.map_nil, List.length_cons, List.length_nil, List.getElem?_toArray, List.getElem?_cons_zero, List.getElem?_cons_succ, List.getElem?_nil, forall_const, true_implies, reduceCtorEq, false_and, and_false, false_implies, implies_true, Bool.false_eq_true, Bool.true_eq_false, ne_eq, not_true, not_false_iff, Nat.sub_zero, Nat.zero_add, Nat.add_zero, List.drop_zero, List.drop_succ_cons, List.drop_nil, List.take_zero, List.take_succ_cons, List.take_nil, List.set_cons_zero, List.set_cons_succ, List.nil_append, List.cons_append, List.append_nil, List.replicate_zero, List.replicate_succ, BitVec.ofNat_eq_ofNat, Option.some.injEq, AV.int.injEq, AV.u64.injEq, AV.u32.injEq, AV.u8.injEq, AV.bool.injEq, AV.a64.injEq, AV.a32.injEq, AV.a8.injEq, Nat.zero_le, Int.toNat_natCast, n8, cTrim, cDigit, cDigits, cWhole, cCompare, cCmp, cTimes, cLess]
          repeat (refine And.intro (by first | omega | (simp only [intIn]; omega) | decide) ?_)
          refine ⟨fun hlt => ?_, fun hge => ?_⟩
          · have hlt : i < t.length := by omega
            have g1 := htd.get i
            have g2 := htd.get (i + 1)
            have e2 : (BitVec.ofInt 64 (((0 : Int)) % 16)).toNat = 0 % 16 := by
              rw [show ((0 : Int)) % 16 = (((0 % 16 : Nat)) : Int) by omega, BitVec.ofInt_natCast, BitVec.toNat_ofNat]; (try omega)
            have e3 : ((i : Int) + 1).toNat = i + 1 := by omega
            refine draw_ _ _ _ [(.fz, 0), (.fz, 1), (.fz, 4), (.fz, 5), (.fz, 6), (.tk, 2), (.tk, 3), (.ld, 7), (.fz, 8), (.fz, 9), (.fz, 10)] [] [3, 4] (by kernel_rfl) ?_
            simp (maxSteps := 10000000) (implicitDefEqProofs := false) only [↓both_true, ↓both_false, ↓entryVC, ↓vc_skip, ↓vc_draw, ↓vc_list, ↓vc_seq, ↓vc_seqn, ↓vc_seqe, ↓vc_seqr, ↓vc_cond, ↓condVC, ↓vc_block, ↓vc_blockn, ↓vc_blockr, ↓vc_blocke, ↓vc_loop, ↓vc_exit, ↓vc_ret, ↓vc_loopn, ↓vc_loope, ↓vc_loopr, ↓vcl_nil, ↓vcl_cons, ↓lw_eq, ↓listVC, ↓memK, ↓memR, ↓envOf, ↓guardVC, ↓opVC, ↓pureVC, ↓binT, ↓wrapT, ↓TDsc.isW, ↓binW, ↓binVC, ↓bin8, ↓bin32, ↓bin64, ↓binInt, ↓shVC, ↓unVC, ↓cvVC, ↓rdVC, ↓loadVC, ↓pickC, ↓fillVC, ↓bndVC, ↓sliceVC, ↓bltVC, ↓storeVC, ↓appVC, ↓apzVC, ↓markVC, ↓copyVC, ↓callVC, ↓argsVC, ↓argVC, ↓bindR, ↓bindR1, ↓bindRs, ↓retW_eq, ↓extW_eq, ↓rowW_eq, ↓aggW_eq, ↓plv_nil, ↓plv_tk, ↓plv_fz, ↓plv_ld, ↓pt_eq, ↓pz_eq, ↓pl_eq, ↓delAll, ↓keepM_nil, ↓keepM, ↓extE, ↓extM, ↓leS, ↓leA, ↓retVC, ↓retR, ↓resVC, ↓resV1, ↓ressVC, ↓strU, ↓xAdd64, ↓xSub64, ↓vc_jn, ↓vc_je, ↓vc_jr, ↓pickA, ↓stU_env, ↓stU_mem, both_true, both_false, both_dec, both_ndec, ev, absC, getA, setA, delA, tt, AV.good, AV.plain, AV.isSl, AV.cells, AV.one, Cells.len, Cells.get, Cells.sub, Cells.part, Cells.agg, Cells.upd, Cells.set, Cells.cat, Cells.rep, Cells.ones, TDsc.agg, zOf, putE, dstB, letGo, quietOp, slotOp, pickA, true_or, or_true, List.append_eq, Int.cast_ofNat_Int, List.any_cons, List.any_nil, beq_iff_eq, Bool.decide_eq_true, Option.getD_some, Option.getD_none, Option.map_some, Option.map_none, Option.bind_some, Option.isSome_some, Option.isNone_some, Option.isNone_none, Option.isSome_none, ↓reduceIte, Nat.reduceEqDiff, Nat.reduceLT, Nat.reduceLeDiff, Nat.reduceAdd, Nat.reduceSub, Nat.reduceMul, Nat.reduceBEq, Int.reduceLE, Int.reduceLT, Int.reduceToNat, Int.reduceNeg, BitVec.reduceToNat, decide_true, decide_false, and_true, true_and, and_self, Bool.or_true, Bool.true_or, Bool.or_false, Bool.false_or, Bool.not_true, Bool.not_false, List.map_cons, List.map_nil, List.length_cons, List.length_nil, List.getElem?_toArray, List.getElem?_cons_zero, List.getElem?_cons_succ, List.getElem?_nil, forall_const, true_implies, reduceCtorEq, false_and, and_false, false_implies, implies_true, Bool.false_eq_true, Bool.true_eq_false, ne_eq, not_true, not_false_iff, Nat.sub_zero, Nat.zero_add, Nat.add_zero, List.drop_zero, List.drop_succ_cons, List.drop_nil, List.take_zero, List.take_succ_cons, List.take_nil, List.set_cons_zero, List.set_cons_succ, List.nil_append, List.cons_append, List.append_nil, List.replicate_zero, List.replicate_succ, BitVec.ofNat_eq_ofNat, Option.some.injEq, AV.int.injEq, AV.u64.injEq, AV.u32.injEq, AV.u8.injEq, AV.bool.injEq, AV.a64.injEq, AV.a32.injEq, AV.a8.injEq, Nat.zero_le, Int.toNat_natCast, n8, cTrim, cDigit, cDigits, cWhole, cCompare, cCmp, cTimes, cLess]
            repeat (refine And.intro (by first | omega | (simp only [intIn]; omega) | decide) ?_)
            rw [e2, e3]
            have hx : ((g64 t i + g64 t (i + 1) * 65536#64) / (1#64 <<< (0 % 16)) % 65536#64).toNat = ((g64 t i).toNat + (g64 t (i + 1)).toNat * 65536) / 2 ^ (0 % 16) % 65536 := by
              rw [mod16, BitVec.toNat_udiv, shl16 hr, BitVec.toNat_add, BitVec.toNat_mul]
              congr 2
              have e5 : (65536#64 : U64).toNat = 65536 := rfl
              rw [e5]; omega
            have hz0 : ¬ (1#64 <<< (0 % 16) : U64) = 0#64 := fun hq => by
              have hq2 := shl16 hr
              rw [hq] at hq2
              have p1 := Nat.two_pow_pos (0 % 16)
              have p2 : (0#64 : U64).toNat = 0 := rfl
              omega
            (try refine ⟨hz0, by decide, ?_⟩)
            intro g3
            repeat (refine And.intro (by first | omega | (simp only [intIn, List.length_append, List.length_replicate, List.length_cons, List.length_nil, List.length_take, List.length_drop, List.length_set]; omega) | decide) ?_)
            intro v2
            repeat (refine And.intro (by first | omega | (simp only [intIn]; omega) | decide) ?_)
            refine LeJ.mk ⟨(i + 1, o ++ [(g64 t i + g64 t (i + 1) * 65536#64) / (1#64 <<< (0 % 16)) % 65536#64], v2), by dsimp only; omega, by dsimp only; rw [List.length_append, List.length_cons, List.length_nil]; omega, ho.snoc _, shr_snoc htd hr hl hv hx⟩ (by dsimp only; omega) ?_
            simp (maxSteps := 1000000) only [leS, leA, stU_env, stU_mem, pickA, getA, delA, setA, Cells.part, Cells.len, List.take_nil, List.drop_nil, List.length_nil, Nat.zero_add, ↓reduceIte, Nat.reduceEqDiff, Option.some.injEq, List.nil_append, List.cons_append, true_and, and_true, and_self, reduceCtorEq, AV.int.injEq, ME.own.injEq, ME.row.injEq, Cells.c32.injEq, Cells.c64.injEq, Cells.c8.injEq, AV.ptr.injEq, AV.ros.injEq, AV.grow.injEq, AV.u64.injEq, AV.u32.injEq, List.length_append, List.length_cons]
            first | done | omega
          · obtain rfl : i = t.length := by omega
            rw [shr_all htd, hsh, hdv] at hv
            repeat (refine And.intro (by first | omega | (simp only [intIn, List.length_append, List.length_replicate, List.length_cons, List.length_nil, List.length_take, List.length_drop, List.length_set]; omega) | decide) ?_)
            refine ⟨⟨ho, by omega⟩, fun e he hev hel c4 hc4 => ?_⟩
            exact (h e he (by rw [hev, hv]; try rfl) (by omega)).2
    · obtain ⟨m, rfl⟩ : ∃ m : Nat, n = m := ⟨n.toNat, by omega⟩
      refine ⟨⟨by omega, hn⟩, fun hle => ?_, fun hgt => ?_⟩
      · have h0 := h [] trivial (by
          have e2 := shr_drop hd.dig m
          rw [List.drop_eq_nil_of_le (by omega), hdv] at e2
          rw [show ((m : Int)).toNat = m from rfl, ← e2]; simp [nv16, nv32]) (Nat.zero_le _)
        exact h0.1 rfl
      · have e1 : (((m : Int)) / 16).toNat = m / 16 := by omega
        rw [e1]
        repeat (refine And.intro (by first | omega | (simp only [intIn]; omega) | decide) ?_)
        intro A3 c3 g
        obtain ⟨t, ht⟩ : ∃ t, d.drop (m / 16) = t := ⟨_, rfl⟩
        have htl : d.length - m / 16 = t.length := by rw [← ht, List.length_drop]
        have htd : D16 t := by rw [← ht]; exact hd.dig.drop _
        have hsh := shr_drop hd.dig m
        rw [ht] at hsh ⊢
        rw [htl, List.take_length]
        have hr : m % 16 < 16 := Nat.mod_lt _ (by decide)
        refine loopU _ _ _ [1, 5] [3] 5 (ι := {s : Nat × List U64 × Value // s.1 ≤ t.length ∧ s.2.1.length = s.1 ∧ D16 s.2.1 ∧ nv16 s.2.1 = nv16 t / 2 ^ (m % 16) % 65536 ^ s.1}) (fun s => [(7, .int (s.1.1 : Int)), (6, .grow 4 s.1.2.2 s.1.2.1.length)]) (fun s => [(4, .row s.1.2.2 34 (.c64 s.1.2.1))]) (fun s => t.length - s.1.1) ?_ ?_
        · refine LeJ.slc 6 4 rfl rfl (by decide) fun v0 => ?_
          refine LeJ.mk ⟨(0, [], v0), Nat.zero_le _, rfl, D16.nil, by simp [nv16, Nat.mod_one]⟩ trivial ?_
          simp (maxSteps := 1000000) only [leS, leA, stU_env, stU_mem, pickA, getA, delA, setA, Cells.part, Cells.len, List.take_nil, List.drop_nil, List.length_nil, Nat.zero_add, ↓reduceIte, Nat.reduceEqDiff, Option.some.injEq, List.nil_append, List.cons_append, true_and, and_true, and_self, reduceCtorEq, AV.int.injEq, ME.own.injEq, ME.row.injEq, Cells.c32.injEq, Cells.c64.injEq, Cells.c8.injEq, AV.ptr.injEq, AV.ros.injEq, AV.grow.injEq, AV.u64.injEq, AV.u32.injEq]
          first | done | exact ⟨rfl, rfl⟩ | rfl
        · rintro ⟨⟨i, o, v1⟩, hi, hl, ho, hv⟩
          dsimp only at hi hl ho hv
          simp (maxSteps := 10000000) (implicitDefEqProofs := false) only [↓both_true, ↓both_false, ↓entryVC, ↓vc_skip, ↓vc_draw, ↓vc_list, ↓vc_seq, ↓vc_seqn, ↓vc_seqe, ↓vc_seqr, ↓vc_cond, ↓condVC, ↓vc_block, ↓vc_blockn, ↓vc_blockr, ↓vc_blocke, ↓vc_loop, ↓vc_exit, ↓vc_ret, ↓vc_loopn, ↓vc_loope, ↓vc_loopr, ↓vcl_nil, ↓vcl_cons, ↓lw_eq, ↓listVC, ↓memK, ↓memR, ↓envOf, ↓guardVC, ↓opVC, ↓pureVC, ↓binT, ↓wrapT, ↓TDsc.isW, ↓binW, ↓binVC, ↓bin8, ↓bin32, ↓bin64, ↓binInt, ↓shVC, ↓unVC, ↓cvVC, ↓rdVC, ↓loadVC, ↓pickC, ↓fillVC, ↓bndVC, ↓sliceVC, ↓bltVC, ↓storeVC, ↓appVC, ↓apzVC, ↓markVC, ↓copyVC, ↓callVC, ↓argsVC, ↓argVC, ↓bindR, ↓bindR1, ↓bindRs, ↓retW_eq, ↓extW_eq, ↓rowW_eq, ↓aggW_eq, ↓plv_nil, ↓plv_tk, ↓plv_fz, ↓plv_ld, ↓pt_eq, ↓pz_eq, ↓pl_eq, ↓delAll, ↓keepM_nil, ↓keepM, ↓extE, ↓extM, ↓leS, ↓leA, ↓retVC, ↓retR, ↓resVC, ↓resV1, ↓ressVC, ↓strU, ↓xAdd64, ↓xSub64, ↓vc_jn, ↓vc_je, ↓vc_jr, ↓pickA, ↓stU_env, ↓stU_mem, both_true, both_false, both_dec, both_ndec, ev, absC, getA, setA, delA, tt, AV.good, AV.plain, AV.isSl, AV.cells, AV.one, Cells.len, Cells.get, Cells.sub, Cells.part, Cells.agg, Cells.upd, Cells.set, Cells.cat, Cells.rep, Cells.ones, TDsc.agg, zOf, putE, dstB, letGo, quietOp, slotOp, pickA, true_or, or_true, List.append_eq, Int.cast_ofNat_Int, List.any_cons, List.any_nil, beq_iff_eq, Bool.decide_eq_true, Option.getD_some, Option.getD_none, Option.map_some, Option.map_none, Option.bind_some, Option.isSome_some, Option.isNone_some, Option.isNone_none, Option.isSome_none, ↓reduceIte, Nat.reduceEqDiff, Nat.reduceLT, Nat.reduceLeDiff, Nat.reduceAdd, Nat.reduceSub, Nat.reduceMul, Nat.reduceBEq, Int.reduceLE, Int.reduceLT, Int.reduceToNat, Int.reduceNeg, BitVec.reduceToNat, decide_true, decide_false, and_true, true_and, and_self, Bool.or_true, Bool.true_or, Bool.or_false, Bool.false_or, Bool.not_true, Bool.not_false, List.map_cons, List.map_nil, List.length_cons, List.length_nil, List.getElem?_toArray, List.getElem?_cons_zero, List.getElem?_cons_succ, List.getElem?_nil, forall_const, true_implies, reduceCtorEq, false_and, and_false, false_implies, implies_true, Bool.false_eq_true, Bool.true_eq_false, ne_eq, not_true, not_false_iff, Nat.sub_zero, Nat.zero_add, Nat.add_zero, List.drop_zero, List.drop_succ_cons, List.drop_nil, List.take_zero, List.take_succ_cons, List.take_nil, List.set_cons_zero, List.set_cons_succ, List.nil_append, List.cons_append, List.append_nil, List.replicate_zero, List.replicate_succ, BitVec.ofNat_eq_ofNat, Option.some.injEq, AV.int.injEq, AV.u64.injEq, AV.u32.injEq, AV.u8.injEq, AV.bool.injEq, AV.a64.injEq, AV.a32.injEq, AV.a8.injEq, Nat.zero_le, Int.toNat_natCast, n8, cTrim, cDigit, cDigits, cWhole, cCompare, cCmp, cTimes, cLess]
          repeat (refine And.intro (by first | omega | (simp only [intIn]; omega) | decide) ?_)
          refine ⟨fun hlt => ?_, fun hge => ?_⟩
          · have hlt : i < t.length := by omega
            have g1 := htd.get i
            have g2 := htd.get (i + 1)
            have e2 : (BitVec.ofInt 64 (((m : Int)) % 16)).toNat = m % 16 := by
              rw [show ((m : Int)) % 16 = (((m % 16 : Nat)) : Int) by omega, BitVec.ofInt_natCast, BitVec.toNat_ofNat]; (try omega)
            have e3 : ((i : Int) + 1).toNat = i + 1 := by omega
            refine draw_ _ _ _ [(.fz, 0), (.fz, 1), (.fz, 4), (.fz, 5), (.fz, 6), (.tk, 2), (.tk, 3), (.ld, 7), (.fz, 8), (.fz, 9), (.fz, 10)] [] [3, 4] (by kernel_rfl) ?_
            simp (maxSteps := 10000000) (implicitDefEqProofs := false) only [↓both_true, ↓both_false, ↓entryVC, ↓vc_skip, ↓vc_draw, ↓vc_list, ↓vc_seq, ↓vc_seqn, ↓vc_seqe, ↓vc_seqr, ↓vc_cond, ↓condVC, ↓vc_block, ↓vc_blockn, ↓vc_blockr, ↓vc_blocke, ↓vc_loop, ↓vc_exit, ↓vc_ret, ↓vc_loopn, ↓vc_loope, ↓vc_loopr, ↓vcl_nil, ↓vcl_cons, ↓lw_eq, ↓listVC, ↓memK, ↓memR, ↓envOf, ↓guardVC, ↓opVC, ↓pureVC, ↓binT, ↓wrapT, ↓TDsc.isW, ↓binW, ↓binVC, ↓bin8, ↓bin32, ↓bin64, ↓binInt, ↓shVC, ↓unVC, ↓cvVC, ↓rdVC, ↓loadVC, ↓pickC, ↓fillVC, ↓bndVC, ↓sliceVC, ↓bltVC, ↓storeVC, ↓appVC, ↓apzVC, ↓markVC, ↓copyVC, ↓callVC, ↓argsVC, ↓argVC, ↓bindR, ↓bindR1, ↓bindRs, ↓retW_eq, ↓extW_eq, ↓rowW_eq, ↓aggW_eq, ↓plv_nil, ↓plv_tk, ↓plv_fz, ↓plv_ld, ↓pt_eq, ↓pz_eq, ↓pl_eq, ↓delAll, ↓keepM_nil, ↓keepM, ↓extE, ↓extM, ↓leS, ↓leA, ↓retVC, ↓retR, ↓resVC, ↓resV1, ↓ressVC, ↓strU, ↓xAdd64, ↓xSub64, ↓vc_jn, ↓vc_je, ↓vc_jr, ↓pickA, ↓stU_env, ↓stU_mem, both_true, both_false, both_dec, both_ndec, ev, absC, getA, setA, delA, tt, AV.good, AV.plain, AV.isSl, AV.cells, AV.one, Cells.len, Cells.get, Cells.sub, Cells.part, Cells.agg, Cells.upd, Cells.set, Cells.cat, Cells.rep, Cells.ones, TDsc.agg, zOf, putE, dstB, letGo, quietOp, slotOp, pickA, true_or, or_true, List.append_eq, Int.cast_ofNat_Int, List.any_cons, List.any_nil, beq_iff_eq, Bool.decide_eq_true, Option.getD_some, Option.getD_none, Option.map_some, Option.map_none, Option.bind_some, Option.isSome_some, Option.isNone_some, Option.isNone_none, Option.isSome_none, ↓reduceIte, Nat.reduceEqDiff, Nat.reduceLT, Nat.reduceLeDiff, Nat.reduceAdd, Nat.reduceSub, Nat.reduceMul, Nat.reduceBEq, Int.reduceLE, Int.reduceLT, Int.reduceToNat, Int.reduceNeg, BitVec.reduceToNat, decide_true, decide_false, and_true, true_and, and_self, Bool.or_true, Bool.true_or, Bool.or_false, Bool.false_or, Bool.not_true, Bool.not_false, List.map_cons, List.map_nil, List.length_cons, List.length_nil, List.getElem?_toArray, List.getElem?_cons_zero, List.getElem?_cons_succ, List.getElem?_nil, forall_const, true_implies, reduceCtorEq, false_and, and_false, false_implies, implies_true, Bool.false_eq_true, Bool.true_eq_false, ne_eq, not_true, not_false_iff, Nat.sub_zero, Nat.zero_add, Nat.add_zero, List.drop_zero, List.drop_succ_cons, List.drop_nil, List.take_zero, List.take_succ_cons, List.take_nil, List.set_cons_zero, List.set_cons_succ, List.nil_append, List.cons_append, List.append_nil, List.replicate_zero, List.replicate_succ, BitVec.ofNat_eq_ofNat, Option.some.injEq, AV.int.injEq, AV.u64.injEq, AV.u32.injEq, AV.u8.injEq, AV.bool.injEq, AV.a64.injEq, AV.a32.injEq, AV.a8.injEq, Nat.zero_le, Int.toNat_natCast, n8, cTrim, cDigit, cDigits, cWhole, cCompare, cCmp, cTimes, cLess]
            repeat (refine And.intro (by first | omega | (simp only [intIn]; omega) | decide) ?_)
            rw [e2, e3]
            have hx : ((g64 t i + g64 t (i + 1) * 65536#64) / (1#64 <<< (m % 16)) % 65536#64).toNat = ((g64 t i).toNat + (g64 t (i + 1)).toNat * 65536) / 2 ^ (m % 16) % 65536 := by
              rw [mod16, BitVec.toNat_udiv, shl16 hr, BitVec.toNat_add, BitVec.toNat_mul]
              congr 2
              have e5 : (65536#64 : U64).toNat = 65536 := rfl
              rw [e5]; omega
            have hz0 : ¬ (1#64 <<< (m % 16) : U64) = 0#64 := fun hq => by
              have hq2 := shl16 hr
              rw [hq] at hq2
              have p1 := Nat.two_pow_pos (m % 16)
              have p2 : (0#64 : U64).toNat = 0 := rfl
              omega
            (try refine ⟨hz0, by decide, ?_⟩)
            intro g3
            repeat (refine And.intro (by first | omega | (simp only [intIn, List.length_append, List.length_replicate, List.length_cons, List.length_nil, List.length_take, List.length_drop, List.length_set]; omega) | decide) ?_)
            intro v2
            repeat (refine And.intro (by first | omega | (simp only [intIn]; omega) | decide) ?_)
            refine LeJ.mk ⟨(i + 1, o ++ [(g64 t i + g64 t (i + 1) * 65536#64) / (1#64 <<< (m % 16)) % 65536#64], v2), by dsimp only; omega, by dsimp only; rw [List.length_append, List.length_cons, List.length_nil]; omega, ho.snoc _, shr_snoc htd hr hl hv hx⟩ (by dsimp only; omega) ?_
            simp (maxSteps := 1000000) only [leS, leA, stU_env, stU_mem, pickA, getA, delA, setA, Cells.part, Cells.len, List.take_nil, List.drop_nil, List.length_nil, Nat.zero_add, ↓reduceIte, Nat.reduceEqDiff, Option.some.injEq, List.nil_append, List.cons_append, true_and, and_true, and_self, reduceCtorEq, AV.int.injEq, ME.own.injEq, ME.row.injEq, Cells.c32.injEq, Cells.c64.injEq, Cells.c8.injEq, AV.ptr.injEq, AV.ros.injEq, AV.grow.injEq, AV.u64.injEq, AV.u32.injEq, List.length_append, List.length_cons]
            first | done | omega
          · obtain rfl : i = t.length := by omega
            rw [shr_all htd, hsh, hdv] at hv
            repeat (refine And.intro (by first | omega | (simp only [intIn, List.length_append, List.length_replicate, List.length_cons, List.length_nil, List.length_take, List.length_drop, List.length_set]; omega) | decide) ?_)
            refine ⟨⟨ho, by omega⟩, fun e he hev hel c4 hc4 => ?_⟩
            exact (h e he (by rw [hev, hv]; try rfl) (by omega)).2
  · exact h.elim
end Go.Proofs.Ytjleiifcigojoaa
