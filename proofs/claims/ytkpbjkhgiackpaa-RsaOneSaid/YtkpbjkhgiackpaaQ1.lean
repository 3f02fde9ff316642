/- The program's numbers, by the engine: trim, words, small numbers, sums, products. -/
import Derived.Test.YtkpbjkhgiackpaaN4r
namespace Go.Proofs.Ytkpbjkhgiackpaa
open Go Go.RowKit
set_option linter.unusedVariables false
set_option linter.unusedSimpArgs false

def cTrimN : CT := fun cas K => match cas with
  | [.s (.c32 a)] => a.length ≤ 100000 ∧ ∀ e, Can32 e → nv32 e = nv32 a → e.length ≤ a.length → K (.one (.al (.c32 e)))
  | _ => False
def cWordN : CT := fun cas K => match cas with
  | [.s (.c32 a), .v (.int i)] => (a.length ≤ 100000 ∧ 0 ≤ i) ∧ K (.one (.v (.u32 (g32 a i.toNat))))
  | _ => False
def cAddN : CT := fun cas K => match cas with
  | [.s (.c32 a), .s (.c32 b)] => (a.length ≤ 20000 ∧ b.length ≤ 20000) ∧ ∀ e, Can32 e → nv32 e = nv32 a + nv32 b → e.length ≤ a.length + b.length + 1 → K (.one (.al (.c32 e)))
  | _ => False
def cMulN : CT := fun cas K => match cas with
  | [.s (.c32 a), .s (.c32 b)] => (a.length ≤ 20000 ∧ b.length ≤ 20000) ∧ ∀ e, Can32 e → nv32 e = nv32 a * nv32 b → e.length ≤ a.length + b.length → K (.one (.al (.c32 e)))
  | _ => False
def q0 : CTab := fun F => match F with
  | _ => .fn noCT
theorem q0_ok : CTok Try.prog q0 := by
  intro F
  unfold q0
  split
  · exact sound_none _ _
set_option maxRecDepth 100000 in
set_option maxHeartbeats 1000000 in
theorem sTrimN : Sound Try.prog 90 cTrimN := by
  refine sound_vc (tt := tt) (ct := q0) ttok q0_ok mixed Try.func90 rfl (by decide) (rs := [.tmp 2]) rfl (ts := [23]) (k := 0) ?_
  intro cas K h
  unfold cTrimN at h
  split at h
  · rename_i d
    rw [Try.ntmps90]
    refine ⟨by simp, ?_⟩
    obtain ⟨hm, h⟩ := h
    simp (maxSteps := 10000000) (implicitDefEqProofs := false) only [↓both_true, ↓both_false, ↓entryVC, ↓vc_skip, ↓vc_draw, ↓vc_list, ↓vc_seq, ↓vc_seqn, ↓vc_seqe, ↓vc_seqr, ↓vc_cond, ↓condVC, ↓vc_block, ↓vc_blockn, ↓vc_blockr, ↓vc_blocke, ↓vc_loop, ↓vc_exit, ↓vc_ret, ↓vc_loopn, ↓vc_loope, ↓vc_loopr, ↓vcl_nil, ↓vcl_cons, ↓lw_eq, ↓listVC, ↓memK, ↓memR, ↓envOf, ↓guardVC, ↓opVC, ↓pureVC, ↓binT, ↓wrapT, ↓TDsc.isW, ↓binW, ↓binVC, ↓bin8, ↓bin32, ↓bin64, ↓binInt, ↓shVC, ↓unVC, ↓cvVC, ↓rdVC, ↓loadVC, ↓pickC, ↓fillVC, ↓bndVC, ↓sliceVC, ↓bltVC, ↓storeVC, ↓appVC, ↓apzVC, ↓markVC, ↓copyVC, ↓callVC, ↓argsVC, ↓argVC, ↓bindR, ↓bindR1, ↓bindRs, ↓retW_eq, ↓extW_eq, ↓rowW_eq, ↓aggW_eq, ↓plv_nil, ↓plv_tk, ↓plv_fz, ↓plv_ld, ↓pt_eq, ↓pz_eq, ↓pl_eq, ↓delAll, ↓keepM_nil, ↓keepM, ↓extE, ↓extM, ↓leS, ↓leA, ↓retVC, ↓retR, ↓resVC, ↓resV1, ↓ressVC, ↓strU, ↓xAdd64, ↓xSub64, ↓vc_jn, ↓vc_je, ↓vc_jr, ↓pickA, ↓stU_env, ↓stU_mem, frz, both_true, both_false, both_dec, both_ndec, ev, absC, getA, setA, delA, tt, AV.good, AV.plain, AV.isSl, AV.cells, AV.one, Cells.len, Cells.get, Cells.sub, Cells.part, Cells.agg, Cells.upd, Cells.set, Cells.cat, Cells.rep, Cells.ones, TDsc.agg, zOf, putE, dstB, letGo, quietOp, slotOp, pickA, true_or, or_true, List.append_eq, Int.cast_ofNat_Int, List.any_cons, List.any_nil, beq_iff_eq, Bool.decide_eq_true, Option.getD_some, Option.getD_none, Option.map_some, Option.map_none, Option.bind_some, Option.isSome_some, Option.isNone_some, Option.isNone_none, Option.isSome_none, ↓reduceIte, Nat.reduceEqDiff, Nat.reduceLT, Nat.reduceLeDiff, Nat.reduceAdd, Nat.reduceSub, Nat.reduceMul, Nat.reduceBEq, Int.reduceLE, Int.reduceLT, Int.reduceToNat, Int.reduceNeg, BitVec.reduceToNat, decide_true, decide_false, and_true, true_and, and_self, Bool.or_true, Bool.true_or, Bool.or_false, Bool.false_or, Bool.not_true, Bool.not_false, List.map_cons, List.map_nil, List.length_cons, List.length_nil, List.getElem?_toArray, List.getElem?_cons_zero, List.getElem?_cons_succ, List.getElem?_nil, forall_const, true_implies, reduceCtorEq, false_and, and_false, false_implies, implies_true, Bool.false_eq_true, Bool.true_eq_false, ne_eq, not_true, not_false_iff, Nat.sub_zero, Nat.zero_add, Nat.add_zero, List.drop_zero, List.drop_succ_cons, List.drop_nil, List.take_zero, List.take_succ_cons, List.take_nil, List.set_cons_zero, List.set_cons_succ, List.nil_append, List.cons_append, List.append_nil, List.replicate_zero, List.replicate_succ, BitVec.ofNat_eq_ofNat, Option.some.injEq, AV.int.injEq, AV.u64.injEq, AV.u32.injEq, AV.u8.injEq, AV.bool.injEq, AV.a64.injEq, AV.a32.injEq, AV.a8.injEq, Nat.zero_le, Int.toNat_natCast, q0]
    intro A ca hca
    refine loopU _ _ _ [0] [0] 1 (ι := {n : Nat // n ≤ d.length ∧ ∀ j, n ≤ j → g32 d j = 0}) (fun s => [(3, .int (s.1 : Int))]) (fun _ => []) (fun s => s.1) ?_ ?_
    · refine LeJ.mk ⟨d.length, Nat.le_refl _, fun j hj => g32_over32 hj⟩ trivial ?_
      simp (maxSteps := 1000000) only [leS, leA, stU_env, stU_mem, pickA, getA, delA, setA, Cells.part, Cells.len, List.take_nil, List.drop_nil, List.length_nil, Nat.zero_add, ↓reduceIte, Nat.reduceEqDiff, Option.some.injEq, List.nil_append, List.cons_append, true_and, and_true, and_self, reduceCtorEq, AV.int.injEq, ME.own.injEq, ME.row.injEq, Cells.c32.injEq, Cells.c64.injEq, Cells.c8.injEq, AV.ptr.injEq, AV.ros.injEq, AV.grow.injEq, AV.u64.injEq, AV.u32.injEq]
      try rfl
    · rintro ⟨n, hn, hz⟩
      simp (maxSteps := 10000000) (implicitDefEqProofs := false) only [↓both_true, ↓both_false, ↓entryVC, ↓vc_skip, ↓vc_draw, ↓vc_list, ↓vc_seq, ↓vc_seqn, ↓vc_seqe, ↓vc_seqr, ↓vc_cond, ↓condVC, ↓vc_block, ↓vc_blockn, ↓vc_blockr, ↓vc_blocke, ↓vc_loop, ↓vc_exit, ↓vc_ret, ↓vc_loopn, ↓vc_loope, ↓vc_loopr, ↓vcl_nil, ↓vcl_cons, ↓lw_eq, ↓listVC, ↓memK, ↓memR, ↓envOf, ↓guardVC, ↓opVC, ↓pureVC, ↓binT, ↓wrapT, ↓TDsc.isW, ↓binW, ↓binVC, ↓bin8, ↓bin32, ↓bin64, ↓binInt, ↓shVC, ↓unVC, ↓cvVC, ↓rdVC, ↓loadVC, ↓pickC, ↓fillVC, ↓bndVC, ↓sliceVC, ↓bltVC, ↓storeVC, ↓appVC, ↓apzVC, ↓markVC, ↓copyVC, ↓callVC, ↓argsVC, ↓argVC, ↓bindR, ↓bindR1, ↓bindRs, ↓retW_eq, ↓extW_eq, ↓rowW_eq, ↓aggW_eq, ↓plv_nil, ↓plv_tk, ↓plv_fz, ↓plv_ld, ↓pt_eq, ↓pz_eq, ↓pl_eq, ↓delAll, ↓keepM_nil, ↓keepM, ↓extE, ↓extM, ↓leS, ↓leA, ↓retVC, ↓retR, ↓resVC, ↓resV1, ↓ressVC, ↓strU, ↓xAdd64, ↓xSub64, ↓vc_jn, ↓vc_je, ↓vc_jr, ↓pickA, ↓stU_env, ↓stU_mem, frz, both_true, both_false, both_dec, both_ndec, ev, absC, getA, setA, delA, tt, AV.good, AV.plain, AV.isSl, AV.cells, AV.one, Cells.len, Cells.get, Cells.sub, Cells.part, Cells.agg, Cells.upd, Cells.set, Cells.cat, Cells.rep, Cells.ones, TDsc.agg, zOf, putE, dstB, letGo, quietOp, slotOp, pickA, true_or, or_true, List.append_eq, Int.cast_ofNat_Int, List.any_cons, List.any_nil, beq_iff_eq, Bool.decide_eq_true, Option.getD_some, Option.getD_none, Option.map_some, Option.map_none, Option.bind_some, Option.isSome_some, Option.isNone_some, Option.isNone_none, Option.isSome_none, ↓reduceIte, Nat.reduceEqDiff, Nat.reduceLT, Nat.reduceLeDiff, Nat.reduceAdd, Nat.reduceSub, Nat.reduceMul, Nat.reduceBEq, Int.reduceLE, Int.reduceLT, Int.reduceToNat, Int.reduceNeg, BitVec.reduceToNat, decide_true, decide_false, and_true, true_and, and_self, Bool.or_true, Bool.true_or, Bool.or_false, Bool.false_or, Bool.not_true, Bool.not_false, List.map_cons, List.map_nil, List.length_cons, List.length_nil, List.getElem?_toArray, List.getElem?_cons_zero, List.getElem?_cons_succ, List.getElem?_nil, forall_const, true_implies, reduceCtorEq, false_and, and_false, false_implies, implies_true, Bool.false_eq_true, Bool.true_eq_false, ne_eq, not_true, not_false_iff, Nat.sub_zero, Nat.zero_add, Nat.add_zero, List.drop_zero, List.drop_succ_cons, List.drop_nil, List.take_zero, List.take_succ_cons, List.take_nil, List.set_cons_zero, List.set_cons_succ, List.nil_append, List.cons_append, List.append_nil, List.replicate_zero, List.replicate_succ, BitVec.ofNat_eq_ofNat, Option.some.injEq, AV.int.injEq, AV.u64.injEq, AV.u32.injEq, AV.u8.injEq, AV.bool.injEq, AV.a64.injEq, AV.a32.injEq, AV.a8.injEq, Nat.zero_le, Int.toNat_natCast, q0]
      have fin : ∀ (A1 : Option Addr) (c1 : Nat), (n = 0 ∨ g32 d (n - 1) ≠ 0) → K (.one (.al (.c32 (d.take n)))) := fun _ _ hc => h _ (can32_take d n hn hc) (nv32_trim d n hz hn) (by rw [List.length_take]; omega)
      refine ⟨fun hlt => ?_, fun hge => ?_⟩
      · have e1 : ((n : Int) - 1).toNat = n - 1 := by omega
        rw [e1]
        repeat (refine And.intro (by first | omega | (simp only [intIn]; omega) | decide) ?_)
        refine ⟨fun h0 => ?_, fun h0 => ?_⟩
        · repeat (refine And.intro (by first | omega | (simp only [intIn]; omega) | decide) ?_)
          refine LeJ.mk ⟨n - 1, by omega, fun j hj => ?_⟩ (by dsimp only; omega) ?_
          · rcases Nat.lt_or_ge j n with hj2 | hj2
            · rw [show j = n - 1 by omega]; exact h0
            · exact hz j hj2
          · simp (maxSteps := 1000000) only [leS, leA, stU_env, stU_mem, pickA, getA, delA, setA, Cells.part, Cells.len, List.take_nil, List.drop_nil, List.length_nil, Nat.zero_add, ↓reduceIte, Nat.reduceEqDiff, Option.some.injEq, List.nil_append, List.cons_append, true_and, and_true, and_self, reduceCtorEq, AV.int.injEq, ME.own.injEq, ME.row.injEq, Cells.c32.injEq, Cells.c64.injEq, Cells.c8.injEq, AV.ptr.injEq, AV.ros.injEq, AV.grow.injEq, AV.u64.injEq, AV.u32.injEq]
            omega
        · repeat (refine And.intro (by first | omega | (simp only [intIn, List.length_append, List.length_replicate, List.length_cons, List.length_nil, List.length_take, List.length_drop, List.length_set]; omega) | decide) ?_)
          exact fin none 0 (.inr h0)
      · repeat (refine And.intro (by first | omega | (simp only [intIn, List.length_append, List.length_replicate, List.length_cons, List.length_nil, List.length_take, List.length_drop, List.length_set]; omega) | decide) ?_)
        exact fin none 0 (.inl (by omega))
  · exact h.elim
set_option maxRecDepth 100000 in
set_option maxHeartbeats 1000000 in
theorem sWordN : Sound Try.prog 93 cWordN := by
  refine sound_vc (tt := tt) (ct := q0) ttok q0_ok mixed Try.func93 rfl (by decide) (rs := [.tmp 4]) rfl (ts := [34]) (k := 0) ?_
  intro cas K h
  unfold cWordN at h
  split at h
  · rename_i a i
    rw [Try.ntmps93]
    refine ⟨by simp, ?_⟩
    obtain ⟨⟨hm, hi⟩, h⟩ := h
    simp (maxSteps := 10000000) (implicitDefEqProofs := false) only [↓both_true, ↓both_false, ↓entryVC, ↓vc_skip, ↓vc_draw, ↓vc_list, ↓vc_seq, ↓vc_seqn, ↓vc_seqe, ↓vc_seqr, ↓vc_cond, ↓condVC, ↓vc_block, ↓vc_blockn, ↓vc_blockr, ↓vc_blocke, ↓vc_loop, ↓vc_exit, ↓vc_ret, ↓vc_loopn, ↓vc_loope, ↓vc_loopr, ↓vcl_nil, ↓vcl_cons, ↓lw_eq, ↓listVC, ↓memK, ↓memR, ↓envOf, ↓guardVC, ↓opVC, ↓pureVC, ↓binT, ↓wrapT, ↓TDsc.isW, ↓binW, ↓binVC, ↓bin8, ↓bin32, ↓bin64, ↓binInt, ↓shVC, ↓unVC, ↓cvVC, ↓rdVC, ↓loadVC, ↓pickC, ↓fillVC, ↓bndVC, ↓sliceVC, ↓bltVC, ↓storeVC, ↓appVC, ↓apzVC, ↓markVC, ↓copyVC, ↓callVC, ↓argsVC, ↓argVC, ↓bindR, ↓bindR1, ↓bindRs, ↓retW_eq, ↓extW_eq, ↓rowW_eq, ↓aggW_eq, ↓plv_nil, ↓plv_tk, ↓plv_fz, ↓plv_ld, ↓pt_eq, ↓pz_eq, ↓pl_eq, ↓delAll, ↓keepM_nil, ↓keepM, ↓extE, ↓extM, ↓leS, ↓leA, ↓retVC, ↓retR, ↓resVC, ↓resV1, ↓ressVC, ↓strU, ↓xAdd64, ↓xSub64, ↓vc_jn, ↓vc_je, ↓vc_jr, ↓pickA, ↓stU_env, ↓stU_mem, frz, both_true, both_false, both_dec, both_ndec, ev, absC, getA, setA, delA, tt, AV.good, AV.plain, AV.isSl, AV.cells, AV.one, Cells.len, Cells.get, Cells.sub, Cells.part, Cells.agg, Cells.upd, Cells.set, Cells.cat, Cells.rep, Cells.ones, TDsc.agg, zOf, putE, dstB, letGo, quietOp, slotOp, pickA, true_or, or_true, List.append_eq, Int.cast_ofNat_Int, List.any_cons, List.any_nil, beq_iff_eq, Bool.decide_eq_true, Option.getD_some, Option.getD_none, Option.map_some, Option.map_none, Option.bind_some, Option.isSome_some, Option.isNone_some, Option.isNone_none, Option.isSome_none, ↓reduceIte, Nat.reduceEqDiff, Nat.reduceLT, Nat.reduceLeDiff, Nat.reduceAdd, Nat.reduceSub, Nat.reduceMul, Nat.reduceBEq, Int.reduceLE, Int.reduceLT, Int.reduceToNat, Int.reduceNeg, BitVec.reduceToNat, decide_true, decide_false, and_true, true_and, and_self, Bool.or_true, Bool.true_or, Bool.or_false, Bool.false_or, Bool.not_true, Bool.not_false, List.map_cons, List.map_nil, List.length_cons, List.length_nil, List.getElem?_toArray, List.getElem?_cons_zero, List.getElem?_cons_succ, List.getElem?_nil, forall_const, true_implies, reduceCtorEq, false_and, and_false, false_implies, implies_true, Bool.false_eq_true, Bool.true_eq_false, ne_eq, not_true, not_false_iff, Nat.sub_zero, Nat.zero_add, Nat.add_zero, List.drop_zero, List.drop_succ_cons, List.drop_nil, List.take_zero, List.take_succ_cons, List.take_nil, List.set_cons_zero, List.set_cons_succ, List.nil_append, List.cons_append, List.append_nil, List.replicate_zero, List.replicate_succ, BitVec.ofNat_eq_ofNat, Option.some.injEq, AV.int.injEq, AV.u64.injEq, AV.u32.injEq, AV.u8.injEq, AV.bool.injEq, AV.a64.injEq, AV.a32.injEq, AV.a8.injEq, Nat.zero_le, Int.toNat_natCast, q0]
    intro ca hca
    refine ⟨fun hlt => ?_, fun hge => ?_⟩
    · repeat (refine And.intro (by first | omega | (simp only [intIn]; omega) | decide) ?_)
      exact h
    · rw [g32_over32 (by omega)] at h
      exact h
  · exact h.elim
def q1 : CTab := fun F => match F with
  | 90 => .fn cTrimN
  | 93 => .fn cWordN
  | _ => .fn noCT
theorem q1_ok : CTok Try.prog q1 := by
  intro F
  unfold q1
  split
  · exact sTrimN
  · exact sWordN
  · exact sound_none _ _

theorem lo_hi (n : U64) : nv32 [n.setWidth 32, (n >>> 32).setWidth 32] = n.toNat := by
  have := n.isLt
  simp only [nv32, BitVec.toNat_setWidth, BitVec.toNat_ushiftRight, Nat.shiftRight_eq_div_pow]
  omega
theorem add_v {x y : U32} {c : U64} (hc : c.toNat ≤ 1) : (c + (x.setWidth 64 + y.setWidth 64)).toNat = c.toNat + x.toNat + y.toNat := by
  have h1 := x.isLt
  have h2 := y.isLt
  simp only [BitVec.toNat_add, BitVec.toNat_setWidth]
  omega
theorem lo32n (v : U64) : (v.setWidth 32).toNat = v.toNat % 4294967296 := by simp only [BitVec.toNat_setWidth]
theorem hi32n (v : U64) : (v >>> 32).toNat = v.toNat / 4294967296 := by simp only [BitVec.toNat_ushiftRight, Nat.shiftRight_eq_div_pow]
def AddI (a b : List U32) (n : Nat) (s : Nat × List U32 × U64) : Prop := s.1 ≤ n ∧ s.2.1.length = n ∧ s.2.2.toNat ≤ 1 ∧ (∀ j, s.1 ≤ j → g32 s.2.1 j = 0) ∧ nv32 s.2.1 + 4294967296 ^ s.1 * s.2.2.toNat = nv32 (a.take s.1) + nv32 (b.take s.1)
theorem zeros32 (n j : Nat) : g32 (List.replicate n 0) j = 0 := by
  by_cases h : j < n <;> simp [g32, List.getD_eq_getElem?_getD, List.getElem?_replicate, h]
theorem addi_start (a b : List U32) (n : Nat) : AddI a b n (0, List.replicate n 0, 0) := by
  refine ⟨Nat.zero_le _, by simp, by dsimp only; decide, fun j _ => zeros32 n j, ?_⟩
  dsimp only; rw [nv32_zeros]; simp [nv32]
theorem addi_step {a b p : List U32} {c : U64} {k n : Nat} (hk : k < n) (h : AddI a b n (k, p, c)) : AddI a b n (k + 1, p.set k ((c + ((g32 a k).setWidth 64 + (g32 b k).setWidth 64)).setWidth 32), (c + ((g32 a k).setWidth 64 + (g32 b k).setWidth 64)) >>> 32) := by
  obtain ⟨h1, h2, hc, h3, h4⟩ := h
  dsimp only at h1 h2 hc h3 h4
  have hv := add_v (x := g32 a k) (y := g32 b k) hc
  have hs := nv32_set p k ((c + ((g32 a k).setWidth 64 + (g32 b k).setWidth 64)).setWidth 32) (by omega)
  have l1 := lo32n (c + ((g32 a k).setWidth 64 + (g32 b k).setWidth 64))
  have l2 := hi32n (c + ((g32 a k).setWidth 64 + (g32 b k).setWidth 64))
  have x1 := (g32 a k).isLt
  have x2 := (g32 b k).isLt
  refine ⟨by dsimp only; omega, by simp [h2], by dsimp only; omega, fun j hj => ?_, ?_⟩
  · dsimp only at hj ⊢
    rw [g32_set_ne32 (by omega)]; exact h3 j (by omega)
  · dsimp only
    rw [h3 k (Nat.le_refl _)] at hs
    have z0 : (0 : U32).toNat = 0 := rfl
    rw [z0, Nat.mul_zero, Nat.add_zero] at hs
    rw [nv32_take_succ, nv32_take_succ, Nat.pow_succ, hs, l1, l2, hv]
    generalize 4294967296 ^ k = D at *
    generalize c.toNat = cc at *
    generalize (g32 a k).toNat = xx at *
    generalize (g32 b k).toNat = yy at *
    have e : D * ((cc + xx + yy) % 4294967296) + D * 4294967296 * ((cc + xx + yy) / 4294967296) = D * cc + D * xx + D * yy := by
      rw [Nat.mul_assoc, ← Nat.mul_add, ← Nat.mul_add, ← Nat.mul_add, Nat.mod_add_div]
    omega
theorem addi_end {a b p : List U32} {c : U64} {m : Nat} (ha : a.length ≤ m) (hb : b.length ≤ m) (h : AddI a b (m + 1) (m + 1, p, c)) : nv32 p = nv32 a + nv32 b := by
  obtain ⟨h1, h2, hc, h3, h4⟩ := h
  dsimp only at h1 h2 hc h3 h4
  rw [List.take_of_length_le (l := a) (by omega), List.take_of_length_le (l := b) (by omega)] at h4
  have la : nv32 a < 4294967296 ^ m := Nat.lt_of_lt_of_le (nv32_lt a) (Nat.pow_le_pow_right (by decide) ha)
  have lb : nv32 b < 4294967296 ^ m := Nat.lt_of_lt_of_le (nv32_lt b) (Nat.pow_le_pow_right (by decide) hb)
  have e : (4294967296 : Nat) ^ (m + 1) = 4294967296 ^ m * 4294967296 := Nat.pow_succ ..
  rw [e] at h4
  clear e h3 h1 h2
  revert la lb h4
  generalize (4294967296 : Nat) ^ m = D
  intro h4 la lb
  rcases (by omega : c.toNat = 0 ∨ c.toNat = 1) with h0 | h0
  · rw [h0, Nat.mul_zero] at h4; exact h4
  · rw [h0, Nat.mul_one] at h4; omega
theorem mul_v {x y g : U32} {c : U64} (hc : c.toNat < 4294967296) : (c + (x.setWidth 64 * y.setWidth 64 + g.setWidth 64)).toNat = c.toNat + (x.toNat * y.toNat + g.toNat) ∧ x.toNat * y.toNat ≤ 4294967295 * 4294967295 := by
  have h1 := x.isLt
  have h2 := y.isLt
  have h3 := g.isLt
  have hb : x.toNat * y.toNat ≤ 4294967295 * 4294967295 := Nat.mul_le_mul (by omega) (by omega)
  refine ⟨?_, hb⟩
  simp only [BitVec.toNat_add, BitVec.toNat_mul, BitVec.toNat_setWidth]
  rw [Nat.mod_eq_of_lt (a := x.toNat) (by omega), Nat.mod_eq_of_lt (a := y.toNat) (by omega), Nat.mod_eq_of_lt (a := g.toNat) (by omega)]
  generalize x.toNat * y.toNat = E at *
  omega
def MRowN (P0 : Nat) (x : U32) (i n : Nat) (ys : List U32) (s : Nat × List U32 × U64) : Prop := s.1 ≤ ys.length ∧ s.2.1.length = n ∧ s.2.2.toNat < 4294967296 ∧ (∀ j, i + ys.length ≤ j → g32 s.2.1 j = 0) ∧ nv32 s.2.1 + 4294967296 ^ (i + s.1) * s.2.2.toNat = P0 + 4294967296 ^ i * (x.toNat * nv32 (ys.take s.1))
def MProdN (xs ys : List U32) (s : Nat × List U32) : Prop := s.1 ≤ xs.length ∧ s.2.length = xs.length + ys.length ∧ (∀ j, s.1 + ys.length ≤ j → g32 s.2 j = 0) ∧ nv32 s.2 = nv32 (xs.take s.1) * nv32 ys
theorem mrown_start {P0 i n : Nat} {x : U32} {ys q : List U32} (hl : q.length = n) (hz : ∀ j, i + ys.length ≤ j → g32 q j = 0) (hv : nv32 q = P0) : MRowN P0 x i n ys (0, q, 0) := by
  refine ⟨Nat.zero_le _, hl, by dsimp only; decide, hz, ?_⟩
  simp [nv32, hv]
theorem mrown_step {P0 : Nat} {x : U32} {c : U64} {i k n : Nat} {ys q : List U32} (hi : i + ys.length < n) (hk : k < ys.length) (h : MRowN P0 x i n ys (k, q, c)) :
    MRowN P0 x i n ys (k + 1, q.set (i + k) ((c + (x.setWidth 64 * (g32 ys k).setWidth 64 + (g32 q (i + k)).setWidth 64)).setWidth 32), (c + (x.setWidth 64 * (g32 ys k).setWidth 64 + (g32 q (i + k)).setWidth 64)) >>> 32) := by
  obtain ⟨h1, h2, hc, h3, h4⟩ := h
  dsimp only at h1 h2 hc h3 h4
  obtain ⟨hm, hb⟩ := mul_v (x := x) (y := g32 ys k) (g := g32 q (i + k)) hc
  have l1 := lo32n (c + (x.setWidth 64 * (g32 ys k).setWidth 64 + (g32 q (i + k)).setWidth 64))
  have l2 := hi32n (c + (x.setWidth 64 * (g32 ys k).setWidth 64 + (g32 q (i + k)).setWidth 64))
  have hs := nv32_set q (i + k) ((c + (x.setWidth 64 * (g32 ys k).setWidth 64 + (g32 q (i + k)).setWidth 64)).setWidth 32) (by omega)
  have hg := (g32 q (i + k)).isLt
  generalize (c + (x.setWidth 64 * (g32 ys k).setWidth 64 + (g32 q (i + k)).setWidth 64)) = V at *
  refine ⟨by dsimp only; omega, by simp [h2], by dsimp only; rw [l2, hm]; generalize x.toNat * (g32 ys k).toNat = E at *; omega, fun j hj => ?_, ?_⟩
  · dsimp only
    rw [g32_set_ne32 (by omega)]; exact h3 j hj
  · dsimp only
    have hsum : (V.setWidth 32).toNat + 4294967296 * (V >>> 32).toNat = x.toNat * (g32 ys k).toNat + (g32 q (i + k)).toNat + c.toNat := by
      rw [l1, l2, Nat.mod_add_div, hm]; omega
    generalize V.setWidth 32 = v at *
    generalize V >>> 32 = c' at *
    rw [nv32_take_succ ys k, ← Nat.add_assoc, Nat.pow_succ, Nat.mul_add x.toNat, Nat.mul_add (4294967296 ^ i), Nat.mul_assoc]
    have e4 : 4294967296 ^ i * (x.toNat * (4294967296 ^ k * (g32 ys k).toNat)) = 4294967296 ^ (i + k) * (x.toNat * (g32 ys k).toNat) := by
      rw [Nat.pow_add, Nat.mul_left_comm x.toNat, Nat.mul_assoc]
    rw [e4]
    generalize 4294967296 ^ (i + k) = D at *
    have e3 : D * (v.toNat + 4294967296 * c'.toNat) = D * (x.toNat * (g32 ys k).toNat + (g32 q (i + k)).toNat + c.toNat) := by rw [hsum]
    rw [Nat.mul_add, Nat.mul_add, Nat.mul_add] at e3
    omega
theorem mprodn_start (xs ys : List U32) : MProdN xs ys (0, List.replicate (xs.length + ys.length) 0) := by
  refine ⟨Nat.zero_le _, by simp, fun j _ => zeros32 _ j, ?_⟩
  dsimp only; rw [nv32_zeros]; simp [nv32]
theorem mprodn_step {xs ys p q : List U32} {c : U64} {i : Nat} (hi : i < xs.length) (hp : MProdN xs ys (i, p)) (h : MRowN (nv32 p) (g32 xs i) i (xs.length + ys.length) ys (ys.length, q, c)) : MProdN xs ys (i + 1, q.set (i + ys.length) (c.setWidth 32)) := by
  obtain ⟨-, -, -, hv⟩ := hp
  obtain ⟨h1, h2, hc, h3, h4⟩ := h
  dsimp only at hv h1 h2 hc h3 h4
  have hs := nv32_set q (i + ys.length) (c.setWidth 32) (by omega)
  rw [h3 (i + ys.length) (by omega), lo32n, Nat.mod_eq_of_lt hc] at hs
  rw [List.take_of_length_le (l := ys) (by omega)] at h4
  refine ⟨by dsimp only; omega, by simp [h2], fun j hj => ?_, ?_⟩
  · dsimp only at hj ⊢
    rw [g32_set_ne32 (by omega)]; exact h3 j (by omega)
  · dsimp only
    rw [nv32_take_succ xs i, Nat.add_mul, ← hv, Nat.mul_assoc]
    simp only [show ((0 : U32).toNat) = 0 from rfl, Nat.mul_zero, Nat.add_zero] at hs
    omega
set_option maxRecDepth 100000 in
set_option maxHeartbeats 1000000 in
theorem sFromN : Sound Try.prog 68 cFromR := by
  refine sound_vc (tt := tt) (ct := q1) ttok q1_ok mixed Try.func68 rfl (by decide) (rs := [.tmp 2]) rfl (ts := [23]) (k := 0) ?_
  intro cas K h
  unfold cFromR at h
  split at h
  · rename_i n
    rw [Try.ntmps68]
    refine ⟨by simp, ?_⟩
    simp (maxSteps := 10000000) (implicitDefEqProofs := false) only [↓both_true, ↓both_false, ↓entryVC, ↓vc_skip, ↓vc_draw, ↓vc_list, ↓vc_seq, ↓vc_seqn, ↓vc_seqe, ↓vc_seqr, ↓vc_cond, ↓condVC, ↓vc_block, ↓vc_blockn, ↓vc_blockr, ↓vc_blocke, ↓vc_loop, ↓vc_exit, ↓vc_ret, ↓vc_loopn, ↓vc_loope, ↓vc_loopr, ↓vcl_nil, ↓vcl_cons, ↓lw_eq, ↓listVC, ↓memK, ↓memR, ↓envOf, ↓guardVC, ↓opVC, ↓pureVC, ↓binT, ↓wrapT, ↓TDsc.isW, ↓binW, ↓binVC, ↓bin8, ↓bin32, ↓bin64, ↓binInt, ↓shVC, ↓unVC, ↓cvVC, ↓rdVC, ↓loadVC, ↓pickC, ↓fillVC, ↓bndVC, ↓sliceVC, ↓bltVC, ↓storeVC, ↓appVC, ↓apzVC, ↓markVC, ↓copyVC, ↓callVC, ↓argsVC, ↓argVC, ↓bindR, ↓bindR1, ↓bindRs, ↓retW_eq, ↓extW_eq, ↓rowW_eq, ↓aggW_eq, ↓plv_nil, ↓plv_tk, ↓plv_fz, ↓plv_ld, ↓pt_eq, ↓pz_eq, ↓pl_eq, ↓delAll, ↓keepM_nil, ↓keepM, ↓extE, ↓extM, ↓leS, ↓leA, ↓retVC, ↓retR, ↓resVC, ↓resV1, ↓ressVC, ↓strU, ↓xAdd64, ↓xSub64, ↓vc_jn, ↓vc_je, ↓vc_jr, ↓pickA, ↓stU_env, ↓stU_mem, frz, both_true, both_false, both_dec, both_ndec, ev, absC, getA, setA, delA, tt, AV.good, AV.plain, AV.isSl, AV.cells, AV.one, Cells.len, Cells.get, Cells.sub, Cells.part, Cells.agg, Cells.upd, Cells.set, Cells.cat, Cells.rep, Cells.ones, TDsc.agg, zOf, putE, dstB, letGo, quietOp, slotOp, pickA, true_or, or_true, List.append_eq, Int.cast_ofNat_Int, List.any_cons, List.any_nil, beq_iff_eq, Bool.decide_eq_true, Option.getD_some, Option.getD_none, Option.map_some, Option.map_none, Option.bind_some, Option.isSome_some, Option.isNone_some, Option.isNone_none, Option.isSome_none, ↓reduceIte, Nat.reduceEqDiff, Nat.reduceLT, Nat.reduceLeDiff, Nat.reduceAdd, Nat.reduceSub, Nat.reduceMul, Nat.reduceBEq, Int.reduceLE, Int.reduceLT, Int.reduceToNat, Int.reduceNeg, BitVec.reduceToNat, decide_true, decide_false, and_true, true_and, and_self, Bool.or_true, Bool.true_or, Bool.or_false, Bool.false_or, Bool.not_true, Bool.not_false, List.map_cons, List.map_nil, List.length_cons, List.length_nil, List.getElem?_toArray, List.getElem?_cons_zero, List.getElem?_cons_succ, List.getElem?_nil, forall_const, true_implies, reduceCtorEq, false_and, and_false, false_implies, implies_true, Bool.false_eq_true, Bool.true_eq_false, ne_eq, not_true, not_false_iff, Nat.sub_zero, Nat.zero_add, Nat.add_zero, List.drop_zero, List.drop_succ_cons, List.drop_nil, List.take_zero, List.take_succ_cons, List.take_nil, List.set_cons_zero, List.set_cons_succ, List.nil_append, List.cons_append, List.append_nil, List.replicate_zero, List.replicate_succ, BitVec.ofNat_eq_ofNat, Option.some.injEq, AV.int.injEq, AV.u64.injEq, AV.u32.injEq, AV.u8.injEq, AV.bool.injEq, AV.a64.injEq, AV.a32.injEq, AV.a8.injEq, Nat.zero_le, Int.toNat_natCast, q1, cTrimN, cWordN]
    intro e he hev hel c1 hc1
    exact h e he (hev.trans (lo_hi n)) (by omega)
  · exact h.elim
set_option maxRecDepth 100000 in
set_option maxHeartbeats 1000000 in
theorem sAddN : Sound Try.prog 32 cAddN := by
  refine sound_vc (tt := tt) (ct := q1) ttok q1_ok mixed Try.func32 rfl (by decide) (rs := [.tmp 4]) rfl (ts := [23]) (k := 0) ?_
  intro cas K h
  unfold cAddN at h
  split at h
  · rename_i a b
    rw [Try.ntmps32]
    refine ⟨by simp, ?_⟩
    obtain ⟨⟨ha, hb⟩, h⟩ := h
    simp (maxSteps := 10000000) (implicitDefEqProofs := false) only [↓both_true, ↓both_false, ↓entryVC, ↓vc_skip, ↓vc_draw, ↓vc_list, ↓vc_seq, ↓vc_seqn, ↓vc_seqe, ↓vc_seqr, ↓vc_cond, ↓condVC, ↓vc_block, ↓vc_blockn, ↓vc_blockr, ↓vc_blocke, ↓vc_loop, ↓vc_exit, ↓vc_ret, ↓vc_loopn, ↓vc_loope, ↓vc_loopr, ↓vcl_nil, ↓vcl_cons, ↓lw_eq, ↓listVC, ↓memK, ↓memR, ↓envOf, ↓guardVC, ↓opVC, ↓pureVC, ↓binT, ↓wrapT, ↓TDsc.isW, ↓binW, ↓binVC, ↓bin8, ↓bin32, ↓bin64, ↓binInt, ↓shVC, ↓unVC, ↓cvVC, ↓rdVC, ↓loadVC, ↓pickC, ↓fillVC, ↓bndVC, ↓sliceVC, ↓bltVC, ↓storeVC, ↓appVC, ↓apzVC, ↓markVC, ↓copyVC, ↓callVC, ↓argsVC, ↓argVC, ↓bindR, ↓bindR1, ↓bindRs, ↓retW_eq, ↓extW_eq, ↓rowW_eq, ↓aggW_eq, ↓plv_nil, ↓plv_tk, ↓plv_fz, ↓plv_ld, ↓pt_eq, ↓pz_eq, ↓pl_eq, ↓delAll, ↓keepM_nil, ↓keepM, ↓extE, ↓extM, ↓leS, ↓leA, ↓retVC, ↓retR, ↓resVC, ↓resV1, ↓ressVC, ↓strU, ↓xAdd64, ↓xSub64, ↓vc_jn, ↓vc_je, ↓vc_jr, ↓pickA, ↓stU_env, ↓stU_mem, frz, both_true, both_false, both_dec, both_ndec, ev, absC, getA, setA, delA, tt, AV.good, AV.plain, AV.isSl, AV.cells, AV.one, Cells.len, Cells.get, Cells.sub, Cells.part, Cells.agg, Cells.upd, Cells.set, Cells.cat, Cells.rep, Cells.ones, TDsc.agg, zOf, putE, dstB, letGo, quietOp, slotOp, pickA, true_or, or_true, List.append_eq, Int.cast_ofNat_Int, List.any_cons, List.any_nil, beq_iff_eq, Bool.decide_eq_true, Option.getD_some, Option.getD_none, Option.map_some, Option.map_none, Option.bind_some, Option.isSome_some, Option.isNone_some, Option.isNone_none, Option.isSome_none, ↓reduceIte, Nat.reduceEqDiff, Nat.reduceLT, Nat.reduceLeDiff, Nat.reduceAdd, Nat.reduceSub, Nat.reduceMul, Nat.reduceBEq, Int.reduceLE, Int.reduceLT, Int.reduceToNat, Int.reduceNeg, BitVec.reduceToNat, decide_true, decide_false, and_true, true_and, and_self, Bool.or_true, Bool.true_or, Bool.or_false, Bool.false_or, Bool.not_true, Bool.not_false, List.map_cons, List.map_nil, List.length_cons, List.length_nil, List.getElem?_toArray, List.getElem?_cons_zero, List.getElem?_cons_succ, List.getElem?_nil, forall_const, true_implies, reduceCtorEq, false_and, and_false, false_implies, implies_true, Bool.false_eq_true, Bool.true_eq_false, ne_eq, not_true, not_false_iff, Nat.sub_zero, Nat.zero_add, Nat.add_zero, List.drop_zero, List.drop_succ_cons, List.drop_nil, List.take_zero, List.take_succ_cons, List.take_nil, List.set_cons_zero, List.set_cons_succ, List.nil_append, List.cons_append, List.append_nil, List.replicate_zero, List.replicate_succ, BitVec.ofNat_eq_ofNat, Option.some.injEq, AV.int.injEq, AV.u64.injEq, AV.u32.injEq, AV.u8.injEq, AV.bool.injEq, AV.a64.injEq, AV.a32.injEq, AV.a8.injEq, Nat.zero_le, Int.toNat_natCast, q1, cTrimN, cWordN]
    intro A ca hca B cb hcb
    obtain ⟨m, em, m1, m2, m3⟩ := maxI a.length b.length
    rw [em]
    repeat (refine And.intro (by first | omega | (simp only [intIn]; omega) | decide) ?_)
    intro g
    have e0 : ((m : Int) + 1).toNat = m + 1 := by omega
    rw [e0]
    refine loopU _ _ _ [0, 1, 5, 16] [0, 1] 3 (ι := {s : Nat × List U32 × U64 // AddI a b (m + 1) s}) (fun s => [(17, .int (s.1.1 : Int)), (6, .u64 s.1.2.2)]) (fun s => [(2, .own g 34 (.c32 s.1.2.1))]) (fun s => m + 1 - s.1.1) ?_ ?_
    · refine LeJ.mk ⟨(0, List.replicate (m + 1) 0, 0), addi_start a b (m + 1)⟩ trivial ?_
      simp (maxSteps := 1000000) only [leS, leA, stU_env, stU_mem, pickA, getA, delA, setA, Cells.part, Cells.len, List.take_nil, List.drop_nil, List.length_nil, Nat.zero_add, ↓reduceIte, Nat.reduceEqDiff, Option.some.injEq, List.nil_append, List.cons_append, true_and, and_true, and_self, reduceCtorEq, AV.int.injEq, ME.own.injEq, ME.row.injEq, Cells.c32.injEq, Cells.c64.injEq, Cells.c8.injEq, AV.ptr.injEq, AV.ros.injEq, AV.grow.injEq, AV.u64.injEq, AV.u32.injEq]
      first | done | rfl | exact ⟨rfl, rfl⟩ | exact ⟨⟨rfl, rfl⟩, rfl⟩ | exact ⟨rfl, rfl, rfl⟩
    · rintro ⟨⟨k, p, c⟩, hI⟩
      obtain ⟨hk, hl, hc, -⟩ := id hI
      dsimp only at hk hl hc
      simp (maxSteps := 10000000) (implicitDefEqProofs := false) only [↓both_true, ↓both_false, ↓entryVC, ↓vc_skip, ↓vc_draw, ↓vc_list, ↓vc_seq, ↓vc_seqn, ↓vc_seqe, ↓vc_seqr, ↓vc_cond, ↓condVC, ↓vc_block, ↓vc_blockn, ↓vc_blockr, ↓vc_blocke, ↓vc_loop, ↓vc_exit, ↓vc_ret, ↓vc_loopn, ↓vc_loope, ↓vc_loopr, ↓vcl_nil, ↓vcl_cons, ↓lw_eq, ↓listVC, ↓memK, ↓memR, ↓envOf, ↓guardVC, ↓opVC, ↓pureVC, ↓binT, ↓wrapT, ↓TDsc.isW, ↓binW, ↓binVC, ↓bin8, ↓bin32, ↓bin64, ↓binInt, ↓shVC, ↓unVC, ↓cvVC, ↓rdVC, ↓loadVC, ↓pickC, ↓fillVC, ↓bndVC, ↓sliceVC, ↓bltVC, ↓storeVC, ↓appVC, ↓apzVC, ↓markVC, ↓copyVC, ↓callVC, ↓argsVC, ↓argVC, ↓bindR, ↓bindR1, ↓bindRs, ↓retW_eq, ↓extW_eq, ↓rowW_eq, ↓aggW_eq, ↓plv_nil, ↓plv_tk, ↓plv_fz, ↓plv_ld, ↓pt_eq, ↓pz_eq, ↓pl_eq, ↓delAll, ↓keepM_nil, ↓keepM, ↓extE, ↓extM, ↓leS, ↓leA, ↓retVC, ↓retR, ↓resVC, ↓resV1, ↓ressVC, ↓strU, ↓xAdd64, ↓xSub64, ↓vc_jn, ↓vc_je, ↓vc_jr, ↓pickA, ↓stU_env, ↓stU_mem, frz, both_true, both_false, both_dec, both_ndec, ev, absC, getA, setA, delA, tt, AV.good, AV.plain, AV.isSl, AV.cells, AV.one, Cells.len, Cells.get, Cells.sub, Cells.part, Cells.agg, Cells.upd, Cells.set, Cells.cat, Cells.rep, Cells.ones, TDsc.agg, zOf, putE, dstB, letGo, quietOp, slotOp, pickA, true_or, or_true, List.append_eq, Int.cast_ofNat_Int, List.any_cons, List.any_nil, beq_iff_eq, Bool.decide_eq_true, Option.getD_some, Option.getD_none, Option.map_some, Option.map_none, Option.bind_some, Option.isSome_some, Option.isNone_some, Option.isNone_none, Option.isSome_none, ↓reduceIte, Nat.reduceEqDiff, Nat.reduceLT, Nat.reduceLeDiff, Nat.reduceAdd, Nat.reduceSub, Nat.reduceMul, Nat.reduceBEq, Int.reduceLE, Int.reduceLT, Int.reduceToNat, Int.reduceNeg, BitVec.reduceToNat, decide_true, decide_false, and_true, true_and, and_self, Bool.or_true, Bool.true_or, Bool.or_false, Bool.false_or, Bool.not_true, Bool.not_false, List.map_cons, List.map_nil, List.length_cons, List.length_nil, List.getElem?_toArray, List.getElem?_cons_zero, List.getElem?_cons_succ, List.getElem?_nil, forall_const, true_implies, reduceCtorEq, false_and, and_false, false_implies, implies_true, Bool.false_eq_true, Bool.true_eq_false, ne_eq, not_true, not_false_iff, Nat.sub_zero, Nat.zero_add, Nat.add_zero, List.drop_zero, List.drop_succ_cons, List.drop_nil, List.take_zero, List.take_succ_cons, List.take_nil, List.set_cons_zero, List.set_cons_succ, List.nil_append, List.cons_append, List.append_nil, List.replicate_zero, List.replicate_succ, BitVec.ofNat_eq_ofNat, Option.some.injEq, AV.int.injEq, AV.u64.injEq, AV.u32.injEq, AV.u8.injEq, AV.bool.injEq, AV.a64.injEq, AV.a32.injEq, AV.a8.injEq, Nat.zero_le, Int.toNat_natCast, q1, cTrimN, cWordN]
      refine ⟨fun hlt => ?_, fun hge => ?_⟩
      · have hlt : k < m + 1 := by omega
        repeat (refine And.intro (by first | omega | (simp only [intIn]; omega) | decide) ?_)
        refine LeJ.mk ⟨(k + 1, _, _), addi_step hlt hI⟩ (by dsimp only; omega) ?_
        simp (maxSteps := 1000000) only [leS, leA, stU_env, stU_mem, pickA, getA, delA, setA, Cells.part, Cells.len, List.take_nil, List.drop_nil, List.length_nil, Nat.zero_add, ↓reduceIte, Nat.reduceEqDiff, Option.some.injEq, List.nil_append, List.cons_append, true_and, and_true, and_self, reduceCtorEq, AV.int.injEq, ME.own.injEq, ME.row.injEq, Cells.c32.injEq, Cells.c64.injEq, Cells.c8.injEq, AV.ptr.injEq, AV.ros.injEq, AV.grow.injEq, AV.u64.injEq, AV.u32.injEq]
        first | done | rfl | omega
      · obtain rfl : k = m + 1 := by omega
        rw [List.take_of_length_le (l := p) (by omega)]
        refine ⟨⟨by omega, by omega, by omega⟩, by omega, ?_⟩
        intro e he hev hel c1 hc1
        exact h e he (by rw [hev]; exact addi_end m1 m2 hI) (by omega)
  · exact h.elim
set_option maxRecDepth 100000 in
set_option maxHeartbeats 1000000 in
theorem sMulN : Sound Try.prog 33 cMulN := by
  refine sound_vc (tt := tt) (ct := q1) ttok q1_ok mixed Try.func33 rfl (by decide) (rs := [.tmp 4]) rfl (ts := [23]) (k := 0) ?_
  intro cas K h
  unfold cMulN at h
  split at h
  · rename_i a b
    rw [Try.ntmps33]
    refine ⟨by simp, ?_⟩
    obtain ⟨⟨ha, hb⟩, h⟩ := h
    simp (maxSteps := 10000000) (implicitDefEqProofs := false) only [↓both_true, ↓both_false, ↓entryVC, ↓vc_skip, ↓vc_draw, ↓vc_list, ↓vc_seq, ↓vc_seqn, ↓vc_seqe, ↓vc_seqr, ↓vc_cond, ↓condVC, ↓vc_block, ↓vc_blockn, ↓vc_blockr, ↓vc_blocke, ↓vc_loop, ↓vc_exit, ↓vc_ret, ↓vc_loopn, ↓vc_loope, ↓vc_loopr, ↓vcl_nil, ↓vcl_cons, ↓lw_eq, ↓listVC, ↓memK, ↓memR, ↓envOf, ↓guardVC, ↓opVC, ↓pureVC, ↓binT, ↓wrapT, ↓TDsc.isW, ↓binW, ↓binVC, ↓bin8, ↓bin32, ↓bin64, ↓binInt, ↓shVC, ↓unVC, ↓cvVC, ↓rdVC, ↓loadVC, ↓pickC, ↓fillVC, ↓bndVC, ↓sliceVC, ↓bltVC, ↓storeVC, ↓appVC, ↓apzVC, ↓markVC, ↓copyVC, ↓callVC, ↓argsVC, ↓argVC, ↓bindR, ↓bindR1, ↓bindRs, ↓retW_eq, ↓extW_eq, ↓rowW_eq, ↓aggW_eq, ↓plv_nil, ↓plv_tk, ↓plv_fz, ↓plv_ld, ↓pt_eq, ↓pz_eq, ↓pl_eq, ↓delAll, ↓keepM_nil, ↓keepM, ↓extE, ↓extM, ↓leS, ↓leA, ↓retVC, ↓retR, ↓resVC, ↓resV1, ↓ressVC, ↓strU, ↓xAdd64, ↓xSub64, ↓vc_jn, ↓vc_je, ↓vc_jr, ↓pickA, ↓stU_env, ↓stU_mem, frz, both_true, both_false, both_dec, both_ndec, ev, absC, getA, setA, delA, tt, AV.good, AV.plain, AV.isSl, AV.cells, AV.one, Cells.len, Cells.get, Cells.sub, Cells.part, Cells.agg, Cells.upd, Cells.set, Cells.cat, Cells.rep, Cells.ones, TDsc.agg, zOf, putE, dstB, letGo, quietOp, slotOp, pickA, true_or, or_true, List.append_eq, Int.cast_ofNat_Int, List.any_cons, List.any_nil, beq_iff_eq, Bool.decide_eq_true, Option.getD_some, Option.getD_none, Option.map_some, Option.map_none, Option.bind_some, Option.isSome_some, Option.isNone_some, Option.isNone_none, Option.isSome_none, ↓reduceIte, Nat.reduceEqDiff, Nat.reduceLT, Nat.reduceLeDiff, Nat.reduceAdd, Nat.reduceSub, Nat.reduceMul, Nat.reduceBEq, Int.reduceLE, Int.reduceLT, Int.reduceToNat, Int.reduceNeg, BitVec.reduceToNat, decide_true, decide_false, and_true, true_and, and_self, Bool.or_true, Bool.true_or, Bool.or_false, Bool.false_or, Bool.not_true, Bool.not_false, List.map_cons, List.map_nil, List.length_cons, List.length_nil, List.getElem?_toArray, List.getElem?_cons_zero, List.getElem?_cons_succ, List.getElem?_nil, forall_const, true_implies, reduceCtorEq, false_and, and_false, false_implies, implies_true, Bool.false_eq_true, Bool.true_eq_false, ne_eq, not_true, not_false_iff, Nat.sub_zero, Nat.zero_add, Nat.add_zero, List.drop_zero, List.drop_succ_cons, List.drop_nil, List.take_zero, List.take_succ_cons, List.take_nil, List.set_cons_zero, List.set_cons_succ, List.nil_append, List.cons_append, List.append_nil, List.replicate_zero, List.replicate_succ, BitVec.ofNat_eq_ofNat, Option.some.injEq, AV.int.injEq, AV.u64.injEq, AV.u32.injEq, AV.u8.injEq, AV.bool.injEq, AV.a64.injEq, AV.a32.injEq, AV.a8.injEq, Nat.zero_le, Int.toNat_natCast, q1, cTrimN, cWordN]
    intro A ca hca B cb hcb
    repeat (refine And.intro (by first | omega | (simp only [intIn]; omega) | decide) ?_)
    intro g
    have e0 : ((a.length : Int) + (b.length : Int)).toNat = a.length + b.length := by omega
    rw [e0]
    refine loopU _ _ _ [0, 1, 5, 17, 18] [0, 1] 3 (ι := {s : Nat × List U32 // MProdN a b s}) (fun s => [(19, .int (s.1.1 : Int))]) (fun s => [(2, .own g 34 (.c32 s.1.2))]) (fun s => a.length - s.1.1) ?_ ?_
    · refine LeJ.mk ⟨(0, List.replicate (a.length + b.length) 0), mprodn_start a b⟩ trivial ?_
      simp (maxSteps := 1000000) only [leS, leA, stU_env, stU_mem, pickA, getA, delA, setA, Cells.part, Cells.len, List.take_nil, List.drop_nil, List.length_nil, Nat.zero_add, ↓reduceIte, Nat.reduceEqDiff, Option.some.injEq, List.nil_append, List.cons_append, true_and, and_true, and_self, reduceCtorEq, AV.int.injEq, ME.own.injEq, ME.row.injEq, Cells.c32.injEq, Cells.c64.injEq, Cells.c8.injEq, AV.ptr.injEq, AV.ros.injEq, AV.grow.injEq, AV.u64.injEq, AV.u32.injEq]
      first | done | rfl | exact ⟨rfl, rfl⟩
    · rintro ⟨⟨i, p⟩, hI⟩
      obtain ⟨hk, hl, -⟩ := id hI
      dsimp only at hk hl
      simp (maxSteps := 10000000) (implicitDefEqProofs := false) only [↓both_true, ↓both_false, ↓entryVC, ↓vc_skip, ↓vc_draw, ↓vc_list, ↓vc_seq, ↓vc_seqn, ↓vc_seqe, ↓vc_seqr, ↓vc_cond, ↓condVC, ↓vc_block, ↓vc_blockn, ↓vc_blockr, ↓vc_blocke, ↓vc_loop, ↓vc_exit, ↓vc_ret, ↓vc_loopn, ↓vc_loope, ↓vc_loopr, ↓vcl_nil, ↓vcl_cons, ↓lw_eq, ↓listVC, ↓memK, ↓memR, ↓envOf, ↓guardVC, ↓opVC, ↓pureVC, ↓binT, ↓wrapT, ↓TDsc.isW, ↓binW, ↓binVC, ↓bin8, ↓bin32, ↓bin64, ↓binInt, ↓shVC, ↓unVC, ↓cvVC, ↓rdVC, ↓loadVC, ↓pickC, ↓fillVC, ↓bndVC, ↓sliceVC, ↓bltVC, ↓storeVC, ↓appVC, ↓apzVC, ↓markVC, ↓copyVC, ↓callVC, ↓argsVC, ↓argVC, ↓bindR, ↓bindR1, ↓bindRs, ↓retW_eq, ↓extW_eq, ↓rowW_eq, ↓aggW_eq, ↓plv_nil, ↓plv_tk, ↓plv_fz, ↓plv_ld, ↓pt_eq, ↓pz_eq, ↓pl_eq, ↓delAll, ↓keepM_nil, ↓keepM, ↓extE, ↓extM, ↓leS, ↓leA, ↓retVC, ↓retR, ↓resVC, ↓resV1, ↓ressVC, ↓strU, ↓xAdd64, ↓xSub64, ↓vc_jn, ↓vc_je, ↓vc_jr, ↓pickA, ↓stU_env, ↓stU_mem, frz, both_true, both_false, both_dec, both_ndec, ev, absC, getA, setA, delA, tt, AV.good, AV.plain, AV.isSl, AV.cells, AV.one, Cells.len, Cells.get, Cells.sub, Cells.part, Cells.agg, Cells.upd, Cells.set, Cells.cat, Cells.rep, Cells.ones, TDsc.agg, zOf, putE, dstB, letGo, quietOp, slotOp, pickA, true_or, or_true, List.append_eq, Int.cast_ofNat_Int, List.any_cons, List.any_nil, beq_iff_eq, Bool.decide_eq_true, Option.getD_some, Option.getD_none, Option.map_some, Option.map_none, Option.bind_some, Option.isSome_some, Option.isNone_some, Option.isNone_none, Option.isSome_none, ↓reduceIte, Nat.reduceEqDiff, Nat.reduceLT, Nat.reduceLeDiff, Nat.reduceAdd, Nat.reduceSub, Nat.reduceMul, Nat.reduceBEq, Int.reduceLE, Int.reduceLT, Int.reduceToNat, Int.reduceNeg, BitVec.reduceToNat, decide_true, decide_false, and_true, true_and, and_self, Bool.or_true, Bool.true_or, Bool.or_false, Bool.false_or, Bool.not_true, Bool.not_false, List.map_cons, List.map_nil, List.length_cons, List.length_nil, List.getElem?_toArray, List.getElem?_cons_zero, List.getElem?_cons_succ, List.getElem?_nil, forall_const, true_implies, reduceCtorEq, false_and, and_false, false_implies, implies_true, Bool.false_eq_true, Bool.true_eq_false, ne_eq, not_true, not_false_iff, Nat.sub_zero, Nat.zero_add, Nat.add_zero, List.drop_zero, List.drop_succ_cons, List.drop_nil, List.take_zero, List.take_succ_cons, List.take_nil, List.set_cons_zero, List.set_cons_succ, List.nil_append, List.cons_append, List.append_nil, List.replicate_zero, List.replicate_succ, BitVec.ofNat_eq_ofNat, Option.some.injEq, AV.int.injEq, AV.u64.injEq, AV.u32.injEq, AV.u8.injEq, AV.bool.injEq, AV.a64.injEq, AV.a32.injEq, AV.a8.injEq, Nat.zero_le, Int.toNat_natCast, q1, cTrimN, cWordN]
      refine ⟨fun hlt => ?_, fun hge => ?_⟩
      · have hlt : i < a.length := by omega
        repeat (refine And.intro (by first | omega | (simp only [intIn]; omega) | decide) ?_)
        refine loopU _ _ _ [0, 1, 5, 6, 7, 17, 18, 19, 24, 25] [0, 1] 3 (ι := {s : Nat × List U32 × U64 // MRowN (nv32 p) (g32 a i) i (a.length + b.length) b s}) (fun s => [(26, .int (s.1.1 : Int)), (8, .u64 s.1.2.2)]) (fun s => [(2, .own g 34 (.c32 s.1.2.1))]) (fun s => b.length - s.1.1) ?_ ?_
        · refine LeJ.mk ⟨(0, p, 0), mrown_start hl hI.2.2.1 rfl⟩ trivial ?_
          simp (maxSteps := 1000000) only [leS, leA, stU_env, stU_mem, pickA, getA, delA, setA, Cells.part, Cells.len, List.take_nil, List.drop_nil, List.length_nil, Nat.zero_add, ↓reduceIte, Nat.reduceEqDiff, Option.some.injEq, List.nil_append, List.cons_append, true_and, and_true, and_self, reduceCtorEq, AV.int.injEq, ME.own.injEq, ME.row.injEq, Cells.c32.injEq, Cells.c64.injEq, Cells.c8.injEq, AV.ptr.injEq, AV.ros.injEq, AV.grow.injEq, AV.u64.injEq, AV.u32.injEq]
          first | done | rfl | exact ⟨rfl, rfl⟩
        · rintro ⟨⟨k, q, c⟩, hJ⟩
          obtain ⟨hk2, hl2, -⟩ := id hJ
          dsimp only at hk2 hl2
          simp (maxSteps := 10000000) (implicitDefEqProofs := false) only [↓both_true, ↓both_false, ↓entryVC, ↓vc_skip, ↓vc_draw, ↓vc_list, ↓vc_seq, ↓vc_seqn, ↓vc_seqe, ↓vc_seqr, ↓vc_cond, ↓condVC, ↓vc_block, ↓vc_blockn, ↓vc_blockr, ↓vc_blocke, ↓vc_loop, ↓vc_exit, ↓vc_ret, ↓vc_loopn, ↓vc_loope, ↓vc_loopr, ↓vcl_nil, ↓vcl_cons, ↓lw_eq, ↓listVC, ↓memK, ↓memR, ↓envOf, ↓guardVC, ↓opVC, ↓pureVC, ↓binT, ↓wrapT, ↓TDsc.isW, ↓binW, ↓binVC, ↓bin8, ↓bin32, ↓bin64, ↓binInt, ↓shVC, ↓unVC, ↓cvVC, ↓rdVC, ↓loadVC, ↓pickC, ↓fillVC, ↓bndVC, ↓sliceVC, ↓bltVC, ↓storeVC, ↓appVC, ↓apzVC, ↓markVC, ↓copyVC, ↓callVC, ↓argsVC, ↓argVC, ↓bindR, ↓bindR1, ↓bindRs, ↓retW_eq, ↓extW_eq, ↓rowW_eq, ↓aggW_eq, ↓plv_nil, ↓plv_tk, ↓plv_fz, ↓plv_ld, ↓pt_eq, ↓pz_eq, ↓pl_eq, ↓delAll, ↓keepM_nil, ↓keepM, ↓extE, ↓extM, ↓leS, ↓leA, ↓retVC, ↓retR, ↓resVC, ↓resV1, ↓ressVC, ↓strU, ↓xAdd64, ↓xSub64, ↓vc_jn, ↓vc_je, ↓vc_jr, ↓pickA, ↓stU_env, ↓stU_mem, frz, both_true, both_false, both_dec, both_ndec, ev, absC, getA, setA, delA, tt, AV.good, AV.plain, AV.isSl, AV.cells, AV.one, Cells.len, Cells.get, Cells.sub, Cells.part, Cells.agg, Cells.upd, Cells.set, Cells.cat, Cells.rep, Cells.ones, TDsc.agg, zOf, putE, dstB, letGo, quietOp, slotOp, pickA, true_or, or_true, List.append_eq, Int.cast_ofNat_Int, List.any_cons, List.any_nil, beq_iff_eq, Bool.decide_eq_true, Option.getD_some, Option.getD_none, Option.map_some, Option.map_none, Option.bind_some, Option.isSome_some, Option.isNone_some, Option.isNone_none, Option.isSome_none, ↓reduceIte, Nat.reduceEqDiff, Nat.reduceLT, Nat.reduceLeDiff, Nat.reduceAdd, Nat.reduceSub, Nat.reduceMul, Nat.reduceBEq, Int.reduceLE, Int.reduceLT, Int.reduceToNat, Int.reduceNeg, BitVec.reduceToNat, decide_true, decide_false, and_true, true_and, and_self, Bool.or_true, Bool.true_or, Bool.or_false, Bool.false_or, Bool.not_true, Bool.not_false, List.map_cons, List.map_nil, List.length_cons, List.length_nil, List.getElem?_toArray, List.getElem?_cons_zero, List.getElem?_cons_succ, List.getElem?_nil, forall_const, true_implies, reduceCtorEq, false_and, and_false, false_implies, implies_true, Bool.false_eq_true, Bool.true_eq_false, ne_eq, not_true, not_false_iff, Nat.sub_zero, Nat.zero_add, Nat.add_zero, List.drop_zero, List.drop_succ_cons, List.drop_nil, List.take_zero, List.take_succ_cons, List.take_nil, List.set_cons_zero, List.set_cons_succ, List.nil_append, List.cons_append, List.append_nil, List.replicate_zero, List.replicate_succ, BitVec.ofNat_eq_ofNat, Option.some.injEq, AV.int.injEq, AV.u64.injEq, AV.u32.injEq, AV.u8.injEq, AV.bool.injEq, AV.a64.injEq, AV.a32.injEq, AV.a8.injEq, Nat.zero_le, Int.toNat_natCast, q1, cTrimN, cWordN]
          have e1 : ((i : Int) + (k : Int)).toNat = i + k := by omega
          refine ⟨fun hlt2 => ?_, fun hge2 => ?_⟩
          · have hlt2 : k < b.length := by omega
            repeat (refine And.intro (by first | omega | (simp only [intIn]; omega) | decide) ?_)
            rw [e1]
            refine LeJ.mk ⟨(k + 1, _, _), mrown_step (by omega) hlt2 hJ⟩ (by dsimp only; omega) ?_
            simp (maxSteps := 1000000) only [leS, leA, stU_env, stU_mem, pickA, getA, delA, setA, Cells.part, Cells.len, List.take_nil, List.drop_nil, List.length_nil, Nat.zero_add, ↓reduceIte, Nat.reduceEqDiff, Option.some.injEq, List.nil_append, List.cons_append, true_and, and_true, and_self, reduceCtorEq, AV.int.injEq, ME.own.injEq, ME.row.injEq, Cells.c32.injEq, Cells.c64.injEq, Cells.c8.injEq, AV.ptr.injEq, AV.ros.injEq, AV.grow.injEq, AV.u64.injEq, AV.u32.injEq]
            first | done | rfl | omega
          · obtain rfl : k = b.length := by omega
            repeat (refine And.intro (by first | omega | (simp only [intIn]; omega) | decide) ?_)
            rw [e1]
            refine LeJ.mk ⟨(i + 1, _), mprodn_step hlt hI hJ⟩ (by dsimp only; omega) ?_
            simp (maxSteps := 1000000) only [leS, leA, stU_env, stU_mem, pickA, getA, delA, setA, Cells.part, Cells.len, List.take_nil, List.drop_nil, List.length_nil, Nat.zero_add, ↓reduceIte, Nat.reduceEqDiff, Option.some.injEq, List.nil_append, List.cons_append, true_and, and_true, and_self, reduceCtorEq, AV.int.injEq, ME.own.injEq, ME.row.injEq, Cells.c32.injEq, Cells.c64.injEq, Cells.c8.injEq, AV.ptr.injEq, AV.ros.injEq, AV.grow.injEq, AV.u64.injEq, AV.u32.injEq]
            first | done | rfl | omega
      · obtain rfl : i = a.length := by omega
        obtain ⟨-, -, -, hpv⟩ := id hI
        dsimp only at hpv
        rw [List.take_of_length_le (l := a) (Nat.le_refl _)] at hpv
        rw [List.take_of_length_le (l := p) (by omega)]
        repeat (refine And.intro (by first | omega | (simp only [intIn]; omega) | decide) ?_)
        intro e he hev hel c4 hc4
        exact h e he (by rw [hev, hpv]) (by omega)
  · exact h.elim
end Go.Proofs.Ytkpbjkhgiackpaa
