/- Quotients: the document's, by the engine. -/
import Derived.Test.YtkpbjkhgiackpaaNy0
import Derived.Test.YtkpbjkhgiackpaaEng3
namespace Go.Proofs.Ytkpbjkhgiackpaa
open Go Go.RowKit
set_option linter.unusedVariables false
set_option linter.unusedSimpArgs false

theorem sgn_nn {x y : Nat} : 0 ≤ sgn x y ↔ y ≤ x := by
  unfold sgn
  split
  · simp; omega
  · split <;> simp <;> omega
theorem set_zero {i : Nat} {q : List U64} (hi : i < q.length) (h : g64 q i = 0) : q.set i 0#64 = q := by
  have h2 : q[i] = 0#64 := by simpa [g64, hi] using h
  rw [← h2]; exact List.set_getElem_self hi
def cDivR : CT := fun cas K => match cas with
  | [.s (.c32 a), .s (.c32 b)] => (a.length ≤ 3000 ∧ b.length ≤ 3000) ∧ (nv32 b = 0 → K (.tup [.s (.c32 []), .s (.c32 []), .v (.int 1)])) ∧
    (nv32 b ≠ 0 → ∀ q r, Can32 q → Can32 r → nv32 q = nv32 a / nv32 b → nv32 r = nv32 a % nv32 b → q.length ≤ 2 * a.length + 2 → r.length ≤ 2 * b.length + 2 → K (.tup [.al (.c32 q), .al (.c32 r), .v (.int 0)]))
  | _ => False
def y0 : CTab := fun F => match F with
  | 127 => .fn cTrim
  | 92 => .fn cDigits
  | 91 => .fn cWhole
  | 113 => .fn cCompare
  | 129 => .fn cLess
  | 130 => .fn cTimes
  | 128 => .fn cNext
  | _ => .fn noCT
theorem y0_ok : CTok Try.prog y0 := by
  intro F
  unfold y0
  split
  · exact sTrim
  · exact sDigits
  · exact sWhole
  · exact sCompare
  · exact sLess
  · exact sTimes
  · exact sNext
  · exact sound_none _ _
set_option maxRecDepth 100000 in
set_option maxHeartbeats 1000000 in
theorem sDivR : Sound Try.prog 81 cDivR := by
  refine sound_vc (tt := tt) (ct := y0) ttok y0_ok mixed Try.func81 rfl (by decide) (rs := [.tmp 4, .tmp 5, .tmp 6]) rfl (ts := [23, 23, 25]) (k := 0) ?_
  intro cas K h
  unfold cDivR at h
  split at h
  · rename_i a b
    rw [Try.ntmps81]
    refine ⟨by simp, ?_⟩
    obtain ⟨⟨ha, hb⟩, h1, h2⟩ := h
    simp (maxSteps := 10000000) (implicitDefEqProofs := false) only [↓both_true, ↓both_false, ↓entryVC, ↓vc_skip, ↓vc_draw, ↓vc_list, ↓vc_seq, ↓vc_seqn, ↓vc_seqe, ↓vc_seqr, ↓vc_cond, ↓condVC, ↓vc_block, ↓vc_blockn, ↓vc_blockr, ↓vc_blocke, ↓vc_loop, ↓vc_exit, ↓vc_ret, ↓vc_loopn, ↓vc_loope, ↓vc_loopr, ↓vcl_nil, ↓vcl_cons, ↓lw_eq, ↓listVC, ↓memK, ↓memR, ↓envOf, ↓guardVC, ↓opVC, ↓pureVC, ↓binT, ↓wrapT, ↓TDsc.isW, ↓binW, ↓binVC, ↓bin8, ↓bin32, ↓bin64, ↓binInt, ↓shVC, ↓unVC, ↓cvVC, ↓rdVC, ↓loadVC, ↓pickC, ↓fillVC, ↓bndVC, ↓sliceVC, ↓bltVC, ↓storeVC, ↓appVC, ↓apzVC, ↓markVC, ↓copyVC, ↓callVC, ↓argsVC, ↓argVC, ↓bindR, ↓bindR1, ↓bindRs, ↓retW_eq, ↓extW_eq, ↓rowW_eq, ↓aggW_eq, ↓plv_nil, ↓plv_tk, ↓plv_fz, ↓plv_ld, ↓pt_eq, ↓pz_eq, ↓pl_eq, ↓delAll, ↓keepM_nil, ↓keepM, ↓extE, ↓extM, ↓leS, ↓leA, ↓retVC, ↓retR, ↓resVC, ↓resV1, ↓ressVC, ↓strU, ↓xAdd64, ↓xSub64, ↓vc_jn, ↓vc_je, ↓vc_jr, ↓pickA, ↓stU_env, ↓stU_mem, frz, both_true, both_false, both_dec, both_ndec, ev, absC, getA, setA, delA, tt, AV.good, AV.plain, AV.isSl, AV.cells, AV.one, Cells.len, Cells.get, Cells.sub, Cells.part, Cells.agg, Cells.upd, Cells.set, Cells.cat, Cells.rep, Cells.ones, TDsc.agg, zOf, putE, dstB, letGo, quietOp, slotOp, pickA, true_or, or_true, List.append_eq, Int.cast_ofNat_Int, List.any_cons, List.any_nil, beq_iff_eq, Bool.decide_eq_true, Option.getD_some, Option.getD_none, Option.map_some, Option.map_none, Option.bind_some, Option.isSome_some, Option.isNone_some, Option.isNone_none, Option.isSome_none, ↓reduceIte, Nat.reduceEqDiff, Nat.reduceLT, Nat.reduceLeDiff, Nat.reduceAdd, Nat.reduceSub, Nat.reduceMul, Nat.reduceBEq, Int.reduceLE, Int.reduceLT, Int.reduceToNat, Int.reduceNeg, BitVec.reduceToNat, decide_true, decide_false, and_true, true_and, and_self, Bool.or_true, Bool.true_or, Bool.or_false, Bool.false_or, Bool.not_true, Bool.not_false, List.map_cons, List.map_nil, List.length_cons, List.length_nil, List.getElem?_toArray, List.getElem?_cons_zero, List.getElem?_cons_succ, List.getElem?_nil, forall_const, true_implies, reduceCtorEq, false_and, and_false, false_implies, implies_true, Bool.false_eq_true, Bool.true_eq_false, ne_eq, not_true, not_false_iff, Nat.sub_zero, Nat.zero_add, Nat.add_zero, List.drop_zero, List.drop_succ_cons, List.drop_nil, List.take_zero, List.take_succ_cons, List.take_nil, List.set_cons_zero, List.set_cons_succ, List.nil_append, List.cons_append, List.append_nil, List.replicate_zero, List.replicate_succ, BitVec.ofNat_eq_ofNat, Option.some.injEq, AV.int.injEq, AV.u64.injEq, AV.u32.injEq, AV.u8.injEq, AV.bool.injEq, AV.a64.injEq, AV.a32.injEq, AV.a8.injEq, Nat.zero_le, Int.toNat_natCast, y0, cNext, cTrim, cDigits, cWhole, cCompare, cLess, cTimes, List.getD_cons_zero]
    intro A ca hca B cb hcb
    refine ⟨by omega, fun x hx hxv hxl A2 c2 hc2 => ⟨by omega, fun y hy hyv hyl A3 c3 hc3 => ⟨fun h0 => h1 ?_, fun hne => ⟨by omega, fun g g1 => ⟨by simp only [intIn]; omega, ?_⟩⟩⟩⟩⟩
    · have hy0 : y = [] := List.eq_nil_of_length_eq_zero (by omega)
      rw [← hyv, hy0]; rfl
    · have hp : 0 < nv16 y := hy.pos (by intro e; rw [e] at hne; exact hne rfl)
      have hb0 : nv32 b ≠ 0 := by omega
      have h3 := h2 hb0
      clear h1 h2
      refine loopU _ _ _ [7, 8, 9] [2, 3] 6 (ι := {s : (Nat × List U64 × List U64) × Option Addr × Nat // NyI x y s.1 ∧ s.1.2.2.length ≤ s.2.2}) (fun s => [(11, .int ((s.1.1.1 : Int) - 1)), (10, .ros 5 s.1.2.1 s.1.1.2.2.length s.1.2.2)]) (fun s => [(4, .own g 37 (.c64 s.1.1.2.1)), (5, .ro s.1.2.1 s.1.2.2 (.c64 s.1.1.2.2))]) (fun s => s.1.1.1) ?_ ?_
      · refine LeJ.none 10 5 (.c64 []) rfl rfl ⟨rfl, rfl⟩ ?_
        refine LeJ.mk ⟨((x.length, List.replicate x.length 0, []), some ⟨g1, 0, none⟩, 0), nyi_start hp, Nat.le_refl _⟩ trivial ?_
        simp (maxSteps := 1000000) only [leS, leA, stU_env, stU_mem, pickA, getA, delA, setA, Cells.part, Cells.len, List.take_nil, List.drop_nil, List.length_nil, Nat.zero_add, ↓reduceIte, Nat.reduceEqDiff, Option.some.injEq, List.nil_append, List.cons_append, true_and, and_true, and_self, reduceCtorEq, AV.int.injEq, ME.own.injEq, ME.row.injEq, Cells.c32.injEq, Cells.c64.injEq, Cells.c8.injEq, AV.ptr.injEq, AV.ros.injEq, AV.grow.injEq, AV.u64.injEq, AV.u32.injEq]
        first | done | exact ⟨rfl, rfl⟩ | rfl
      · rintro ⟨⟨⟨k, q, R⟩, AR, cR⟩, hI, hRc⟩
        obtain ⟨hk, hql, hqD, hRC, hRy, hz, -⟩ := id hI
        dsimp only at hk hql hqD hRC hRy hz hRc
        simp (maxSteps := 10000000) (implicitDefEqProofs := false) only [↓both_true, ↓both_false, ↓entryVC, ↓vc_skip, ↓vc_draw, ↓vc_list, ↓vc_seq, ↓vc_seqn, ↓vc_seqe, ↓vc_seqr, ↓vc_cond, ↓condVC, ↓vc_block, ↓vc_blockn, ↓vc_blockr, ↓vc_blocke, ↓vc_loop, ↓vc_exit, ↓vc_ret, ↓vc_loopn, ↓vc_loope, ↓vc_loopr, ↓vcl_nil, ↓vcl_cons, ↓lw_eq, ↓listVC, ↓memK, ↓memR, ↓envOf, ↓guardVC, ↓opVC, ↓pureVC, ↓binT, ↓wrapT, ↓TDsc.isW, ↓binW, ↓binVC, ↓bin8, ↓bin32, ↓bin64, ↓binInt, ↓shVC, ↓unVC, ↓cvVC, ↓rdVC, ↓loadVC, ↓pickC, ↓fillVC, ↓bndVC, ↓sliceVC, ↓bltVC, ↓storeVC, ↓appVC, ↓apzVC, ↓markVC, ↓copyVC, ↓callVC, ↓argsVC, ↓argVC, ↓bindR, ↓bindR1, ↓bindRs, ↓retW_eq, ↓extW_eq, ↓rowW_eq, ↓aggW_eq, ↓plv_nil, ↓plv_tk, ↓plv_fz, ↓plv_ld, ↓pt_eq, ↓pz_eq, ↓pl_eq, ↓delAll, ↓keepM_nil, ↓keepM, ↓extE, ↓extM, ↓leS, ↓leA, ↓retVC, ↓retR, ↓resVC, ↓resV1, ↓ressVC, ↓strU, ↓xAdd64, ↓xSub64, ↓vc_jn, ↓vc_je, ↓vc_jr, ↓pickA, ↓stU_env, ↓stU_mem, frz, both_true, both_false, both_dec, both_ndec, ev, absC, getA, setA, delA, tt, AV.good, AV.plain, AV.isSl, AV.cells, AV.one, Cells.len, Cells.get, Cells.sub, Cells.part, Cells.agg, Cells.upd, Cells.set, Cells.cat, Cells.rep, Cells.ones, TDsc.agg, zOf, putE, dstB, letGo, quietOp, slotOp, pickA, true_or, or_true, List.append_eq, Int.cast_ofNat_Int, List.any_cons, List.any_nil, beq_iff_eq, Bool.decide_eq_true, Option.getD_some, Option.getD_none, Option.map_some, Option.map_none, Option.bind_some, Option.isSome_some, Option.isNone_some, Option.isNone_none, Option.isSome_none, ↓reduceIte, Nat.reduceEqDiff, Nat.reduceLT, Nat.reduceLeDiff, Nat.reduceAdd, Nat.reduceSub, Nat.reduceMul, Nat.reduceBEq, Int.reduceLE, Int.reduceLT, Int.reduceToNat, Int.reduceNeg, BitVec.reduceToNat, decide_true, decide_false, and_true, true_and, and_self, Bool.or_true, Bool.true_or, Bool.or_false, Bool.false_or, Bool.not_true, Bool.not_false, List.map_cons, List.map_nil, List.length_cons, List.length_nil, List.getElem?_toArray, List.getElem?_cons_zero, List.getElem?_cons_succ, List.getElem?_nil, forall_const, true_implies, reduceCtorEq, false_and, and_false, false_implies, implies_true, Bool.false_eq_true, Bool.true_eq_false, ne_eq, not_true, not_false_iff, Nat.sub_zero, Nat.zero_add, Nat.add_zero, List.drop_zero, List.drop_succ_cons, List.drop_nil, List.take_zero, List.take_succ_cons, List.take_nil, List.set_cons_zero, List.set_cons_succ, List.nil_append, List.cons_append, List.append_nil, List.replicate_zero, List.replicate_succ, BitVec.ofNat_eq_ofNat, Option.some.injEq, AV.int.injEq, AV.u64.injEq, AV.u32.injEq, AV.u8.injEq, AV.bool.injEq, AV.a64.injEq, AV.a32.injEq, AV.a8.injEq, Nat.zero_le, Int.toNat_natCast, y0, cNext, cTrim, cDigits, cWhole, cCompare, cLess, cTimes, List.getD_cons_zero]
        have hRl : R.length ≤ y.length := Nat.le_of_not_lt fun hc => by
          have g1 := hRC.ge (by intro e; rw [e] at hc; exact absurd hc (Nat.not_lt_zero _))
          have g2 := nv16_lt y hy.dig
          have g3 : (65536 : Nat) ^ y.length ≤ 65536 ^ (R.length - 1) := Nat.pow_le_pow_right (by decide) (by omega)
          omega
        refine ⟨fun hge0 => ?_, fun hlt0 => ?_⟩
        · obtain ⟨i, rfl⟩ : ∃ i, k = i + 1 := ⟨k - 1, by omega⟩
          have e2 : (((i + 1 : Nat) : Int) - 1) = (i : Int) := by omega
          simp only [e2, Int.toNat_natCast]
          have hxg := hx.dig.get i
          have hyt : ¬ g64 y (y.length - 1) = 0#64 := hy.last (by intro e; rw [e] at hne; exact hne rfl)
          refine ⟨⟨by omega, by omega⟩, by omega, by omega, fun g2 => ⟨⟨by omega, by omega⟩, fun v => ⟨⟨?_, by omega⟩, fun e he hev hel A4 c4 hc4 => ⟨⟨he.dig, hy.dig, by omega, by omega⟩, ?_⟩⟩⟩⟩
          · intro z hz2
            rcases List.mem_cons.1 hz2 with rfl | h9
            · exact hxg
            · exact hRC.dig z h9
          have hevZ : nv16 e = 65536 * nv16 R + (g64 x i).toNat := by rw [hev]; simp only [nv16]; omega
          have hZ : nv16 e < 65536 * nv16 y := by omega
          refine ⟨fun hge => ?_, fun hlt => ?_⟩
          · have hge2 := sgn_nn.1 hge
            have hq6 : nv16 e / nv16 y < 65536 := (Nat.div_lt_iff_lt_mul hp).2 hZ
            have hdv : (BitVec.ofNat 64 (nv16 e / nv16 y)).toNat = nv16 e / nv16 y := by rw [BitVec.toNat_ofNat]; exact Nat.mod_eq_of_lt (Nat.lt_of_lt_of_le hq6 (by decide))
            have gq : g64 (q.set i (BitVec.ofNat 64 (nv16 e / nv16 y))) i = BitVec.ofNat 64 (nv16 e / nv16 y) := by simp [g64, show i < q.length by omega]
            rw [gq]
            refine ⟨⟨he.dig, hy.dig, by omega, by omega, hyt, by omega, hZ⟩, ⟨by omega, by omega⟩, by omega, ⟨by omega, by omega⟩, by rw [List.length_set]; omega, ⟨hy.dig, by omega, by rw [hdv]; exact Nat.le_of_lt hq6⟩, fun e1 he1 hev1 hel1 A5 c5 hc5 => ⟨⟨he.dig, he1.dig, by omega, by omega, ?_⟩, fun e3 he3 hev3 hel3 A6 c6 hc6 => ⟨by simp only [intIn]; omega, ?_⟩⟩⟩
            · rw [hev1, hdv]; exact Nat.mul_div_le _ _
            · have hmod : nv16 e3 = nv16 e % nv16 y := by
                have := Nat.div_add_mod (nv16 e) (nv16 y)
                rw [hev3, hev1, hdv]
                generalize nv16 y * (nv16 e / nv16 y) = M1 at *
                generalize nv16 e % nv16 y = M2 at *
                omega
              refine LeJ.rel 10 5 rfl rfl ?_
              refine LeJ.mk ⟨((i, q.set i (BitVec.ofNat 64 (nv16 e / nv16 y)), e3), A6, c6), nyi_step hp (by omega) hI (by rw [hdv, hevZ]) he3 (by rw [hmod, hevZ]) hx.dig, hc6⟩ (Nat.lt_succ_self _) ?_
              simp (maxSteps := 1000000) only [leS, leA, stU_env, stU_mem, pickA, getA, delA, setA, Cells.part, Cells.len, List.take_nil, List.drop_nil, List.length_nil, Nat.zero_add, ↓reduceIte, Nat.reduceEqDiff, Option.some.injEq, List.nil_append, List.cons_append, true_and, and_true, and_self, reduceCtorEq, AV.int.injEq, ME.own.injEq, ME.row.injEq, Cells.c32.injEq, Cells.c64.injEq, Cells.c8.injEq, AV.ptr.injEq, AV.ros.injEq, AV.grow.injEq, AV.u64.injEq, AV.u32.injEq]
              first | done | rfl | omega
          · have hlt2 : nv16 e < nv16 y := by
              have := mt sgn_nn.2 hlt; omega
            have hset := set_zero (i := i) (q := q) (by omega) (hz i (Nat.lt_succ_self _))
            have hst := nyi_step (d := 0#64) (R' := e) hp (by omega) hI (by rw [← hevZ, Nat.div_eq_of_lt hlt2]; rfl) he (by rw [← hevZ, Nat.mod_eq_of_lt hlt2]) hx.dig
            rw [hset] at hst
            refine ⟨by simp only [intIn]; omega, ?_⟩
            refine LeJ.rel 10 5 rfl rfl ?_
            refine LeJ.mk ⟨((i, q, e), A4, c4), hst, hc4⟩ (Nat.lt_succ_self _) ?_
            simp (maxSteps := 1000000) only [leS, leA, stU_env, stU_mem, pickA, getA, delA, setA, Cells.part, Cells.len, List.take_nil, List.drop_nil, List.length_nil, Nat.zero_add, ↓reduceIte, Nat.reduceEqDiff, Option.some.injEq, List.nil_append, List.cons_append, true_and, and_true, and_self, reduceCtorEq, AV.int.injEq, ME.own.injEq, ME.row.injEq, Cells.c32.injEq, Cells.c64.injEq, Cells.c8.injEq, AV.ptr.injEq, AV.ros.injEq, AV.grow.injEq, AV.u64.injEq, AV.u32.injEq]
            first | done | rfl | omega
        · obtain rfl : k = 0 := by omega
          obtain ⟨f1, f2⟩ := nyi_end hp hI
          refine ⟨⟨by omega, Nat.le_refl _, by omega⟩, ⟨hqD.take _, by rw [List.length_take]; omega⟩, fun e he hev hel c hc => ⟨⟨hRC.dig, by omega⟩, fun e' he' hev' hel' c' hc' => ?_⟩⟩
          rw [List.take_of_length_le (by omega)] at hev hel
          exact h3 e e' he he' (by rw [hev, f1, hxv, hyv]) (by rw [hev', f2, hxv, hyv]) (by omega) (by omega)
  · exact h.elim
end Go.Proofs.Ytkpbjkhgiackpaa
