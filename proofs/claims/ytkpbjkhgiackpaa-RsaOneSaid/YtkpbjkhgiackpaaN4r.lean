/- The document's products and shifts up, by the engine. -/
import Derived.Test.YtkpbjkhgiackpaaN3r
namespace Go.Proofs.Ytkpbjkhgiackpaa
open Go Go.RowKit
set_option linter.unusedVariables false
set_option linter.unusedSimpArgs false

theorem mul_mac {c d x y : U64} (hc : c.toNat < 65536) (hd : d.toNat < 65536) (hx : x.toNat < 65536) (hy : y.toNat < 65536) : (c + d + x * y).toNat = x.toNat * y.toNat + d.toNat + c.toNat ∧ x.toNat * y.toNat ≤ 65535 * 65535 := by
  have h1 : x.toNat * y.toNat ≤ 65535 * 65535 := Nat.mul_le_mul (by omega) (by omega)
  refine ⟨?_, h1⟩
  rw [BitVec.toNat_add, BitVec.toNat_add, BitVec.toNat_mul, Nat.mod_eq_of_lt (a := x.toNat * y.toNat) (by omega)]
  generalize x.toNat * y.toNat = E at *
  rw [Nat.mod_eq_of_lt (a := c.toNat + d.toNat) (by omega)]
  rw [Nat.mod_eq_of_lt (by omega)]
  omega
/-- A row of the product. -/
def MRowI (P0 : Nat) (x : U64) (i n : Nat) (ys : List U64) (s : Nat × List U64 × U64) : Prop := s.1 ≤ ys.length ∧ s.2.1.length = n ∧ D16 s.2.1 ∧ s.2.2.toNat < 65536 ∧ (∀ j, i + ys.length ≤ j → g64 s.2.1 j = 0) ∧ nv16 s.2.1 + 65536 ^ (i + s.1) * s.2.2.toNat = P0 + 65536 ^ i * (x.toNat * nv16 (ys.take s.1))
def MProdI (xs ys : List U64) (s : Nat × List U64) : Prop := s.1 ≤ xs.length ∧ s.2.length = xs.length + ys.length ∧ D16 s.2 ∧ (∀ j, s.1 + ys.length ≤ j → g64 s.2 j = 0) ∧ nv16 s.2 = nv16 (xs.take s.1) * nv16 ys
theorem mrow_start {P0 i n : Nat} {x : U64} {ys q : List U64} (hl : q.length = n) (hd : D16 q) (hz : ∀ j, i + ys.length ≤ j → g64 q j = 0) (hv : nv16 q = P0) : MRowI P0 x i n ys (0, q, 0) := by
  refine ⟨Nat.zero_le _, hl, hd, by dsimp only; decide, hz, ?_⟩
  simp [nv16, hv]
theorem mrow_step {P0 : Nat} {x c : U64} {i k n : Nat} {ys q : List U64} (hyd : D16 ys) (hx : x.toNat < 65536) (hi : i + ys.length < n) (hk : k < ys.length) (h : MRowI P0 x i n ys (k, q, c)) :
    MRowI P0 x i n ys (k + 1, q.set (i + k) ((c + g64 q (i + k) + x * g64 ys k) % 65536#64), (c + g64 q (i + k) + x * g64 ys k) / 65536#64) := by
  obtain ⟨h1, h2, hD, hc, h3, h4⟩ := h
  dsimp only at h1 h2 hD hc h3 h4
  obtain ⟨hm, hb⟩ := mul_mac hc (hD.get (i + k)) hx (hyd.get k)
  have hs := nv16_set q (i + k) ((c + g64 q (i + k) + x * g64 ys k) % 65536#64) (by omega)
  have hm1 : ((c + g64 q (i + k) + x * g64 ys k) % 65536#64).toNat < 65536 := by rw [mod16]; omega
  have hg := hD.get (i + k)
  have hm2 : ((c + g64 q (i + k) + x * g64 ys k) / 65536#64).toNat < 65536 := by rw [div16, hm]; generalize x.toNat * (g64 ys k).toNat = E at *; omega
  refine ⟨by dsimp only; omega, by simp [h2], hD.set _ hm1, hm2, fun j hj => ?_, ?_⟩
  · dsimp only
    rw [g64_set_ne16 (by omega)]; exact h3 j hj
  · dsimp only
    have hsum : ((c + g64 q (i + k) + x * g64 ys k) % 65536#64).toNat + 65536 * ((c + g64 q (i + k) + x * g64 ys k) / 65536#64).toNat = x.toNat * (g64 ys k).toNat + (g64 q (i + k)).toNat + c.toNat := by
      rw [mod16, div16, hm]; exact Nat.mod_add_div _ _
    generalize ((c + g64 q (i + k) + x * g64 ys k) % 65536#64) = v at *
    generalize (c + g64 q (i + k) + x * g64 ys k) / 65536#64 = c' at *
    rw [nv16_take_succ ys k, ← Nat.add_assoc, Nat.pow_succ, Nat.mul_add x.toNat, Nat.mul_add (65536 ^ i), Nat.mul_assoc]
    have e4 : 65536 ^ i * (x.toNat * (65536 ^ k * (g64 ys k).toNat)) = 65536 ^ (i + k) * (x.toNat * (g64 ys k).toNat) := by
      rw [Nat.pow_add, Nat.mul_left_comm x.toNat, Nat.mul_assoc]
    rw [e4]
    generalize 65536 ^ (i + k) = D at *
    have e3 : D * (v.toNat + 65536 * c'.toNat) = D * (x.toNat * (g64 ys k).toNat + (g64 q (i + k)).toNat + c.toNat) := by rw [hsum]
    rw [Nat.mul_add, Nat.mul_add, Nat.mul_add] at e3
    omega
theorem mprod_start (xs ys : List U64) : MProdI xs ys (0, List.replicate (xs.length + ys.length) 0) := by
  refine ⟨Nat.zero_le _, by simp, D16.zeros _, fun j _ => ?_, ?_⟩
  · dsimp only
    by_cases h : j < xs.length + ys.length <;> simp [g64, List.getD_eq_getElem?_getD, List.getElem?_replicate, h]
  · dsimp only; rw [nv16_zeros]; simp [nv16]
theorem mprod_step {xs ys p q : List U64} {c : U64} {i : Nat} (hi : i < xs.length) (hp : MProdI xs ys (i, p)) (h : MRowI (nv16 p) (g64 xs i) i (xs.length + ys.length) ys (ys.length, q, c)) : MProdI xs ys (i + 1, q.set (i + ys.length) c) := by
  obtain ⟨-, -, -, -, hv⟩ := hp
  obtain ⟨h1, h2, hD, hc, h3, h4⟩ := h
  dsimp only at hv h1 h2 hD hc h3 h4
  have hs := nv16_set q (i + ys.length) c (by omega)
  rw [h3 (i + ys.length) (by omega)] at hs
  rw [List.take_of_length_le (l := ys) (by omega)] at h4
  refine ⟨by dsimp only; omega, by simp [h2], hD.set _ hc, fun j hj => ?_, ?_⟩
  · dsimp only at hj ⊢
    rw [g64_set_ne16 (by omega)]; exact h3 j (by omega)
  · dsimp only
    rw [nv16_take_succ xs i, Nat.add_mul, ← hv, Nat.mul_assoc]
    simp only [show ((0 : U64).toNat) = 0 from rfl, Nat.mul_zero, Nat.add_zero] at hs
    omega
theorem mprod_end {xs ys p : List U64} (h : MProdI xs ys (xs.length, p)) : D16 p ∧ p.length = xs.length + ys.length ∧ nv16 p = nv16 xs * nv16 ys := by
  obtain ⟨h1, h2, hD, h3, h4⟩ := h
  dsimp only at h1 h2 hD h3 h4
  rw [List.take_of_length_le (l := xs) (by omega)] at h4
  exact ⟨hD, h2, h4⟩
def n6 : CTab := fun F => match F with
  | 127 => .fn cTrim
  | 132 => .fn cDigit
  | 92 => .fn cDigits
  | 91 => .fn cWhole
  | 113 => .fn cCompare
  | 66 => .fn cCmp
  | 130 => .fn cTimes
  | 129 => .fn cLess
  | _ => .fn noCT
theorem n6_ok : CTok Try.prog n6 := by
  intro F
  unfold n6
  split
  · exact sTrim
  · exact sDigit
  · exact sDigits
  · exact sWhole
  · exact sCompare
  · exact sCmpR
  · exact sTimes
  · exact sLess
  · exact sound_none _ _
set_option maxRecDepth 100000 in
set_option maxHeartbeats 1000000 in
theorem sMulR : Sound Try.prog 80 cMulR := by
  refine sound_vc (tt := tt) (ct := n6) ttok n6_ok mixed Try.func80 rfl (by decide) (rs := [.tmp 4]) rfl (ts := [23]) (k := 0) ?_
  intro cas K h
  unfold cMulR at h
  split at h
  · rename_i a b
    rw [Try.ntmps80]
    refine ⟨by simp, ?_⟩
    obtain ⟨⟨ha, hb⟩, h⟩ := h
    simp (maxSteps := 10000000) (implicitDefEqProofs := false) only [↓both_true, ↓both_false, ↓entryVC, ↓vc_skip, ↓vc_draw, ↓vc_list, ↓vc_seq, ↓vc_seqn, ↓vc_seqe, ↓vc_seqr, ↓vc_cond, ↓condVC, ↓vc_block, ↓vc_blockn, ↓vc_blockr, ↓vc_blocke, ↓vc_loop, ↓vc_exit, ↓vc_ret, ↓vc_loopn, ↓vc_loope, ↓vc_loopr, ↓vcl_nil, ↓vcl_cons, ↓lw_eq, ↓listVC, ↓memK, ↓memR, ↓envOf, ↓guardVC, ↓opVC, ↓pureVC, ↓binT, ↓wrapT, ↓TDsc.isW, ↓binW, ↓binVC, ↓bin8, ↓bin32, ↓bin64, ↓binInt, ↓shVC, ↓unVC, ↓cvVC, ↓rdVC, ↓loadVC, ↓pickC, ↓fillVC, ↓bndVC, ↓sliceVC, ↓bltVC, ↓storeVC, ↓appVC, ↓apzVC, ↓markVC, ↓copyVC, ↓callVC, ↓argsVC, ↓argVC, ↓bindR, ↓bindR1, ↓bindRs, ↓retW_eq, ↓extW_eq, ↓rowW_eq, ↓aggW_eq, ↓plv_nil, ↓plv_tk, ↓plv_fz, ↓plv_ld, ↓pt_eq, ↓pz_eq, ↓pl_eq, ↓delAll, ↓keepM_nil, ↓keepM, ↓extE, ↓extM, ↓leS, ↓leA, ↓retVC, ↓retR, ↓resVC, ↓resV1, ↓ressVC, ↓strU, ↓xAdd64, ↓xSub64, ↓vc_jn, ↓vc_je, ↓vc_jr, ↓pickA, ↓stU_env, ↓stU_mem, frz, both_true, both_false, both_dec, both_ndec, ev, absC, getA, setA, delA, tt, AV.good, AV.plain, AV.isSl, AV.cells, AV.one, Cells.len, Cells.get, Cells.sub, Cells.part, Cells.agg, Cells.upd, Cells.set, Cells.cat, Cells.rep, Cells.ones, TDsc.agg, zOf, putE, dstB, letGo, quietOp, slotOp, pickA, true_or, or_true, List.append_eq, Int.cast_ofNat_Int, List.any_cons, List.any_nil, beq_iff_eq, Bool.decide_eq_true, Option.getD_some, Option.getD_none, Option.map_some, Option.map_none, Option.bind_some, Option.isSome_some, Option.isNone_some, Option.isNone_none, Option.isSome_none, ↓reduceIte, Nat.reduceEqDiff, Nat.reduceLT, Nat.reduceLeDiff, Nat.reduceAdd, Nat.reduceSub, Nat.reduceMul, Nat.reduceBEq, Int.reduceLE, Int.reduceLT, Int.reduceToNat, Int.reduceNeg, BitVec.reduceToNat, decide_true, decide_false, and_true, true_and, and_self, Bool.or_true, Bool.true_or, Bool.or_false, Bool.false_or, Bool.not_true, Bool.not_false, List.map_cons, List.map_nil, List.length_cons, List.length_nil, List.getElem?_toArray, List.getElem?_cons_zero, List.getElem?_cons_succ, List.getElem?_nil, forall_const, true_implies, reduceCtorEq, false_and, and_false, false_implies, implies_true, Bool.false_eq_true, Bool.true_eq_false, ne_eq, not_true, not_false_iff, Nat.sub_zero, Nat.zero_add, Nat.add_zero, List.drop_zero, List.drop_succ_cons, List.drop_nil, List.take_zero, List.take_succ_cons, List.take_nil, List.set_cons_zero, List.set_cons_succ, List.nil_append, List.cons_append, List.append_nil, List.replicate_zero, List.replicate_succ, BitVec.ofNat_eq_ofNat, Option.some.injEq, AV.int.injEq, AV.u64.injEq, AV.u32.injEq, AV.u8.injEq, AV.bool.injEq, AV.a64.injEq, AV.a32.injEq, AV.a8.injEq, Nat.zero_le, Int.toNat_natCast, n6, cTrim, cDigit, cDigits, cWhole, cCompare, cCmp, cTimes, cLess, ha, hb]
    intro A ca hca B cb hcb
    repeat (refine And.intro (by first | omega | (simp only [intIn]; omega) | decide) ?_)
    intro x hx hxv hxl A2 c2 hc2
    repeat (refine And.intro (by first | omega | (simp only [intIn]; omega) | decide) ?_)
    intro y hy hyv hyl A3 c3 hc3
    repeat (refine And.intro (by first | omega | (simp only [intIn]; omega) | decide) ?_)
    intro g
    have e0 : ((x.length : Int) + (y.length : Int)).toNat = x.length + y.length := by omega
    rw [e0]
    have hxm : x.length ≤ 10000 := by omega
    have hym : y.length ≤ 10000 := by omega
    refine loopU _ _ _ [5, 6, 7] [0, 1, 2, 3] 5 (ι := {s : Nat × List U64 // MProdI x y s}) (fun s => [(8, .int (s.1.1 : Int))]) (fun s => [(4, .own g 37 (.c64 s.1.2))]) (fun s => x.length - s.1.1) ?_ ?_
    · refine LeJ.mk ⟨(0, List.replicate (x.length + y.length) 0), mprod_start x y⟩ trivial ?_
      simp (maxSteps := 1000000) only [leS, leA, stU_env, stU_mem, pickA, getA, delA, setA, Cells.part, Cells.len, List.take_nil, List.drop_nil, List.length_nil, Nat.zero_add, ↓reduceIte, Nat.reduceEqDiff, Option.some.injEq, List.nil_append, List.cons_append, true_and, and_true, and_self, reduceCtorEq, AV.int.injEq, ME.own.injEq, ME.row.injEq, Cells.c32.injEq, Cells.c64.injEq, Cells.c8.injEq, AV.ptr.injEq, AV.ros.injEq, AV.grow.injEq, AV.u64.injEq, AV.u32.injEq]
      try exact ⟨rfl, rfl⟩
    · rintro ⟨⟨i, p⟩, hI⟩
      obtain ⟨hk, hl, hD, -⟩ := id hI
      dsimp only at hk hl hD
      simp (maxSteps := 10000000) (implicitDefEqProofs := false) only [↓both_true, ↓both_false, ↓entryVC, ↓vc_skip, ↓vc_draw, ↓vc_list, ↓vc_seq, ↓vc_seqn, ↓vc_seqe, ↓vc_seqr, ↓vc_cond, ↓condVC, ↓vc_block, ↓vc_blockn, ↓vc_blockr, ↓vc_blocke, ↓vc_loop, ↓vc_exit, ↓vc_ret, ↓vc_loopn, ↓vc_loope, ↓vc_loopr, ↓vcl_nil, ↓vcl_cons, ↓lw_eq, ↓listVC, ↓memK, ↓memR, ↓envOf, ↓guardVC, ↓opVC, ↓pureVC, ↓binT, ↓wrapT, ↓TDsc.isW, ↓binW, ↓binVC, ↓bin8, ↓bin32, ↓bin64, ↓binInt, ↓shVC, ↓unVC, ↓cvVC, ↓rdVC, ↓loadVC, ↓pickC, ↓fillVC, ↓bndVC, ↓sliceVC, ↓bltVC, ↓storeVC, ↓appVC, ↓apzVC, ↓markVC, ↓copyVC, ↓callVC, ↓argsVC, ↓argVC, ↓bindR, ↓bindR1, ↓bindRs, ↓retW_eq, ↓extW_eq, ↓rowW_eq, ↓aggW_eq, ↓plv_nil, ↓plv_tk, ↓plv_fz, ↓plv_ld, ↓pt_eq, ↓pz_eq, ↓pl_eq, ↓delAll, ↓keepM_nil, ↓keepM, ↓extE, ↓extM, ↓leS, ↓leA, ↓retVC, ↓retR, ↓resVC, ↓resV1, ↓ressVC, ↓strU, ↓xAdd64, ↓xSub64, ↓vc_jn, ↓vc_je, ↓vc_jr, ↓pickA, ↓stU_env, ↓stU_mem, frz, both_true, both_false, both_dec, both_ndec, ev, absC, getA, setA, delA, tt, AV.good, AV.plain, AV.isSl, AV.cells, AV.one, Cells.len, Cells.get, Cells.sub, Cells.part, Cells.agg, Cells.upd, Cells.set, Cells.cat, Cells.rep, Cells.ones, TDsc.agg, zOf, putE, dstB, letGo, quietOp, slotOp, pickA, true_or, or_true, List.append_eq, Int.cast_ofNat_Int, List.any_cons, List.any_nil, beq_iff_eq, Bool.decide_eq_true, Option.getD_some, Option.getD_none, Option.map_some, Option.map_none, Option.bind_some, Option.isSome_some, Option.isNone_some, Option.isNone_none, Option.isSome_none, ↓reduceIte, Nat.reduceEqDiff, Nat.reduceLT, Nat.reduceLeDiff, Nat.reduceAdd, Nat.reduceSub, Nat.reduceMul, Nat.reduceBEq, Int.reduceLE, Int.reduceLT, Int.reduceToNat, Int.reduceNeg, BitVec.reduceToNat, decide_true, decide_false, and_true, true_and, and_self, Bool.or_true, Bool.true_or, Bool.or_false, Bool.false_or, Bool.not_true, Bool.not_false, List.map_cons, List.map_nil, List.length_cons, List.length_nil, List.getElem?_toArray, List.getElem?_cons_zero, List.getElem?_cons_succ, List.getElem?_nil, forall_const, true_implies, reduceCtorEq, false_and, and_false, false_implies, implies_true, Bool.false_eq_true, Bool.true_eq_false, ne_eq, not_true, not_false_iff, Nat.sub_zero, Nat.zero_add, Nat.add_zero, List.drop_zero, List.drop_succ_cons, List.drop_nil, List.take_zero, List.take_succ_cons, List.take_nil, List.set_cons_zero, List.set_cons_succ, List.nil_append, List.cons_append, List.append_nil, List.replicate_zero, List.replicate_succ, BitVec.ofNat_eq_ofNat, Option.some.injEq, AV.int.injEq, AV.u64.injEq, AV.u32.injEq, AV.u8.injEq, AV.bool.injEq, AV.a64.injEq, AV.a32.injEq, AV.a8.injEq, Nat.zero_le, Int.toNat_natCast, n6, cTrim, cDigit, cDigits, cWhole, cCompare, cCmp, cTimes, cLess]
      refine ⟨fun hlt => ?_, fun hge => ?_⟩
      · have hlt : i < x.length := by omega
        refine loopU _ _ _ [5, 6, 7, 8] [0, 1, 2, 3] 5 (ι := {s : Nat × List U64 × U64 // MRowI (nv16 p) (g64 x i) i (x.length + y.length) y s}) (fun s => [(10, .int (s.1.1 : Int)), (9, .u64 s.1.2.2)]) (fun s => [(4, .own g 37 (.c64 s.1.2.1))]) (fun s => y.length - s.1.1) ?_ ?_
        · refine LeJ.mk ⟨(0, p, 0), mrow_start hl hD hI.2.2.2.1 rfl⟩ trivial ?_
          simp (maxSteps := 1000000) only [leS, leA, stU_env, stU_mem, pickA, getA, delA, setA, Cells.part, Cells.len, List.take_nil, List.drop_nil, List.length_nil, Nat.zero_add, ↓reduceIte, Nat.reduceEqDiff, Option.some.injEq, List.nil_append, List.cons_append, true_and, and_true, and_self, reduceCtorEq, AV.int.injEq, ME.own.injEq, ME.row.injEq, Cells.c32.injEq, Cells.c64.injEq, Cells.c8.injEq, AV.ptr.injEq, AV.ros.injEq, AV.grow.injEq, AV.u64.injEq, AV.u32.injEq]
          try exact ⟨rfl, rfl⟩
        · rintro ⟨⟨k, q, c⟩, hJ⟩
          obtain ⟨hk2, hl2, hD2, -⟩ := id hJ
          dsimp only at hk2 hl2 hD2
          simp (maxSteps := 10000000) (implicitDefEqProofs := false) only [↓both_true, ↓both_false, ↓entryVC, ↓vc_skip, ↓vc_draw, ↓vc_list, ↓vc_seq, ↓vc_seqn, ↓vc_seqe, ↓vc_seqr, ↓vc_cond, ↓condVC, ↓vc_block, ↓vc_blockn, ↓vc_blockr, ↓vc_blocke, ↓vc_loop, ↓vc_exit, ↓vc_ret, ↓vc_loopn, ↓vc_loope, ↓vc_loopr, ↓vcl_nil, ↓vcl_cons, ↓lw_eq, ↓listVC, ↓memK, ↓memR, ↓envOf, ↓guardVC, ↓opVC, ↓pureVC, ↓binT, ↓wrapT, ↓TDsc.isW, ↓binW, ↓binVC, ↓bin8, ↓bin32, ↓bin64, ↓binInt, ↓shVC, ↓unVC, ↓cvVC, ↓rdVC, ↓loadVC, ↓pickC, ↓fillVC, ↓bndVC, ↓sliceVC, ↓bltVC, ↓storeVC, ↓appVC, ↓apzVC, ↓markVC, ↓copyVC, ↓callVC, ↓argsVC, ↓argVC, ↓bindR, ↓bindR1, ↓bindRs, ↓retW_eq, ↓extW_eq, ↓rowW_eq, ↓aggW_eq, ↓plv_nil, ↓plv_tk, ↓plv_fz, ↓plv_ld, ↓pt_eq, ↓pz_eq, ↓pl_eq, ↓delAll, ↓keepM_nil, ↓keepM, ↓extE, ↓extM, ↓leS, ↓leA, ↓retVC, ↓retR, ↓resVC, ↓resV1, ↓ressVC, ↓strU, ↓xAdd64, ↓xSub64, ↓vc_jn, ↓vc_je, ↓vc_jr, ↓pickA, ↓stU_env, ↓stU_mem, frz, both_true, both_false, both_dec, both_ndec, ev, absC, getA, setA, delA, tt, AV.good, AV.plain, AV.isSl, AV.cells, AV.one, Cells.len, Cells.get, Cells.sub, Cells.part, Cells.agg, Cells.upd, Cells.set, Cells.cat, Cells.rep, Cells.ones, TDsc.agg, zOf, putE, dstB, letGo, quietOp, slotOp, pickA, true_or, or_true, List.append_eq, Int.cast_ofNat_Int, List.any_cons, List.any_nil, beq_iff_eq, Bool.decide_eq_true, Option.getD_some, Option.getD_none, Option.map_some, Option.map_none, Option.bind_some, Option.isSome_some, Option.isNone_some, Option.isNone_none, Option.isSome_none, ↓reduceIte, Nat.reduceEqDiff, Nat.reduceLT, Nat.reduceLeDiff, Nat.reduceAdd, Nat.reduceSub, Nat.reduceMul, Nat.reduceBEq, Int.reduceLE, Int.reduceLT, Int.reduceToNat, Int.reduceNeg, BitVec.reduceToNat, decide_true, decide_false, and_true, true_and, and_self, Bool.or_true, Bool.true_or, Bool.or_false, Bool.false_or, Bool.not_true, Bool.not_false, List.map_cons, List.map_nil, List.length_cons, List.length_nil, List.getElem?_toArray, List.getElem?_cons_zero, List.getElem?_cons_succ, List.getElem?_nil, forall_const, true_implies, reduceCtorEq, false_and, and_false, false_implies, implies_true, Bool.false_eq_true, Bool.true_eq_false, ne_eq, not_true, not_false_iff, Nat.sub_zero, Nat.zero_add, Nat.add_zero, List.drop_zero, List.drop_succ_cons, List.drop_nil, List.take_zero, List.take_succ_cons, List.take_nil, List.set_cons_zero, List.set_cons_succ, List.nil_append, List.cons_append, List.append_nil, List.replicate_zero, List.replicate_succ, BitVec.ofNat_eq_ofNat, Option.some.injEq, AV.int.injEq, AV.u64.injEq, AV.u32.injEq, AV.u8.injEq, AV.bool.injEq, AV.a64.injEq, AV.a32.injEq, AV.a8.injEq, Nat.zero_le, Int.toNat_natCast, n6, cTrim, cDigit, cDigits, cWhole, cCompare, cCmp, cTimes, cLess]
          have e1 : ((i : Int) + (k : Int)).toNat = i + k := by omega
          refine ⟨fun hlt2 => ?_, fun hge2 => ?_⟩
          · have hlt2 : k < y.length := by omega
            refine draw_ _ _ _ [(.fz, 0), (.fz, 1), (.fz, 2), (.fz, 3), (.fz, 4), (.fz, 8), (.fz, 9), (.fz, 12), (.fz, 13), (.tk, 5), (.tk, 6), (.fz, 7), (.tk, 10), (.tk, 11), (.tk, 14), (.tk, 15), (.fz, 16), (.fz, 17), (.fz, 18)] [] [0, 1, 2, 3, 4] (by kernel_rfl) ?_
            simp (maxSteps := 10000000) (implicitDefEqProofs := false) only [↓both_true, ↓both_false, ↓entryVC, ↓vc_skip, ↓vc_draw, ↓vc_list, ↓vc_seq, ↓vc_seqn, ↓vc_seqe, ↓vc_seqr, ↓vc_cond, ↓condVC, ↓vc_block, ↓vc_blockn, ↓vc_blockr, ↓vc_blocke, ↓vc_loop, ↓vc_exit, ↓vc_ret, ↓vc_loopn, ↓vc_loope, ↓vc_loopr, ↓vcl_nil, ↓vcl_cons, ↓lw_eq, ↓listVC, ↓memK, ↓memR, ↓envOf, ↓guardVC, ↓opVC, ↓pureVC, ↓binT, ↓wrapT, ↓TDsc.isW, ↓binW, ↓binVC, ↓bin8, ↓bin32, ↓bin64, ↓binInt, ↓shVC, ↓unVC, ↓cvVC, ↓rdVC, ↓loadVC, ↓pickC, ↓fillVC, ↓bndVC, ↓sliceVC, ↓bltVC, ↓storeVC, ↓appVC, ↓apzVC, ↓markVC, ↓copyVC, ↓callVC, ↓argsVC, ↓argVC, ↓bindR, ↓bindR1, ↓bindRs, ↓retW_eq, ↓extW_eq, ↓rowW_eq, ↓aggW_eq, ↓plv_nil, ↓plv_tk, ↓plv_fz, ↓plv_ld, ↓pt_eq, ↓pz_eq, ↓pl_eq, ↓delAll, ↓keepM_nil, ↓keepM, ↓extE, ↓extM, ↓leS, ↓leA, ↓retVC, ↓retR, ↓resVC, ↓resV1, ↓ressVC, ↓strU, ↓xAdd64, ↓xSub64, ↓vc_jn, ↓vc_je, ↓vc_jr, ↓pickA, ↓stU_env, ↓stU_mem, frz, both_true, both_false, both_dec, both_ndec, ev, absC, getA, setA, delA, tt, AV.good, AV.plain, AV.isSl, AV.cells, AV.one, Cells.len, Cells.get, Cells.sub, Cells.part, Cells.agg, Cells.upd, Cells.set, Cells.cat, Cells.rep, Cells.ones, TDsc.agg, zOf, putE, dstB, letGo, quietOp, slotOp, pickA, true_or, or_true, List.append_eq, Int.cast_ofNat_Int, List.any_cons, List.any_nil, beq_iff_eq, Bool.decide_eq_true, Option.getD_some, Option.getD_none, Option.map_some, Option.map_none, Option.bind_some, Option.isSome_some, Option.isNone_some, Option.isNone_none, Option.isSome_none, ↓reduceIte, Nat.reduceEqDiff, Nat.reduceLT, Nat.reduceLeDiff, Nat.reduceAdd, Nat.reduceSub, Nat.reduceMul, Nat.reduceBEq, Int.reduceLE, Int.reduceLT, Int.reduceToNat, Int.reduceNeg, BitVec.reduceToNat, decide_true, decide_false, and_true, true_and, and_self, Bool.or_true, Bool.true_or, Bool.or_false, Bool.false_or, Bool.not_true, Bool.not_false, List.map_cons, List.map_nil, List.length_cons, List.length_nil, List.getElem?_toArray, List.getElem?_cons_zero, List.getElem?_cons_succ, List.getElem?_nil, forall_const, true_implies, reduceCtorEq, false_and, and_false, false_implies, implies_true, Bool.false_eq_true, Bool.true_eq_false, ne_eq, not_true, not_false_iff, Nat.sub_zero, Nat.zero_add, Nat.add_zero, List.drop_zero, List.drop_succ_cons, List.drop_nil, List.take_zero, List.take_succ_cons, List.take_nil, List.set_cons_zero, List.set_cons_succ, List.nil_append, List.cons_append, List.append_nil, List.replicate_zero, List.replicate_succ, BitVec.ofNat_eq_ofNat, Option.some.injEq, AV.int.injEq, AV.u64.injEq, AV.u32.injEq, AV.u8.injEq, AV.bool.injEq, AV.a64.injEq, AV.a32.injEq, AV.a8.injEq, Nat.zero_le, Int.toNat_natCast, n6, cTrim, cDigit, cDigits, cWhole, cCompare, cCmp, cTimes, cLess]
            repeat (refine And.intro (by first | omega | (simp only [intIn]; omega) | decide) ?_)
            rw [e1]
            refine LeJ.mk ⟨(k + 1, _, _), mrow_step hy.dig (hx.dig.get i) (by omega) hlt2 hJ⟩ (by dsimp only; omega) ?_
            simp (maxSteps := 1000000) only [leS, leA, stU_env, stU_mem, pickA, getA, delA, setA, Cells.part, Cells.len, List.take_nil, List.drop_nil, List.length_nil, Nat.zero_add, ↓reduceIte, Nat.reduceEqDiff, Option.some.injEq, List.nil_append, List.cons_append, true_and, and_true, and_self, reduceCtorEq, AV.int.injEq, ME.own.injEq, ME.row.injEq, Cells.c32.injEq, Cells.c64.injEq, Cells.c8.injEq, AV.ptr.injEq, AV.ros.injEq, AV.grow.injEq, AV.u64.injEq, AV.u32.injEq]
            try omega
          · obtain rfl : k = y.length := by omega
            repeat (refine And.intro (by first | omega | (simp only [intIn]; omega) | decide) ?_)
            rw [e1]
            refine LeJ.mk ⟨(i + 1, _), mprod_step hlt hI hJ⟩ (by dsimp only; omega) ?_
            simp (maxSteps := 1000000) only [leS, leA, stU_env, stU_mem, pickA, getA, delA, setA, Cells.part, Cells.len, List.take_nil, List.drop_nil, List.length_nil, Nat.zero_add, ↓reduceIte, Nat.reduceEqDiff, Option.some.injEq, List.nil_append, List.cons_append, true_and, and_true, and_self, reduceCtorEq, AV.int.injEq, ME.own.injEq, ME.row.injEq, Cells.c32.injEq, Cells.c64.injEq, Cells.c8.injEq, AV.ptr.injEq, AV.ros.injEq, AV.grow.injEq, AV.u64.injEq, AV.u32.injEq]
            try omega
      · obtain rfl : i = x.length := by omega
        obtain ⟨hpd, hpl, hpv⟩ := mprod_end hI
        rw [List.take_of_length_le (l := p) (by omega)]
        repeat (refine And.intro (by first | omega | (simp only [intIn]; omega) | decide) ?_)
        refine ⟨⟨hpd, by omega⟩, fun e he hev hel c4 hc4 => ?_⟩
        exact h e he (by rw [hev, hpv, hxv, hyv]) (by omega)
  · exact h.elim

theorem shl16 {m : Nat} (h : m < 16) : ((1#64 : U64) <<< m).toNat = 2 ^ m := by
  rw [BitVec.toNat_shiftLeft, Nat.shiftLeft_eq, show (1#64 : U64).toNat = 1 from rfl, Nat.one_mul]
  exact Nat.mod_eq_of_lt (Nat.pow_lt_pow_right (by decide) (by omega))
theorem shl_val {n : Nat} : 65536 ^ (n / 16) * 2 ^ (n % 16) = 2 ^ n := by
  rw [show (65536 : Nat) = 2 ^ 16 from rfl, ← Nat.pow_mul, ← Nat.pow_add, Nat.div_add_mod]
end Go.Proofs.Ytkpbjkhgiackpaa
