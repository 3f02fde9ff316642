/- The hashes' closures, by the engine. -/
import Derived.Test.YtlcaobnojbkmbaaEng3
import Derived.Test.YtlcaobnojbkmbaaHe07
import Derived.Test.YtlcaobnojbkmbaaHe08
import Derived.Test.YtlcaobnojbkmbaaShr1
namespace Go.Proofs.Ytlcaobnojbkmbaa
open Go Go.RowKit
set_option linter.unusedVariables false
set_option linter.unusedSimpArgs false

theorem mixed : Try.prog.follows .mixedOrders = true := by kernel_rfl
/-- Places filled one by one. -/
def fillO (f : Nat → U8) (n : Nat) : Nat → List U8
  | 0 => z8 n
  | k + 1 => (fillO f n k).set k (f k)
theorem fillO_length (f : Nat → U8) (n k : Nat) : (fillO f n k).length = n := by
  induction k with
  | zero => exact z8_length n
  | succ k ih => simp [fillO, ih]
theorem fillO_get (f : Nat → U8) (n : Nat) : ∀ k, k ≤ n → ∀ i, i < k → (fillO f n k)[i]? = some (f i)
  | 0, _, i, h => by omega
  | k + 1, hk, i, h => by
    simp only [fillO, List.getElem?_set, fillO_length]
    by_cases hi : k = i
    · subst hi; simp; omega
    · rw [if_neg hi]; exact fillO_get f n k (by omega) i (by omega)
theorem fillO_all (f : Nat → U8) (n : Nat) : fillO f n n = (List.range n).map f := by
  apply List.ext_getElem?
  intro i
  by_cases hi : i < n
  · rw [fillO_get f n n (Nat.le_refl _) i hi]; simp [hi]
  · rw [List.getElem?_eq_none (by rw [fillO_length]; omega), List.getElem?_eq_none (by simp; omega)]
def outS32 (ws : List U32) (i : Nat) : U8 := ((g32 ws (i / 4)).setWidth 64 >>> (8 * (4 - 1 - i % 4))).setWidth 8
def outS64 (ws : List U64) (i : Nat) : U8 := (g64 ws (i / 8) >>> (8 * (8 - 1 - i % 8))).setWidth 8
def cSpell32 : CT := fun cas K => match cas with
  | [.s (.c32 ws), .v (.int w), .v (.int n)] => (w = 4 ∧ 0 ≤ n ∧ n ≤ 4 * ws.length ∧ ws.length ≤ 100) ∧ K (.one (.s (.c8 ((List.range n.toNat).map (outS32 ws)))))
  | _ => False
def cSpell64 : CT := fun cas K => match cas with
  | [.s (.c64 ws), .v (.int w), .v (.int n)] => (w = 8 ∧ 0 ≤ n ∧ n ≤ 8 * ws.length ∧ ws.length ≤ 100) ∧ K (.one (.s (.c8 ((List.range n.toNat).map (outS64 ws)))))
  | _ => False
def g0 : CTab := fun F => match F with
  | _ => .fn noCT
theorem g0_ok : CTok Try.prog g0 := by
  intro F
  unfold g0
  split
  · exact sound_none _ _
set_option maxRecDepth 100000 in
set_option maxHeartbeats 1000000 in
theorem sSpell32 : Sound Try.prog 36 cSpell32 := by
  refine sound_vc (tt := tt) (ct := g0) ttok g0_ok mixed Try.func36 rfl (by decide) (rs := [.tmp 6]) rfl (ts := [22]) (k := 0) ?_
  intro cas K h
  unfold cSpell32 at h
  split at h
  · rename_i ws w n
    rw [Try.ntmps36]
    refine ⟨by simp, ?_⟩
    obtain ⟨⟨rfl, h0, hn, hl⟩, h⟩ := h
    obtain ⟨n, rfl⟩ : ∃ m : Nat, n = m := ⟨n.toNat, by omega⟩
    rw [Int.toNat_natCast] at h
    simp (maxSteps := 10000000) (implicitDefEqProofs := false) only [↓qaa, ↓qab, ↓qac, ↓qad, ↓qae, ↓qaf, ↓qag, qah, qai, qaj, qak, qal, qam, qan, qao, qap, qaq, qar, qas, qat, ↓entryVC, ↓condVC, ↓listVC, ↓memK, ↓memR, ↓envOf, ↓guardVC, ↓opVC, ↓pureVC, ↓binT, ↓wrapT, ↓TDsc.isW, ↓binW, ↓binVC, ↓bin8, ↓bin32, ↓bin64, ↓binInt, ↓shVC, ↓unVC, ↓cvVC, ↓rdVC, ↓loadVC, ↓pickC, ↓fillVC, ↓bndVC, ↓sliceVC, ↓bltVC, ↓storeVC, ↓appVC, ↓apzVC, ↓markVC, ↓copyVC, ↓callVC, ↓argsVC, ↓argVC, ↓bindR, ↓bindR1, ↓bindRs, ↓memVC, ↓delAll, ↓keepM, ↓extE, ↓extM, ↓leS, ↓leA, ↓retVC, ↓retR, ↓resVC, ↓resV1, ↓ressVC, ↓strU, ↓xAdd64, ↓xSub64, ↓pickA, frz, frzs, ev, absC, getA, setA, delA, tt, AV.good, AV.plain, AV.isSl, AV.cells, AV.one, Cells.len, Cells.get, Cells.sub, Cells.part, Cells.agg, Cells.upd, Cells.set, Cells.cat, Cells.rep, Cells.ones, TDsc.agg, zOf, putE, dstB, letGo, quietOp, slotOp, AV.isRp, rpVC, whoOf, mthOf, nilVC, TDsc.isP, storeGVC, pickA, ↓reduceIte, Nat.reduceEqDiff, Nat.reduceLT, Nat.reduceLeDiff, Nat.reduceAdd, Nat.reduceSub, Nat.reduceMul, Nat.reduceBEq, Int.reduceLE, Int.reduceLT, Int.reduceToNat, Int.reduceNeg, BitVec.reduceToNat, forall_const, reduceCtorEq, implies_true, ne_eq, memK2, memR2, g0]
    intro A c hc
    repeat (refine And.intro (by first | omega | (simp only [intIn]; omega) | decide) ?_)
    intro g
    refine loopU _ _ _ [0, 1, 7, 12] [0] 4 (ι := {k : Nat // k ≤ n}) (fun s => [(13, .int (s.1 : Int))]) (fun s => [(3, .own g 5 (.c8 (fillO (outS32 ws) n s.1)))]) (fun s => n - s.1) ?_ ?_
    · refine LeJ.mk ⟨0, by omega⟩ trivial ?_
      simp (maxSteps := 1000000) only [leS, leA, stU_env, stU_mem, pickA, getA, delA, setA, Cells.part, Cells.len, List.take_nil, List.drop_nil, List.length_nil, Nat.zero_add, ↓reduceIte, Nat.reduceEqDiff, Nat.reduceAdd, Nat.reduceLT, and_true, true_and, List.append_eq, List.nil_append, List.cons_append, Option.some.injEq, AV.int.injEq, ME.own.injEq, ME.row.injEq, ME.ro.injEq, Cells.c32.injEq, Cells.c64.injEq, Cells.c8.injEq, AV.ptr.injEq, AV.ros.injEq, AV.grow.injEq, AV.u64.injEq, AV.u32.injEq, AV.slc.injEq]
      first | done | exact ⟨rfl, rfl⟩ | skip
    · rintro ⟨k, hk⟩
      simp (maxSteps := 10000000) (implicitDefEqProofs := false) only [↓qaa, ↓qab, ↓qac, ↓qad, ↓qae, ↓qaf, ↓qag, qah, qai, qaj, qak, qal, qam, qan, qao, qap, qaq, qar, qas, qat, ↓entryVC, ↓condVC, ↓listVC, ↓memK, ↓memR, ↓envOf, ↓guardVC, ↓opVC, ↓pureVC, ↓binT, ↓wrapT, ↓TDsc.isW, ↓binW, ↓binVC, ↓bin8, ↓bin32, ↓bin64, ↓binInt, ↓shVC, ↓unVC, ↓cvVC, ↓rdVC, ↓loadVC, ↓pickC, ↓fillVC, ↓bndVC, ↓sliceVC, ↓bltVC, ↓storeVC, ↓appVC, ↓apzVC, ↓markVC, ↓copyVC, ↓callVC, ↓argsVC, ↓argVC, ↓bindR, ↓bindR1, ↓bindRs, ↓memVC, ↓delAll, ↓keepM, ↓extE, ↓extM, ↓leS, ↓leA, ↓retVC, ↓retR, ↓resVC, ↓resV1, ↓ressVC, ↓strU, ↓xAdd64, ↓xSub64, ↓pickA, frz, frzs, ev, absC, getA, setA, delA, tt, AV.good, AV.plain, AV.isSl, AV.cells, AV.one, Cells.len, Cells.get, Cells.sub, Cells.part, Cells.agg, Cells.upd, Cells.set, Cells.cat, Cells.rep, Cells.ones, TDsc.agg, zOf, putE, dstB, letGo, quietOp, slotOp, AV.isRp, rpVC, whoOf, mthOf, nilVC, TDsc.isP, storeGVC, pickA, ↓reduceIte, Nat.reduceEqDiff, Nat.reduceLT, Nat.reduceLeDiff, Nat.reduceAdd, Nat.reduceSub, Nat.reduceMul, Nat.reduceBEq, Int.reduceLE, Int.reduceLT, Int.reduceToNat, Int.reduceNeg, BitVec.reduceToNat, forall_const, reduceCtorEq, implies_true, ne_eq, memK2, memR2, g0]
      refine ⟨fun hlt => ?_, fun hge => ?_⟩
      · have e1 : ((k : Int) / 4).toNat = k / 4 := by omega
        have e2 : (8 * ((4 : Int) - 1 - (k : Int) % 4)).toNat = 8 * (4 - 1 - k % 4) := by omega
        refine draw_ _ _ _ [(.fz, 0), (.fz, 1), (.fz, 2), (.fz, 3), (.fz, 4), (.fz, 5), (.fz, 9), (.fz, 10), (.fz, 11), (.fz, 12), (.fz, 13), (.fz, 14), (.fz, 15), (.tk, 6), (.tk, 7), (.tk, 8), (.fz, 16), (.tk, 17), (.tk, 18), (.ld, 19)] [] [] (by kernel_rfl) ?_
        simp (maxSteps := 10000000) (implicitDefEqProofs := false) only [↓qaa, ↓qab, ↓qac, ↓qad, ↓qae, ↓qaf, ↓qag, qah, qai, qaj, qak, qal, qam, qan, qao, qap, qaq, qar, qas, qat, ↓entryVC, ↓condVC, ↓listVC, ↓memK, ↓memR, ↓envOf, ↓guardVC, ↓opVC, ↓pureVC, ↓binT, ↓wrapT, ↓TDsc.isW, ↓binW, ↓binVC, ↓bin8, ↓bin32, ↓bin64, ↓binInt, ↓shVC, ↓unVC, ↓cvVC, ↓rdVC, ↓loadVC, ↓pickC, ↓fillVC, ↓bndVC, ↓sliceVC, ↓bltVC, ↓storeVC, ↓appVC, ↓apzVC, ↓markVC, ↓copyVC, ↓callVC, ↓argsVC, ↓argVC, ↓bindR, ↓bindR1, ↓bindRs, ↓memVC, ↓delAll, ↓keepM, ↓extE, ↓extM, ↓leS, ↓leA, ↓retVC, ↓retR, ↓resVC, ↓resV1, ↓ressVC, ↓strU, ↓xAdd64, ↓xSub64, ↓pickA, frz, frzs, ev, absC, getA, setA, delA, tt, AV.good, AV.plain, AV.isSl, AV.cells, AV.one, Cells.len, Cells.get, Cells.sub, Cells.part, Cells.agg, Cells.upd, Cells.set, Cells.cat, Cells.rep, Cells.ones, TDsc.agg, zOf, putE, dstB, letGo, quietOp, slotOp, AV.isRp, rpVC, whoOf, mthOf, nilVC, TDsc.isP, storeGVC, pickA, ↓reduceIte, Nat.reduceEqDiff, Nat.reduceLT, Nat.reduceLeDiff, Nat.reduceAdd, Nat.reduceSub, Nat.reduceMul, Nat.reduceBEq, Int.reduceLE, Int.reduceLT, Int.reduceToNat, Int.reduceNeg, BitVec.reduceToNat, forall_const, reduceCtorEq, implies_true, ne_eq, memK2, memR2, g0]
        simp only [e1, e2, fillO_length]
        repeat (refine And.intro (by first | omega | (simp only [intIn]; omega) | decide) ?_)
        refine LeJ.mk ⟨k + 1, by omega⟩ (by dsimp only; omega) ?_
        simp (maxSteps := 1000000) only [leS, leA, stU_env, stU_mem, pickA, getA, delA, setA, Cells.part, Cells.len, List.take_nil, List.drop_nil, List.length_nil, Nat.zero_add, ↓reduceIte, Nat.reduceEqDiff, Nat.reduceAdd, Nat.reduceLT, and_true, true_and, List.append_eq, List.nil_append, List.cons_append, Option.some.injEq, AV.int.injEq, ME.own.injEq, ME.row.injEq, ME.ro.injEq, Cells.c32.injEq, Cells.c64.injEq, Cells.c8.injEq, AV.ptr.injEq, AV.ros.injEq, AV.grow.injEq, AV.u64.injEq, AV.u32.injEq, AV.slc.injEq]
        first | done | rfl | exact ⟨by omega, rfl⟩ | exact ⟨by omega, by omega, rfl⟩
      · obtain rfl : k = n := by omega
        rw [List.take_of_length_le (by rw [fillO_length]; omega), fillO_length]
        rw [fillO_all]
        exact ⟨⟨by omega, by omega, by omega⟩, h⟩
  · exact h.elim
set_option maxRecDepth 100000 in
set_option maxHeartbeats 1000000 in
theorem sSpell64 : Sound Try.prog 45 cSpell64 := by
  refine sound_vc (tt := tt) (ct := g0) ttok g0_ok mixed Try.func45 rfl (by decide) (rs := [.tmp 6]) rfl (ts := [22]) (k := 0) ?_
  intro cas K h
  unfold cSpell64 at h
  split at h
  · rename_i ws w n
    rw [Try.ntmps45]
    refine ⟨by simp, ?_⟩
    obtain ⟨⟨rfl, h0, hn, hl⟩, h⟩ := h
    obtain ⟨n, rfl⟩ : ∃ m : Nat, n = m := ⟨n.toNat, by omega⟩
    rw [Int.toNat_natCast] at h
    simp (maxSteps := 10000000) (implicitDefEqProofs := false) only [↓qaa, ↓qab, ↓qac, ↓qad, ↓qae, ↓qaf, ↓qag, qah, qai, qaj, qak, qal, qam, qan, qao, qap, qaq, qar, qas, qat, ↓entryVC, ↓condVC, ↓listVC, ↓memK, ↓memR, ↓envOf, ↓guardVC, ↓opVC, ↓pureVC, ↓binT, ↓wrapT, ↓TDsc.isW, ↓binW, ↓binVC, ↓bin8, ↓bin32, ↓bin64, ↓binInt, ↓shVC, ↓unVC, ↓cvVC, ↓rdVC, ↓loadVC, ↓pickC, ↓fillVC, ↓bndVC, ↓sliceVC, ↓bltVC, ↓storeVC, ↓appVC, ↓apzVC, ↓markVC, ↓copyVC, ↓callVC, ↓argsVC, ↓argVC, ↓bindR, ↓bindR1, ↓bindRs, ↓memVC, ↓delAll, ↓keepM, ↓extE, ↓extM, ↓leS, ↓leA, ↓retVC, ↓retR, ↓resVC, ↓resV1, ↓ressVC, ↓strU, ↓xAdd64, ↓xSub64, ↓pickA, frz, frzs, ev, absC, getA, setA, delA, tt, AV.good, AV.plain, AV.isSl, AV.cells, AV.one, Cells.len, Cells.get, Cells.sub, Cells.part, Cells.agg, Cells.upd, Cells.set, Cells.cat, Cells.rep, Cells.ones, TDsc.agg, zOf, putE, dstB, letGo, quietOp, slotOp, AV.isRp, rpVC, whoOf, mthOf, nilVC, TDsc.isP, storeGVC, pickA, ↓reduceIte, Nat.reduceEqDiff, Nat.reduceLT, Nat.reduceLeDiff, Nat.reduceAdd, Nat.reduceSub, Nat.reduceMul, Nat.reduceBEq, Int.reduceLE, Int.reduceLT, Int.reduceToNat, Int.reduceNeg, BitVec.reduceToNat, forall_const, reduceCtorEq, implies_true, ne_eq, memK2, memR2, g0]
    intro A c hc
    repeat (refine And.intro (by first | omega | (simp only [intIn]; omega) | decide) ?_)
    intro g
    refine loopU _ _ _ [0, 1, 7, 12] [0] 4 (ι := {k : Nat // k ≤ n}) (fun s => [(13, .int (s.1 : Int))]) (fun s => [(3, .own g 5 (.c8 (fillO (outS64 ws) n s.1)))]) (fun s => n - s.1) ?_ ?_
    · refine LeJ.mk ⟨0, by omega⟩ trivial ?_
      simp (maxSteps := 1000000) only [leS, leA, stU_env, stU_mem, pickA, getA, delA, setA, Cells.part, Cells.len, List.take_nil, List.drop_nil, List.length_nil, Nat.zero_add, ↓reduceIte, Nat.reduceEqDiff, Nat.reduceAdd, Nat.reduceLT, and_true, true_and, List.append_eq, List.nil_append, List.cons_append, Option.some.injEq, AV.int.injEq, ME.own.injEq, ME.row.injEq, ME.ro.injEq, Cells.c32.injEq, Cells.c64.injEq, Cells.c8.injEq, AV.ptr.injEq, AV.ros.injEq, AV.grow.injEq, AV.u64.injEq, AV.u32.injEq, AV.slc.injEq]
      first | done | exact ⟨rfl, rfl⟩ | skip
    · rintro ⟨k, hk⟩
      simp (maxSteps := 10000000) (implicitDefEqProofs := false) only [↓qaa, ↓qab, ↓qac, ↓qad, ↓qae, ↓qaf, ↓qag, qah, qai, qaj, qak, qal, qam, qan, qao, qap, qaq, qar, qas, qat, ↓entryVC, ↓condVC, ↓listVC, ↓memK, ↓memR, ↓envOf, ↓guardVC, ↓opVC, ↓pureVC, ↓binT, ↓wrapT, ↓TDsc.isW, ↓binW, ↓binVC, ↓bin8, ↓bin32, ↓bin64, ↓binInt, ↓shVC, ↓unVC, ↓cvVC, ↓rdVC, ↓loadVC, ↓pickC, ↓fillVC, ↓bndVC, ↓sliceVC, ↓bltVC, ↓storeVC, ↓appVC, ↓apzVC, ↓markVC, ↓copyVC, ↓callVC, ↓argsVC, ↓argVC, ↓bindR, ↓bindR1, ↓bindRs, ↓memVC, ↓delAll, ↓keepM, ↓extE, ↓extM, ↓leS, ↓leA, ↓retVC, ↓retR, ↓resVC, ↓resV1, ↓ressVC, ↓strU, ↓xAdd64, ↓xSub64, ↓pickA, frz, frzs, ev, absC, getA, setA, delA, tt, AV.good, AV.plain, AV.isSl, AV.cells, AV.one, Cells.len, Cells.get, Cells.sub, Cells.part, Cells.agg, Cells.upd, Cells.set, Cells.cat, Cells.rep, Cells.ones, TDsc.agg, zOf, putE, dstB, letGo, quietOp, slotOp, AV.isRp, rpVC, whoOf, mthOf, nilVC, TDsc.isP, storeGVC, pickA, ↓reduceIte, Nat.reduceEqDiff, Nat.reduceLT, Nat.reduceLeDiff, Nat.reduceAdd, Nat.reduceSub, Nat.reduceMul, Nat.reduceBEq, Int.reduceLE, Int.reduceLT, Int.reduceToNat, Int.reduceNeg, BitVec.reduceToNat, forall_const, reduceCtorEq, implies_true, ne_eq, memK2, memR2, g0]
      refine ⟨fun hlt => ?_, fun hge => ?_⟩
      · have e1 : ((k : Int) / 8).toNat = k / 8 := by omega
        have e2 : (8 * ((8 : Int) - 1 - (k : Int) % 8)).toNat = 8 * (8 - 1 - k % 8) := by omega
        refine draw_ _ _ _ [(.fz, 0), (.fz, 1), (.fz, 2), (.fz, 3), (.fz, 4), (.fz, 5), (.fz, 8), (.fz, 9), (.fz, 10), (.fz, 11), (.fz, 12), (.fz, 13), (.fz, 14), (.tk, 6), (.tk, 7), (.fz, 15), (.tk, 16), (.tk, 17), (.ld, 18)] [] [] (by kernel_rfl) ?_
        simp (maxSteps := 10000000) (implicitDefEqProofs := false) only [↓qaa, ↓qab, ↓qac, ↓qad, ↓qae, ↓qaf, ↓qag, qah, qai, qaj, qak, qal, qam, qan, qao, qap, qaq, qar, qas, qat, ↓entryVC, ↓condVC, ↓listVC, ↓memK, ↓memR, ↓envOf, ↓guardVC, ↓opVC, ↓pureVC, ↓binT, ↓wrapT, ↓TDsc.isW, ↓binW, ↓binVC, ↓bin8, ↓bin32, ↓bin64, ↓binInt, ↓shVC, ↓unVC, ↓cvVC, ↓rdVC, ↓loadVC, ↓pickC, ↓fillVC, ↓bndVC, ↓sliceVC, ↓bltVC, ↓storeVC, ↓appVC, ↓apzVC, ↓markVC, ↓copyVC, ↓callVC, ↓argsVC, ↓argVC, ↓bindR, ↓bindR1, ↓bindRs, ↓memVC, ↓delAll, ↓keepM, ↓extE, ↓extM, ↓leS, ↓leA, ↓retVC, ↓retR, ↓resVC, ↓resV1, ↓ressVC, ↓strU, ↓xAdd64, ↓xSub64, ↓pickA, frz, frzs, ev, absC, getA, setA, delA, tt, AV.good, AV.plain, AV.isSl, AV.cells, AV.one, Cells.len, Cells.get, Cells.sub, Cells.part, Cells.agg, Cells.upd, Cells.set, Cells.cat, Cells.rep, Cells.ones, TDsc.agg, zOf, putE, dstB, letGo, quietOp, slotOp, AV.isRp, rpVC, whoOf, mthOf, nilVC, TDsc.isP, storeGVC, pickA, ↓reduceIte, Nat.reduceEqDiff, Nat.reduceLT, Nat.reduceLeDiff, Nat.reduceAdd, Nat.reduceSub, Nat.reduceMul, Nat.reduceBEq, Int.reduceLE, Int.reduceLT, Int.reduceToNat, Int.reduceNeg, BitVec.reduceToNat, forall_const, reduceCtorEq, implies_true, ne_eq, memK2, memR2, g0]
        simp only [e1, e2, fillO_length]
        repeat (refine And.intro (by first | omega | (simp only [intIn]; omega) | decide) ?_)
        refine LeJ.mk ⟨k + 1, by omega⟩ (by dsimp only; omega) ?_
        simp (maxSteps := 1000000) only [leS, leA, stU_env, stU_mem, pickA, getA, delA, setA, Cells.part, Cells.len, List.take_nil, List.drop_nil, List.length_nil, Nat.zero_add, ↓reduceIte, Nat.reduceEqDiff, Nat.reduceAdd, Nat.reduceLT, and_true, true_and, List.append_eq, List.nil_append, List.cons_append, Option.some.injEq, AV.int.injEq, ME.own.injEq, ME.row.injEq, ME.ro.injEq, Cells.c32.injEq, Cells.c64.injEq, Cells.c8.injEq, AV.ptr.injEq, AV.ros.injEq, AV.grow.injEq, AV.u64.injEq, AV.u32.injEq, AV.slc.injEq]
        first | done | rfl | exact ⟨by omega, rfl⟩ | exact ⟨by omega, by omega, rfl⟩
      · obtain rfl : k = n := by omega
        rw [List.take_of_length_le (by rw [fillO_length]; omega), fillO_length]
        rw [fillO_all]
        exact ⟨⟨by omega, by omega, by omega⟩, h⟩
  · exact h.elim

theorem out_eq32 (ws : List U32) (i : Nat) : outS32 ws i = H7.outF ws i := by
  unfold outS32 H7.outF
  apply BitVec.eq_of_toNat_eq
  simp only [BitVec.toNat_setWidth, BitVec.toNat_ushiftRight]
  rw [Nat.mod_eq_of_lt (a := (g32 ws (i / 4)).toNat) (Nat.lt_of_lt_of_le (g32 ws (i / 4)).isLt (by decide))]
theorem out_eq64 (ws : List U64) (i : Nat) : outS64 ws i = H8.outF ws i := rfl
theorem out_eq1 (ws : List U32) (i : Nat) : outS32 ws i = outF ws i := by
  rw [out_eq32]
  unfold H7.outF outF
  rw [show 24 - 8 * (i % 4) = 8 * (3 - i % 4) by omega]
theorem spell_eq32 (ws : List U32) (n : Nat) : (List.range n).map (outS32 ws) = H7.outL ws n := by
  unfold H7.outL; exact List.map_congr_left fun i _ => out_eq32 ws i
theorem spell_eq64 (ws : List U64) (n : Nat) : (List.range n).map (outS64 ws) = H8.outL ws n := rfl
def toV5 (l : List U32) : V5 := ⟨g32 l 0, g32 l 1, g32 l 2, g32 l 3, g32 l 4⟩
theorem toV5_l (v : V5) : toV5 v.l = v := rfl
theorem five {l : List U32} (h : l.length = 5) : ∃ v : V5, l = v.l := by
  match l, h with
  | [a, b, c, d, e], _ => exact ⟨⟨a, b, c, d, e⟩, rfl⟩
def outL1 (l : List U32) (n : Nat) : List U8 := (List.range n).map (outS32 l)
theorem outL1_all (l : List U32) : outL1 l 20 = outK l 20 := by
  have hg : ∀ k, k ≤ 20 → ∀ i, i < k → (outK l k)[i]? = some (outF l i) := fun k => by
    induction k with
    | zero => intro _ i h; omega
    | succ k ih =>
      intro hk i h
      simp only [outK, List.getElem?_set, outK_length]
      by_cases hi : k = i
      · subst hi; simp; omega
      · rw [if_neg hi]; exact ih (by omega) i (by omega)
  apply List.ext_getElem?
  intro i
  by_cases hi : i < 20
  · rw [hg 20 (Nat.le_refl _) i hi]; simp [outL1, hi, out_eq1]
  · rw [List.getElem?_eq_none (by simp [outL1]; omega), List.getElem?_eq_none (by rw [outK_length]; omega)]
theorem sl_v8 {W : World} {A : Option Addr} {bs : List U8} (h : Sl id W A (bs.map v8)) : Sl v8 W A bs := by
  refine ⟨by simpa using h.1, fun i x hx => ?_⟩
  exact h.2 i (v8 x) (by rw [List.getElem?_map, hx]; rfl)
def cBlock1 : CT := fun cas K => match cas with
  | [.v (.a32 hs), .v (.a8 bs)] => (hs.length = 5 ∧ bs.length = 64) ∧ K (.one (.v (.a32 (blockF (toV5 hs) bs).l)))
  | _ => False
theorem sBlock1 : Sound Try.prog 34 cBlock1 := by
  intro cas K W vals ha h
  unfold cBlock1 at h
  split at h
  · rename_i hs bs
    obtain ⟨⟨h5, hb⟩, h⟩ := h
    obtain ⟨v, rfl⟩ := five h5
    rw [toV5_l] at h
    match vals, ha with
    | [V1, V2], ⟨⟨_, e1⟩, ⟨_, e2⟩, _⟩ =>
      subst e1; subst e2
      exact ⟨⟨_, Try.func34, by decide, rfl⟩, (block v bs hb W).mono fun e W' he => ⟨.one (.v (.a32 (blockF v bs).l)), _, he.1, ⟨rfl, rfl⟩, he.2, h⟩⟩
  · exact h.elim
def cStart1 : CT := fun cas K => match cas with
  | [] => K (.one (.v (.a32 startF.l)))
  | _ => False
theorem sStart1 : Sound Try.prog 32 cStart1 := by
  intro cas K W vals ha h
  unfold cStart1 at h
  split at h
  · match vals, ha with
    | [], _ => exact ⟨⟨_, Try.func32, by decide, rfl⟩, (start W).mono fun e W' he => ⟨.one (.v (.a32 startF.l)), _, he.1, ⟨rfl, rfl⟩, he.2, h⟩⟩
  · exact h.elim
def cSum1 : CT := fun cas K => match cas with
  | [.s (.c8 bs)] => bs.length ≤ 1000000 ∧ K (.one (.v (.a8 (sumF bs))))
  | _ => False
theorem sSum1 : Sound Try.prog 19 cSum1 := by
  intro cas K W vals ha h
  unfold cSum1 at h
  split at h
  · rename_i bs
    obtain ⟨hb, h⟩ := h
    match vals, ha with
    | [V1], ⟨⟨A, c, e1, _, hs, _⟩, _⟩ =>
      subst e1
      rw [sum_eq] at h
      exact ⟨⟨_, Try.func19, by decide, rfl⟩, (sumRef bs A c hb W (sl_v8 hs)).mono fun e W' he => ⟨.one (.v (.a8 (sumR bs))), _, he.1, ⟨rfl, rfl⟩, he.2, h⟩⟩
  · exact h.elim
end Go.Proofs.Ytlcaobnojbkmbaa
