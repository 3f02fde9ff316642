/- The law HashNew. -/
import Derived.Test.YtlcaobnojbkmbaaG9
namespace Go.Proofs.Ytlcaobnojbkmbaa
open Go Go.RowKit
set_option linter.unusedVariables false
set_option linter.unusedSimpArgs false

def cLNew : CT := fun cas K => match cas with
  | [.v (.int alg)] => K (.one (.v (.bool true)))
  | _ => False
def t11 : CTab := fun F => match F with
  | 8 => .fn cHSum
  | 9 => .fn cHSum
  | 10 => .fn cSize
  | 11 => .fn cSize
  | 7 => .fn cAlive
  | 14 => .mem (Loc lNew)
  | 18 => .mem (Loc lHWrite)
  | 15 => .mem (Loc lHSum)
  | 16 => .mem (Loc lHLen)
  | 17 => .mem (Loc lHCopy)
  | _ => .fn noCT
theorem t11_ok : CTok Try.prog t11 := by
  intro F
  unfold t11
  split
  · exact sSumH
  · exact sSumD
  · exact sSize
  · exact sSizeR
  · exact sAlive
  · exact (Loc_ok sNew)
  · exact (Loc_ok sHWrite)
  · exact (Loc_ok sHSum)
  · exact (Loc_ok sHLen)
  · exact (Loc_ok sHCopy)
  · exact sound_none _ _
set_option maxRecDepth 100000 in
set_option maxHeartbeats 1000000 in
theorem sLNew : Sound Try.prog 4 cLNew := by
  refine sound_vc (tt := tt) (ct := t11) ttok t11_ok mixed Try.func4 rfl (by decide) (rs := [.tmp 2]) rfl (ts := [4]) (k := 0) ?_
  intro cas K h
  unfold cLNew at h
  split at h
  · rename_i alg
    rw [Try.ntmps4]
    refine ⟨by simp, ?_⟩
    by_cases hz : sizeF alg = 0
    · simp (maxSteps := 10000000) (implicitDefEqProofs := false) only [↓qaa, ↓qab, ↓qac, ↓qad, ↓qae, ↓qaf, ↓qag, qah, qai, qaj, qak, qal, qam, qan, qao, qap, qaq, qar, qas, qat, ↓entryVC, ↓condVC, ↓listVC, ↓memK, ↓memR, ↓envOf, ↓guardVC, ↓opVC, ↓pureVC, ↓binT, ↓wrapT, ↓TDsc.isW, ↓binW, ↓binVC, ↓bin8, ↓bin32, ↓bin64, ↓binInt, ↓shVC, ↓unVC, ↓cvVC, ↓rdVC, ↓loadVC, ↓pickC, ↓fillVC, ↓bndVC, ↓sliceVC, ↓bltVC, ↓storeVC, ↓appVC, ↓apzVC, ↓markVC, ↓copyVC, ↓callVC, ↓argsVC, ↓argVC, ↓bindR, ↓bindR1, ↓bindRs, ↓memVC, ↓delAll, ↓keepM, ↓extE, ↓extM, ↓leS, ↓leA, ↓retVC, ↓retR, ↓resVC, ↓resV1, ↓ressVC, ↓strU, ↓xAdd64, ↓xSub64, ↓pickA, frz, frzs, ev, absC, getA, setA, delA, tt, AV.good, AV.plain, AV.isSl, AV.cells, AV.one, Cells.len, Cells.get, Cells.sub, Cells.part, Cells.agg, Cells.upd, Cells.set, Cells.cat, Cells.rep, Cells.ones, TDsc.agg, zOf, putE, dstB, letGo, quietOp, slotOp, AV.isRp, rpVC, whoOf, mthOf, nilVC, TDsc.isP, storeGVC, pickA, ↓reduceIte, Nat.reduceEqDiff, Nat.reduceLT, Nat.reduceLeDiff, Nat.reduceAdd, Nat.reduceSub, Nat.reduceMul, Nat.reduceBEq, Int.reduceLE, Int.reduceLT, Int.reduceToNat, Int.reduceNeg, BitVec.reduceToNat, forall_const, reduceCtorEq, implies_true, ne_eq, memK2, memR2, t11, cHSum, cSize, cWeak, cAlive, hz, HM, delL, List.singleton_append]
      (try repeat (refine And.intro (by first | omega | (simp only [intIn]; omega) | (simp only [intIn]; done) | (simp; done) | (simp; omega) | decide) ?_))
      refine ⟨[], [.int alg], [], ⟨rfl, rfl, rfl⟩, srcOk.nil, trivial, rfl, fun hq e gh g he => ?_, fun hq => ?_⟩
      · exact absurd hz hq
      · refine ⟨.tup [.nilp, .int 9], [], [], 300, ⟨rfl, rfl⟩, srcOk.nil, trivial, ?_⟩
        simp (maxSteps := 10000000) (implicitDefEqProofs := false) only [↓qaa, ↓qab, ↓qac, ↓qad, ↓qae, ↓qaf, ↓qag, qah, qai, qaj, qak, qal, qam, qan, qao, qap, qaq, qar, qas, qat, ↓entryVC, ↓condVC, ↓listVC, ↓memK, ↓memR, ↓envOf, ↓guardVC, ↓opVC, ↓pureVC, ↓binT, ↓wrapT, ↓TDsc.isW, ↓binW, ↓binVC, ↓bin8, ↓bin32, ↓bin64, ↓binInt, ↓shVC, ↓unVC, ↓cvVC, ↓rdVC, ↓loadVC, ↓pickC, ↓fillVC, ↓bndVC, ↓sliceVC, ↓bltVC, ↓storeVC, ↓appVC, ↓apzVC, ↓markVC, ↓copyVC, ↓callVC, ↓argsVC, ↓argVC, ↓bindR, ↓bindR1, ↓bindRs, ↓memVC, ↓delAll, ↓keepM, ↓extE, ↓extM, ↓leS, ↓leA, ↓retVC, ↓retR, ↓resVC, ↓resV1, ↓ressVC, ↓strU, ↓xAdd64, ↓xSub64, ↓pickA, frz, frzs, ev, absC, getA, setA, delA, tt, AV.good, AV.plain, AV.isSl, AV.cells, AV.one, Cells.len, Cells.get, Cells.sub, Cells.part, Cells.agg, Cells.upd, Cells.set, Cells.cat, Cells.rep, Cells.ones, TDsc.agg, zOf, putE, dstB, letGo, quietOp, slotOp, AV.isRp, rpVC, whoOf, mthOf, nilVC, TDsc.isP, storeGVC, pickA, ↓reduceIte, Nat.reduceEqDiff, Nat.reduceLT, Nat.reduceLeDiff, Nat.reduceAdd, Nat.reduceSub, Nat.reduceMul, Nat.reduceBEq, Int.reduceLE, Int.reduceLT, Int.reduceToNat, Int.reduceNeg, BitVec.reduceToNat, forall_const, reduceCtorEq, implies_true, ne_eq, memK2, memR2, t11, cHSum, cSize, cWeak, cAlive, hz, HM, delL, List.singleton_append]
        repeat (refine And.intro (by first | omega | (simp only [intIn]; omega) | (simp only [intIn]; done) | (simp; done) | (simp; omega) | decide) ?_)
        exact h
    · simp (maxSteps := 10000000) (implicitDefEqProofs := false) only [↓qaa, ↓qab, ↓qac, ↓qad, ↓qae, ↓qaf, ↓qag, qah, qai, qaj, qak, qal, qam, qan, qao, qap, qaq, qar, qas, qat, ↓entryVC, ↓condVC, ↓listVC, ↓memK, ↓memR, ↓envOf, ↓guardVC, ↓opVC, ↓pureVC, ↓binT, ↓wrapT, ↓TDsc.isW, ↓binW, ↓binVC, ↓bin8, ↓bin32, ↓bin64, ↓binInt, ↓shVC, ↓unVC, ↓cvVC, ↓rdVC, ↓loadVC, ↓pickC, ↓fillVC, ↓bndVC, ↓sliceVC, ↓bltVC, ↓storeVC, ↓appVC, ↓apzVC, ↓markVC, ↓copyVC, ↓callVC, ↓argsVC, ↓argVC, ↓bindR, ↓bindR1, ↓bindRs, ↓memVC, ↓delAll, ↓keepM, ↓extE, ↓extM, ↓leS, ↓leA, ↓retVC, ↓retR, ↓resVC, ↓resV1, ↓ressVC, ↓strU, ↓xAdd64, ↓xSub64, ↓pickA, frz, frzs, ev, absC, getA, setA, delA, tt, AV.good, AV.plain, AV.isSl, AV.cells, AV.one, Cells.len, Cells.get, Cells.sub, Cells.part, Cells.agg, Cells.upd, Cells.set, Cells.cat, Cells.rep, Cells.ones, TDsc.agg, zOf, putE, dstB, letGo, quietOp, slotOp, AV.isRp, rpVC, whoOf, mthOf, nilVC, TDsc.isP, storeGVC, pickA, ↓reduceIte, Nat.reduceEqDiff, Nat.reduceLT, Nat.reduceLeDiff, Nat.reduceAdd, Nat.reduceSub, Nat.reduceMul, Nat.reduceBEq, Int.reduceLE, Int.reduceLT, Int.reduceToNat, Int.reduceNeg, BitVec.reduceToNat, forall_const, reduceCtorEq, implies_true, ne_eq, memK2, memR2, t11, cHSum, cSize, cWeak, cAlive, hz, HM, delL, List.singleton_append]
      (try repeat (refine And.intro (by first | omega | (simp only [intIn]; omega) | (simp only [intIn]; done) | (simp; done) | (simp; omega) | decide) ?_))
      refine ⟨[], [.int alg], [], ⟨rfl, rfl, rfl⟩, srcOk.nil, trivial, rfl, fun hq e gh g he => ?_, fun hq => ?_⟩
      · refine ⟨.tup [.ptr 200 gh 0, .int 0], HM e gh g 200, [some 0, some 1, some 2, some 3], 300, ⟨rfl, rfl⟩, (.cons _ rfl (by exact ME.eqv_own rfl rfl) (.cons _ rfl (Eng.e0_eqv _ _ _ _) (.cons _ rfl (by exact ME.eqv_refl _) (.cons _ rfl (by exact ME.eqv_refl _) srcOk.nil)))), (by simp [pairOk, pairOk1, HM, ME.mine]), ?_⟩
        simp (maxSteps := 10000000) (implicitDefEqProofs := false) only [↓qaa, ↓qab, ↓qac, ↓qad, ↓qae, ↓qaf, ↓qag, qah, qai, qaj, qak, qal, qam, qan, qao, qap, qaq, qar, qas, qat, ↓entryVC, ↓condVC, ↓listVC, ↓memK, ↓memR, ↓envOf, ↓guardVC, ↓opVC, ↓pureVC, ↓binT, ↓wrapT, ↓TDsc.isW, ↓binW, ↓binVC, ↓bin8, ↓bin32, ↓bin64, ↓binInt, ↓shVC, ↓unVC, ↓cvVC, ↓rdVC, ↓loadVC, ↓pickC, ↓fillVC, ↓bndVC, ↓sliceVC, ↓bltVC, ↓storeVC, ↓appVC, ↓apzVC, ↓markVC, ↓copyVC, ↓callVC, ↓argsVC, ↓argVC, ↓bindR, ↓bindR1, ↓bindRs, ↓memVC, ↓delAll, ↓keepM, ↓extE, ↓extM, ↓leS, ↓leA, ↓retVC, ↓retR, ↓resVC, ↓resV1, ↓ressVC, ↓strU, ↓xAdd64, ↓xSub64, ↓pickA, frz, frzs, ev, absC, getA, setA, delA, tt, AV.good, AV.plain, AV.isSl, AV.cells, AV.one, Cells.len, Cells.get, Cells.sub, Cells.part, Cells.agg, Cells.upd, Cells.set, Cells.cat, Cells.rep, Cells.ones, TDsc.agg, zOf, putE, dstB, letGo, quietOp, slotOp, AV.isRp, rpVC, whoOf, mthOf, nilVC, TDsc.isP, storeGVC, pickA, ↓reduceIte, Nat.reduceEqDiff, Nat.reduceLT, Nat.reduceLeDiff, Nat.reduceAdd, Nat.reduceSub, Nat.reduceMul, Nat.reduceBEq, Int.reduceLE, Int.reduceLT, Int.reduceToNat, Int.reduceNeg, BitVec.reduceToNat, forall_const, reduceCtorEq, implies_true, ne_eq, memK2, memR2, t11, cHSum, cSize, cWeak, cAlive, hz, HM, delL, List.singleton_append]
        repeat (refine And.intro (by first | omega | (simp only [intIn]; omega) | (simp only [intIn]; done) | (simp; done) | (simp; omega) | decide) ?_)
        intro A c hc
        refine draw_ _ _ _ [(.ld, 0), (.fz, 1), (.fz, 2), (.fz, 3), (.fz, 4), (.fz, 5), (.fz, 6), (.fz, 7), (.fz, 8), (.fz, 9), (.fz, 10), (.fz, 11), (.fz, 12), (.fz, 13), (.fz, 14), (.fz, 17), (.fz, 18), (.lm, 15), (.tk, 16), (.fz, 19), (.fz, 20), (.fz, 21), (.fz, 22), (.lm, 23), (.fz, 24), (.fz, 25), (.fz, 26)] [] [300] (by kernel_rfl) ?_
        simp (maxSteps := 10000000) (implicitDefEqProofs := false) only [↓qaa, ↓qab, ↓qac, ↓qad, ↓qae, ↓qaf, ↓qag, qah, qai, qaj, qak, qal, qam, qan, qao, qap, qaq, qar, qas, qat, ↓entryVC, ↓condVC, ↓listVC, ↓memK, ↓memR, ↓envOf, ↓guardVC, ↓opVC, ↓pureVC, ↓binT, ↓wrapT, ↓TDsc.isW, ↓binW, ↓binVC, ↓bin8, ↓bin32, ↓bin64, ↓binInt, ↓shVC, ↓unVC, ↓cvVC, ↓rdVC, ↓loadVC, ↓pickC, ↓fillVC, ↓bndVC, ↓sliceVC, ↓bltVC, ↓storeVC, ↓appVC, ↓apzVC, ↓markVC, ↓copyVC, ↓callVC, ↓argsVC, ↓argVC, ↓bindR, ↓bindR1, ↓bindRs, ↓memVC, ↓delAll, ↓keepM, ↓extE, ↓extM, ↓leS, ↓leA, ↓retVC, ↓retR, ↓resVC, ↓resV1, ↓ressVC, ↓strU, ↓xAdd64, ↓xSub64, ↓pickA, frz, frzs, ev, absC, getA, setA, delA, tt, AV.good, AV.plain, AV.isSl, AV.cells, AV.one, Cells.len, Cells.get, Cells.sub, Cells.part, Cells.agg, Cells.upd, Cells.set, Cells.cat, Cells.rep, Cells.ones, TDsc.agg, zOf, putE, dstB, letGo, quietOp, slotOp, AV.isRp, rpVC, whoOf, mthOf, nilVC, TDsc.isP, storeGVC, pickA, ↓reduceIte, Nat.reduceEqDiff, Nat.reduceLT, Nat.reduceLeDiff, Nat.reduceAdd, Nat.reduceSub, Nat.reduceMul, Nat.reduceBEq, Int.reduceLE, Int.reduceLT, Int.reduceToNat, Int.reduceNeg, BitVec.reduceToNat, forall_const, reduceCtorEq, implies_true, ne_eq, memK2, memR2, t11, cHSum, cSize, cWeak, cAlive, hz, HM, delL, List.singleton_append]
        (try repeat (refine And.intro (by first | omega | (simp only [intIn]; omega) | (simp only [intIn]; done) | (simp; done) | (simp; omega) | decide) ?_))
        refine ⟨[200, 201, 202, 203], [.ptr 0 gh 0], HM e gh g 0, ⟨rfl, rfl, rfl⟩, (.cons _ rfl (by exact ME.eqv_own rfl rfl) (.cons _ rfl (Eng.e0_eqv _ _ _ _) (.cons _ rfl (by exact ME.eqv_refl _) (.cons _ rfl (by exact ME.eqv_refl _) srcOk.nil)))), (by simp [pairOk, pairOk1, HM, ME.mine]), ⟨e, g, alg, [], rfl, he, fun A1 c1 => ?_⟩⟩
        refine ⟨.ros 400 A1 (hashOf alg ([])).length c1, HM e gh g 200 ++ [(400, .ro A1 c1 (.c8 (hashOf alg ([]))))], [some 0, some 1, some 2, some 3, some 5], 500, ⟨rfl, rfl⟩, (.cons _ rfl (by exact ME.eqv_own rfl rfl) (.cons _ rfl (Eng.e0_eqv _ _ _ _) (.cons _ rfl (by exact ME.eqv_refl _) (.cons _ rfl (by exact ME.eqv_refl _) (.cons _ rfl (by exact ME.eqv_refl _) srcOk.nil))))), (by simp [pairOk, pairOk1, HM, ME.mine]), ?_⟩
        simp (maxSteps := 10000000) (implicitDefEqProofs := false) only [↓qaa, ↓qab, ↓qac, ↓qad, ↓qae, ↓qaf, ↓qag, qah, qai, qaj, qak, qal, qam, qan, qao, qap, qaq, qar, qas, qat, ↓entryVC, ↓condVC, ↓listVC, ↓memK, ↓memR, ↓envOf, ↓guardVC, ↓opVC, ↓pureVC, ↓binT, ↓wrapT, ↓TDsc.isW, ↓binW, ↓binVC, ↓bin8, ↓bin32, ↓bin64, ↓binInt, ↓shVC, ↓unVC, ↓cvVC, ↓rdVC, ↓loadVC, ↓pickC, ↓fillVC, ↓bndVC, ↓sliceVC, ↓bltVC, ↓storeVC, ↓appVC, ↓apzVC, ↓markVC, ↓copyVC, ↓callVC, ↓argsVC, ↓argVC, ↓bindR, ↓bindR1, ↓bindRs, ↓memVC, ↓delAll, ↓keepM, ↓extE, ↓extM, ↓leS, ↓leA, ↓retVC, ↓retR, ↓resVC, ↓resV1, ↓ressVC, ↓strU, ↓xAdd64, ↓xSub64, ↓pickA, frz, frzs, ev, absC, getA, setA, delA, tt, AV.good, AV.plain, AV.isSl, AV.cells, AV.one, Cells.len, Cells.get, Cells.sub, Cells.part, Cells.agg, Cells.upd, Cells.set, Cells.cat, Cells.rep, Cells.ones, TDsc.agg, zOf, putE, dstB, letGo, quietOp, slotOp, AV.isRp, rpVC, whoOf, mthOf, nilVC, TDsc.isP, storeGVC, pickA, ↓reduceIte, Nat.reduceEqDiff, Nat.reduceLT, Nat.reduceLeDiff, Nat.reduceAdd, Nat.reduceSub, Nat.reduceMul, Nat.reduceBEq, Int.reduceLE, Int.reduceLT, Int.reduceToNat, Int.reduceNeg, BitVec.reduceToNat, forall_const, reduceCtorEq, implies_true, ne_eq, memK2, memR2, t11, cHSum, cSize, cWeak, cAlive, hz, HM, delL, List.singleton_append]
        repeat (refine And.intro (by first | omega | (simp only [intIn]; omega) | (simp only [intIn]; done) | (simp; done) | (simp; omega) | decide) ?_)
        refine ⟨[200, 201, 202, 203], [.ptr 0 gh 0], HM e gh g 0, ⟨rfl, rfl, rfl⟩, (.cons _ rfl (by exact ME.eqv_own rfl rfl) (.cons _ rfl (Eng.e0_eqv _ _ _ _) (.cons _ rfl (by exact ME.eqv_refl _) (.cons _ rfl (by exact ME.eqv_refl _) srcOk.nil)))), (by simp [pairOk, pairOk1, HM, ME.mine]), ⟨e, g, alg, [], rfl, he, ?_⟩⟩
        refine ⟨.u64 (BitVec.ofNat 64 ([]).length), HM e gh g 200, [some 0, some 1, some 2, some 3], 600, ⟨rfl, rfl⟩, (.cons _ rfl (by exact ME.eqv_own rfl rfl) (.cons _ rfl (Eng.e0_eqv _ _ _ _) (.cons _ rfl (by exact ME.eqv_refl _) (.cons _ rfl (by exact ME.eqv_refl _) srcOk.nil)))), (by simp [pairOk, pairOk1, HM, ME.mine]), ?_⟩
        simp (maxSteps := 10000000) (implicitDefEqProofs := false) only [↓qaa, ↓qab, ↓qac, ↓qad, ↓qae, ↓qaf, ↓qag, qah, qai, qaj, qak, qal, qam, qan, qao, qap, qaq, qar, qas, qat, ↓entryVC, ↓condVC, ↓listVC, ↓memK, ↓memR, ↓envOf, ↓guardVC, ↓opVC, ↓pureVC, ↓binT, ↓wrapT, ↓TDsc.isW, ↓binW, ↓binVC, ↓bin8, ↓bin32, ↓bin64, ↓binInt, ↓shVC, ↓unVC, ↓cvVC, ↓rdVC, ↓loadVC, ↓pickC, ↓fillVC, ↓bndVC, ↓sliceVC, ↓bltVC, ↓storeVC, ↓appVC, ↓apzVC, ↓markVC, ↓copyVC, ↓callVC, ↓argsVC, ↓argVC, ↓bindR, ↓bindR1, ↓bindRs, ↓memVC, ↓delAll, ↓keepM, ↓extE, ↓extM, ↓leS, ↓leA, ↓retVC, ↓retR, ↓resVC, ↓resV1, ↓ressVC, ↓strU, ↓xAdd64, ↓xSub64, ↓pickA, frz, frzs, ev, absC, getA, setA, delA, tt, AV.good, AV.plain, AV.isSl, AV.cells, AV.one, Cells.len, Cells.get, Cells.sub, Cells.part, Cells.agg, Cells.upd, Cells.set, Cells.cat, Cells.rep, Cells.ones, TDsc.agg, zOf, putE, dstB, letGo, quietOp, slotOp, AV.isRp, rpVC, whoOf, mthOf, nilVC, TDsc.isP, storeGVC, pickA, ↓reduceIte, Nat.reduceEqDiff, Nat.reduceLT, Nat.reduceLeDiff, Nat.reduceAdd, Nat.reduceSub, Nat.reduceMul, Nat.reduceBEq, Int.reduceLE, Int.reduceLT, Int.reduceToNat, Int.reduceNeg, BitVec.reduceToNat, forall_const, reduceCtorEq, implies_true, ne_eq, memK2, memR2, t11, cHSum, cSize, cWeak, cAlive, hz, HM, delL, List.singleton_append]
        repeat (refine And.intro (by first | omega | (simp only [intIn]; omega) | (simp only [intIn]; done) | (simp; done) | (simp; omega) | decide) ?_)
        exact h
      · exact absurd hq hz
  · exact h.elim
end Go.Proofs.Ytlcaobnojbkmbaa
