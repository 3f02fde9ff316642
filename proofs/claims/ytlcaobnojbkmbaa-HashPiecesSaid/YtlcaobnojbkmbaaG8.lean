/- The hash of bytes: the program's and the document's. -/
import Derived.Test.YtlcaobnojbkmbaaG7
namespace Go.Proofs.Ytlcaobnojbkmbaa
open Go Go.RowKit
set_option linter.unusedVariables false
set_option linter.unusedSimpArgs false

def cRS : CT := fun cas K => match cas with
  | [.v (.int alg), .s (.c8 b)] => b.length ≤ 1000000 ∧ (alg = 2 → K (.tup [.s (.c8 (hashOf alg b)), .v (.int 0)])) ∧ (¬ alg = 2 → sizeF alg ≠ 0 → K (.tup [.al (.c8 (hashOf alg b)), .v (.int 0)])) ∧ (sizeF alg = 0 → K (.tup [.s (.c8 []), .v (.int 9)]))
  | _ => False
def t8 : CTab := fun F => match F with
  | 14 => .mem (Loc lNew)
  | 18 => .mem (Loc lHWrite)
  | 15 => .mem (Loc lHSum)
  | 19 => .fn cSum1
  | 20 => .fn H7.cSumR
  | 21 => .fn H8.cSumR
  | _ => .fn noCT
theorem t8_ok : CTok Try.prog t8 := by
  intro F
  unfold t8
  split
  · exact (Loc_ok sNew)
  · exact (Loc_ok sHWrite)
  · exact (Loc_ok sHSum)
  · exact sSum1
  · exact H7.sSumR
  · exact H8.sSumR
  · exact sound_none _ _
set_option maxRecDepth 100000 in
set_option maxHeartbeats 1000000 in
theorem sSumH : Sound Try.prog 8 cHSum := by
  refine sound_vc (tt := tt) (ct := t8) ttok t8_ok mixed Try.func8 rfl (by decide) (rs := [.tmp 4, .tmp 5]) rfl (ts := [22, 24]) (k := 0) ?_
  intro cas K h
  unfold cHSum at h
  split at h
  · rename_i alg b
    rw [Try.ntmps8]
    refine ⟨by simp, ?_⟩
    obtain ⟨hb, h1, h2⟩ := h
    simp (maxSteps := 10000000) (implicitDefEqProofs := false) only [↓qaa, ↓qab, ↓qac, ↓qad, ↓qae, ↓qaf, ↓qag, qah, qai, qaj, qak, qal, qam, qan, qao, qap, qaq, qar, qas, qat, ↓entryVC, ↓condVC, ↓listVC, ↓memK, ↓memR, ↓envOf, ↓guardVC, ↓opVC, ↓pureVC, ↓binT, ↓wrapT, ↓TDsc.isW, ↓binW, ↓binVC, ↓bin8, ↓bin32, ↓bin64, ↓binInt, ↓shVC, ↓unVC, ↓cvVC, ↓rdVC, ↓loadVC, ↓pickC, ↓fillVC, ↓bndVC, ↓sliceVC, ↓bltVC, ↓storeVC, ↓appVC, ↓apzVC, ↓markVC, ↓copyVC, ↓callVC, ↓argsVC, ↓argVC, ↓bindR, ↓bindR1, ↓bindRs, ↓memVC, ↓delAll, ↓keepM, ↓extE, ↓extM, ↓leS, ↓leA, ↓retVC, ↓retR, ↓resVC, ↓resV1, ↓ressVC, ↓strU, ↓xAdd64, ↓xSub64, ↓pickA, frz, frzs, ev, absC, getA, setA, delA, tt, AV.good, AV.plain, AV.isSl, AV.cells, AV.one, Cells.len, Cells.get, Cells.sub, Cells.part, Cells.agg, Cells.upd, Cells.set, Cells.cat, Cells.rep, Cells.ones, TDsc.agg, zOf, putE, dstB, letGo, quietOp, slotOp, AV.isRp, rpVC, whoOf, mthOf, nilVC, TDsc.isP, storeGVC, pickA, ↓reduceIte, Nat.reduceEqDiff, Nat.reduceLT, Nat.reduceLeDiff, Nat.reduceAdd, Nat.reduceSub, Nat.reduceMul, Nat.reduceBEq, Int.reduceLE, Int.reduceLT, Int.reduceToNat, Int.reduceNeg, BitVec.reduceToNat, forall_const, reduceCtorEq, implies_true, ne_eq, memK2, memR2, t8, HM, delL, List.singleton_append]
    intro A c hc
    (try simp (maxSteps := 10000000) (implicitDefEqProofs := false) only [↓qaa, ↓qab, ↓qac, ↓qad, ↓qae, ↓qaf, ↓qag, qah, qai, qaj, qak, qal, qam, qan, qao, qap, qaq, qar, qas, qat, ↓entryVC, ↓condVC, ↓listVC, ↓memK, ↓memR, ↓envOf, ↓guardVC, ↓opVC, ↓pureVC, ↓binT, ↓wrapT, ↓TDsc.isW, ↓binW, ↓binVC, ↓bin8, ↓bin32, ↓bin64, ↓binInt, ↓shVC, ↓unVC, ↓cvVC, ↓rdVC, ↓loadVC, ↓pickC, ↓fillVC, ↓bndVC, ↓sliceVC, ↓bltVC, ↓storeVC, ↓appVC, ↓apzVC, ↓markVC, ↓copyVC, ↓callVC, ↓argsVC, ↓argVC, ↓bindR, ↓bindR1, ↓bindRs, ↓memVC, ↓delAll, ↓keepM, ↓extE, ↓extM, ↓leS, ↓leA, ↓retVC, ↓retR, ↓resVC, ↓resV1, ↓ressVC, ↓strU, ↓xAdd64, ↓xSub64, ↓pickA, frz, frzs, ev, absC, getA, setA, delA, tt, AV.good, AV.plain, AV.isSl, AV.cells, AV.one, Cells.len, Cells.get, Cells.sub, Cells.part, Cells.agg, Cells.upd, Cells.set, Cells.cat, Cells.rep, Cells.ones, TDsc.agg, zOf, putE, dstB, letGo, quietOp, slotOp, AV.isRp, rpVC, whoOf, mthOf, nilVC, TDsc.isP, storeGVC, pickA, ↓reduceIte, Nat.reduceEqDiff, Nat.reduceLT, Nat.reduceLeDiff, Nat.reduceAdd, Nat.reduceSub, Nat.reduceMul, Nat.reduceBEq, Int.reduceLE, Int.reduceLT, Int.reduceToNat, Int.reduceNeg, BitVec.reduceToNat, forall_const, reduceCtorEq, implies_true, ne_eq, memK2, memR2, t8, HM, delL, List.singleton_append])
    (try repeat (refine And.intro (by first | omega | (simp only [intIn]; omega) | (simp only [intIn]; done) | (simp; done) | (simp; omega) | decide) ?_))
    refine ⟨[], [.int alg], [], ⟨rfl, rfl, rfl⟩, srcOk.nil, trivial, rfl, fun hz e gh g he => ?_, fun hz => ?_⟩
    · refine ⟨.tup [.ptr 200 gh 0, .int 0], HM e gh g 200, [some 0, some 1, some 2, some 3], 300, ⟨rfl, rfl⟩, (.cons _ rfl (by exact ME.eqv_own rfl rfl) (.cons _ rfl (Eng.e0_eqv _ _ _ _) (.cons _ rfl (by exact ME.eqv_refl _) (.cons _ rfl (by exact ME.eqv_refl _) srcOk.nil)))), (by simp [pairOk, pairOk1, HM, ME.mine]), ?_⟩
      simp (maxSteps := 10000000) (implicitDefEqProofs := false) only [↓qaa, ↓qab, ↓qac, ↓qad, ↓qae, ↓qaf, ↓qag, qah, qai, qaj, qak, qal, qam, qan, qao, qap, qaq, qar, qas, qat, ↓entryVC, ↓condVC, ↓listVC, ↓memK, ↓memR, ↓envOf, ↓guardVC, ↓opVC, ↓pureVC, ↓binT, ↓wrapT, ↓TDsc.isW, ↓binW, ↓binVC, ↓bin8, ↓bin32, ↓bin64, ↓binInt, ↓shVC, ↓unVC, ↓cvVC, ↓rdVC, ↓loadVC, ↓pickC, ↓fillVC, ↓bndVC, ↓sliceVC, ↓bltVC, ↓storeVC, ↓appVC, ↓apzVC, ↓markVC, ↓copyVC, ↓callVC, ↓argsVC, ↓argVC, ↓bindR, ↓bindR1, ↓bindRs, ↓memVC, ↓delAll, ↓keepM, ↓extE, ↓extM, ↓leS, ↓leA, ↓retVC, ↓retR, ↓resVC, ↓resV1, ↓ressVC, ↓strU, ↓xAdd64, ↓xSub64, ↓pickA, frz, frzs, ev, absC, getA, setA, delA, tt, AV.good, AV.plain, AV.isSl, AV.cells, AV.one, Cells.len, Cells.get, Cells.sub, Cells.part, Cells.agg, Cells.upd, Cells.set, Cells.cat, Cells.rep, Cells.ones, TDsc.agg, zOf, putE, dstB, letGo, quietOp, slotOp, AV.isRp, rpVC, whoOf, mthOf, nilVC, TDsc.isP, storeGVC, pickA, ↓reduceIte, Nat.reduceEqDiff, Nat.reduceLT, Nat.reduceLeDiff, Nat.reduceAdd, Nat.reduceSub, Nat.reduceMul, Nat.reduceBEq, Int.reduceLE, Int.reduceLT, Int.reduceToNat, Int.reduceNeg, BitVec.reduceToNat, forall_const, reduceCtorEq, implies_true, ne_eq, memK2, memR2, t8, HM, delL, List.singleton_append]
      repeat (refine And.intro (by first | omega | (simp only [intIn]; omega) | (simp only [intIn]; done) | (simp; done) | (simp; omega) | decide) ?_)
      refine ⟨[200, 201, 202, 203, 1], [.ptr 0 gh 0, .ros 9 A b.length c], HM e gh g 0 ++ [(9, .ro A c (.c8 b))], ⟨rfl, rfl, rfl⟩, (.cons _ rfl (by exact ME.eqv_own rfl rfl) (.cons _ rfl (Eng.e0_eqv _ _ _ _) (.cons _ rfl (by exact ME.eqv_refl _) (.cons _ rfl (by exact ME.eqv_refl _) (.cons _ rfl (by exact ME.eqv_refl _) srcOk.nil))))), (by simp [pairOk, pairOk1, HM, ME.mine]), ⟨e, g, alg, [], b, rfl, ⟨rfl, he, by omega⟩, fun e1 he1 => ?_⟩⟩
      refine ⟨.tup [], HM e1 gh g 200, [some 0, some 1, some 2, some 3], 400, ⟨rfl, rfl⟩, (.cons _ rfl (by exact ME.eqv_own rfl rfl) (.cons _ rfl (Eng.e0_eqv _ _ _ _) (.cons _ rfl (by exact ME.eqv_refl _) (.cons _ rfl (by exact ME.eqv_refl _) srcOk.nil)))), (by simp [pairOk, pairOk1, HM, ME.mine]), ?_⟩
      rw [List.nil_append] at he1
      simp (maxSteps := 10000000) (implicitDefEqProofs := false) only [↓qaa, ↓qab, ↓qac, ↓qad, ↓qae, ↓qaf, ↓qag, qah, qai, qaj, qak, qal, qam, qan, qao, qap, qaq, qar, qas, qat, ↓entryVC, ↓condVC, ↓listVC, ↓memK, ↓memR, ↓envOf, ↓guardVC, ↓opVC, ↓pureVC, ↓binT, ↓wrapT, ↓TDsc.isW, ↓binW, ↓binVC, ↓bin8, ↓bin32, ↓bin64, ↓binInt, ↓shVC, ↓unVC, ↓cvVC, ↓rdVC, ↓loadVC, ↓pickC, ↓fillVC, ↓bndVC, ↓sliceVC, ↓bltVC, ↓storeVC, ↓appVC, ↓apzVC, ↓markVC, ↓copyVC, ↓callVC, ↓argsVC, ↓argVC, ↓bindR, ↓bindR1, ↓bindRs, ↓memVC, ↓delAll, ↓keepM, ↓extE, ↓extM, ↓leS, ↓leA, ↓retVC, ↓retR, ↓resVC, ↓resV1, ↓ressVC, ↓strU, ↓xAdd64, ↓xSub64, ↓pickA, frz, frzs, ev, absC, getA, setA, delA, tt, AV.good, AV.plain, AV.isSl, AV.cells, AV.one, Cells.len, Cells.get, Cells.sub, Cells.part, Cells.agg, Cells.upd, Cells.set, Cells.cat, Cells.rep, Cells.ones, TDsc.agg, zOf, putE, dstB, letGo, quietOp, slotOp, AV.isRp, rpVC, whoOf, mthOf, nilVC, TDsc.isP, storeGVC, pickA, ↓reduceIte, Nat.reduceEqDiff, Nat.reduceLT, Nat.reduceLeDiff, Nat.reduceAdd, Nat.reduceSub, Nat.reduceMul, Nat.reduceBEq, Int.reduceLE, Int.reduceLT, Int.reduceToNat, Int.reduceNeg, BitVec.reduceToNat, forall_const, reduceCtorEq, implies_true, ne_eq, memK2, memR2, t8, HM, delL, List.singleton_append]
      repeat (refine And.intro (by first | omega | (simp only [intIn]; omega) | (simp only [intIn]; done) | (simp; done) | (simp; omega) | decide) ?_)
      refine ⟨[200, 201, 202, 203], [.ptr 0 gh 0], HM e1 gh g 0, ⟨rfl, rfl, rfl⟩, (.cons _ rfl (by exact ME.eqv_own rfl rfl) (.cons _ rfl (Eng.e0_eqv _ _ _ _) (.cons _ rfl (by exact ME.eqv_refl _) (.cons _ rfl (by exact ME.eqv_refl _) srcOk.nil)))), (by simp [pairOk, pairOk1, HM, ME.mine]), ⟨e1, g, alg, b, rfl, he1, fun A1 c1 => ?_⟩⟩
      refine ⟨.ros 500 A1 (hashOf alg (b)).length c1, HM e1 gh g 200 ++ [(500, .ro A1 c1 (.c8 (hashOf alg (b))))], [some 0, some 1, some 2, some 3, some 5], 600, ⟨rfl, rfl⟩, (.cons _ rfl (by exact ME.eqv_own rfl rfl) (.cons _ rfl (Eng.e0_eqv _ _ _ _) (.cons _ rfl (by exact ME.eqv_refl _) (.cons _ rfl (by exact ME.eqv_refl _) (.cons _ rfl (by exact ME.eqv_refl _) srcOk.nil))))), (by simp [pairOk, pairOk1, HM, ME.mine]), ?_⟩
      simp (maxSteps := 10000000) (implicitDefEqProofs := false) only [↓qaa, ↓qab, ↓qac, ↓qad, ↓qae, ↓qaf, ↓qag, qah, qai, qaj, qak, qal, qam, qan, qao, qap, qaq, qar, qas, qat, ↓entryVC, ↓condVC, ↓listVC, ↓memK, ↓memR, ↓envOf, ↓guardVC, ↓opVC, ↓pureVC, ↓binT, ↓wrapT, ↓TDsc.isW, ↓binW, ↓binVC, ↓bin8, ↓bin32, ↓bin64, ↓binInt, ↓shVC, ↓unVC, ↓cvVC, ↓rdVC, ↓loadVC, ↓pickC, ↓fillVC, ↓bndVC, ↓sliceVC, ↓bltVC, ↓storeVC, ↓appVC, ↓apzVC, ↓markVC, ↓copyVC, ↓callVC, ↓argsVC, ↓argVC, ↓bindR, ↓bindR1, ↓bindRs, ↓memVC, ↓delAll, ↓keepM, ↓extE, ↓extM, ↓leS, ↓leA, ↓retVC, ↓retR, ↓resVC, ↓resV1, ↓ressVC, ↓strU, ↓xAdd64, ↓xSub64, ↓pickA, frz, frzs, ev, absC, getA, setA, delA, tt, AV.good, AV.plain, AV.isSl, AV.cells, AV.one, Cells.len, Cells.get, Cells.sub, Cells.part, Cells.agg, Cells.upd, Cells.set, Cells.cat, Cells.rep, Cells.ones, TDsc.agg, zOf, putE, dstB, letGo, quietOp, slotOp, AV.isRp, rpVC, whoOf, mthOf, nilVC, TDsc.isP, storeGVC, pickA, ↓reduceIte, Nat.reduceEqDiff, Nat.reduceLT, Nat.reduceLeDiff, Nat.reduceAdd, Nat.reduceSub, Nat.reduceMul, Nat.reduceBEq, Int.reduceLE, Int.reduceLT, Int.reduceToNat, Int.reduceNeg, BitVec.reduceToNat, forall_const, reduceCtorEq, implies_true, ne_eq, memK2, memR2, t8, HM, delL, List.singleton_append]
      repeat (refine And.intro (by first | omega | (simp only [intIn]; omega) | (simp only [intIn]; done) | (simp; done) | (simp; omega) | decide) ?_)
      exact h1 hz
    · refine ⟨.tup [.nilp, .int 9], [], [], 300, ⟨rfl, rfl⟩, srcOk.nil, trivial, ?_⟩
      simp (maxSteps := 10000000) (implicitDefEqProofs := false) only [↓qaa, ↓qab, ↓qac, ↓qad, ↓qae, ↓qaf, ↓qag, qah, qai, qaj, qak, qal, qam, qan, qao, qap, qaq, qar, qas, qat, ↓entryVC, ↓condVC, ↓listVC, ↓memK, ↓memR, ↓envOf, ↓guardVC, ↓opVC, ↓pureVC, ↓binT, ↓wrapT, ↓TDsc.isW, ↓binW, ↓binVC, ↓bin8, ↓bin32, ↓bin64, ↓binInt, ↓shVC, ↓unVC, ↓cvVC, ↓rdVC, ↓loadVC, ↓pickC, ↓fillVC, ↓bndVC, ↓sliceVC, ↓bltVC, ↓storeVC, ↓appVC, ↓apzVC, ↓markVC, ↓copyVC, ↓callVC, ↓argsVC, ↓argVC, ↓bindR, ↓bindR1, ↓bindRs, ↓memVC, ↓delAll, ↓keepM, ↓extE, ↓extM, ↓leS, ↓leA, ↓retVC, ↓retR, ↓resVC, ↓resV1, ↓ressVC, ↓strU, ↓xAdd64, ↓xSub64, ↓pickA, frz, frzs, ev, absC, getA, setA, delA, tt, AV.good, AV.plain, AV.isSl, AV.cells, AV.one, Cells.len, Cells.get, Cells.sub, Cells.part, Cells.agg, Cells.upd, Cells.set, Cells.cat, Cells.rep, Cells.ones, TDsc.agg, zOf, putE, dstB, letGo, quietOp, slotOp, AV.isRp, rpVC, whoOf, mthOf, nilVC, TDsc.isP, storeGVC, pickA, ↓reduceIte, Nat.reduceEqDiff, Nat.reduceLT, Nat.reduceLeDiff, Nat.reduceAdd, Nat.reduceSub, Nat.reduceMul, Nat.reduceBEq, Int.reduceLE, Int.reduceLT, Int.reduceToNat, Int.reduceNeg, BitVec.reduceToNat, forall_const, reduceCtorEq, implies_true, ne_eq, memK2, memR2, t8, HM, delL, List.singleton_append]
      repeat (refine And.intro (by first | omega | (simp only [intIn]; omega) | (simp only [intIn]; done) | (simp; done) | (simp; omega) | decide) ?_)
      exact ⟨fun _ => h2 hz, fun hh => absurd hh (by decide)⟩
  · exact h.elim
theorem l28 (b : List U8) : ((H7.sumF false b).take 28).length = 28 := by rw [List.length_take, H7.sumF_length]; rfl
theorem l48 (b : List U8) : ((H8.sumF false b).take 48).length = 48 := by rw [List.length_take, H8.sumF_length]; rfl
set_option maxRecDepth 100000 in
set_option maxHeartbeats 1000000 in
theorem sRS : Sound Try.prog 9 cRS := by
  refine sound_vc (tt := tt) (ct := t8) ttok t8_ok mixed Try.func9 rfl (by decide) (rs := [.tmp 4, .tmp 5]) rfl (ts := [22, 24]) (k := 0) ?_
  intro cas K h
  unfold cRS at h
  split at h
  · rename_i alg b
    rw [Try.ntmps9]
    refine ⟨by simp, ?_⟩
    obtain ⟨hb, h1, h2, h3⟩ := h
    simp (maxSteps := 10000000) (implicitDefEqProofs := false) only [↓qaa, ↓qab, ↓qac, ↓qad, ↓qae, ↓qaf, ↓qag, qah, qai, qaj, qak, qal, qam, qan, qao, qap, qaq, qar, qas, qat, ↓entryVC, ↓condVC, ↓listVC, ↓memK, ↓memR, ↓envOf, ↓guardVC, ↓opVC, ↓pureVC, ↓binT, ↓wrapT, ↓TDsc.isW, ↓binW, ↓binVC, ↓bin8, ↓bin32, ↓bin64, ↓binInt, ↓shVC, ↓unVC, ↓cvVC, ↓rdVC, ↓loadVC, ↓pickC, ↓fillVC, ↓bndVC, ↓sliceVC, ↓bltVC, ↓storeVC, ↓appVC, ↓apzVC, ↓markVC, ↓copyVC, ↓callVC, ↓argsVC, ↓argVC, ↓bindR, ↓bindR1, ↓bindRs, ↓memVC, ↓delAll, ↓keepM, ↓extE, ↓extM, ↓leS, ↓leA, ↓retVC, ↓retR, ↓resVC, ↓resV1, ↓ressVC, ↓strU, ↓xAdd64, ↓xSub64, ↓pickA, frz, frzs, ev, absC, getA, setA, delA, tt, AV.good, AV.plain, AV.isSl, AV.cells, AV.one, Cells.len, Cells.get, Cells.sub, Cells.part, Cells.agg, Cells.upd, Cells.set, Cells.cat, Cells.rep, Cells.ones, TDsc.agg, zOf, putE, dstB, letGo, quietOp, slotOp, AV.isRp, rpVC, whoOf, mthOf, nilVC, TDsc.isP, storeGVC, pickA, ↓reduceIte, Nat.reduceEqDiff, Nat.reduceLT, Nat.reduceLeDiff, Nat.reduceAdd, Nat.reduceSub, Nat.reduceMul, Nat.reduceBEq, Int.reduceLE, Int.reduceLT, Int.reduceToNat, Int.reduceNeg, BitVec.reduceToNat, forall_const, reduceCtorEq, implies_true, ne_eq, memK2, memR2, t8, cSum1, H7.cSumR, H8.cSumR, sumF_length, H7.sumF_length, H8.sumF_length, l28, l48, z8_length]
    intros
    (try simp (maxSteps := 10000000) (implicitDefEqProofs := false) only [↓qaa, ↓qab, ↓qac, ↓qad, ↓qae, ↓qaf, ↓qag, qah, qai, qaj, qak, qal, qam, qan, qao, qap, qaq, qar, qas, qat, ↓entryVC, ↓condVC, ↓listVC, ↓memK, ↓memR, ↓envOf, ↓guardVC, ↓opVC, ↓pureVC, ↓binT, ↓wrapT, ↓TDsc.isW, ↓binW, ↓binVC, ↓bin8, ↓bin32, ↓bin64, ↓binInt, ↓shVC, ↓unVC, ↓cvVC, ↓rdVC, ↓loadVC, ↓pickC, ↓fillVC, ↓bndVC, ↓sliceVC, ↓bltVC, ↓storeVC, ↓appVC, ↓apzVC, ↓markVC, ↓copyVC, ↓callVC, ↓argsVC, ↓argVC, ↓bindR, ↓bindR1, ↓bindRs, ↓memVC, ↓delAll, ↓keepM, ↓extE, ↓extM, ↓leS, ↓leA, ↓retVC, ↓retR, ↓resVC, ↓resV1, ↓ressVC, ↓strU, ↓xAdd64, ↓xSub64, ↓pickA, frz, frzs, ev, absC, getA, setA, delA, tt, AV.good, AV.plain, AV.isSl, AV.cells, AV.one, Cells.len, Cells.get, Cells.sub, Cells.part, Cells.agg, Cells.upd, Cells.set, Cells.cat, Cells.rep, Cells.ones, TDsc.agg, zOf, putE, dstB, letGo, quietOp, slotOp, AV.isRp, rpVC, whoOf, mthOf, nilVC, TDsc.isP, storeGVC, pickA, ↓reduceIte, Nat.reduceEqDiff, Nat.reduceLT, Nat.reduceLeDiff, Nat.reduceAdd, Nat.reduceSub, Nat.reduceMul, Nat.reduceBEq, Int.reduceLE, Int.reduceLT, Int.reduceToNat, Int.reduceNeg, BitVec.reduceToNat, forall_const, reduceCtorEq, implies_true, ne_eq, memK2, memR2, t8, cSum1, H7.cSumR, H8.cSumR, sumF_length, H7.sumF_length, H8.sumF_length, l28, l48, z8_length])
    refine ⟨fun h2q => ?_, fun h2' => ?_⟩
    · subst h2q
      skip
      (try repeat (refine And.intro (by first | omega | (simp only [intIn]; omega) | (simp only [intIn]; done) | (simp; done) | (simp; omega) | decide) ?_))
      (try intros)
      (try simp (maxSteps := 10000000) (implicitDefEqProofs := false) only [↓qaa, ↓qab, ↓qac, ↓qad, ↓qae, ↓qaf, ↓qag, qah, qai, qaj, qak, qal, qam, qan, qao, qap, qaq, qar, qas, qat, ↓entryVC, ↓condVC, ↓listVC, ↓memK, ↓memR, ↓envOf, ↓guardVC, ↓opVC, ↓pureVC, ↓binT, ↓wrapT, ↓TDsc.isW, ↓binW, ↓binVC, ↓bin8, ↓bin32, ↓bin64, ↓binInt, ↓shVC, ↓unVC, ↓cvVC, ↓rdVC, ↓loadVC, ↓pickC, ↓fillVC, ↓bndVC, ↓sliceVC, ↓bltVC, ↓storeVC, ↓appVC, ↓apzVC, ↓markVC, ↓copyVC, ↓callVC, ↓argsVC, ↓argVC, ↓bindR, ↓bindR1, ↓bindRs, ↓memVC, ↓delAll, ↓keepM, ↓extE, ↓extM, ↓leS, ↓leA, ↓retVC, ↓retR, ↓resVC, ↓resV1, ↓ressVC, ↓strU, ↓xAdd64, ↓xSub64, ↓pickA, frz, frzs, ev, absC, getA, setA, delA, tt, AV.good, AV.plain, AV.isSl, AV.cells, AV.one, Cells.len, Cells.get, Cells.sub, Cells.part, Cells.agg, Cells.upd, Cells.set, Cells.cat, Cells.rep, Cells.ones, TDsc.agg, zOf, putE, dstB, letGo, quietOp, slotOp, AV.isRp, rpVC, whoOf, mthOf, nilVC, TDsc.isP, storeGVC, pickA, ↓reduceIte, Nat.reduceEqDiff, Nat.reduceLT, Nat.reduceLeDiff, Nat.reduceAdd, Nat.reduceSub, Nat.reduceMul, Nat.reduceBEq, Int.reduceLE, Int.reduceLT, Int.reduceToNat, Int.reduceNeg, BitVec.reduceToNat, forall_const, reduceCtorEq, implies_true, ne_eq, memK2, memR2, t8, cSum1, H7.cSumR, H8.cSumR, sumF_length, H7.sumF_length, H8.sumF_length, l28, l48, z8_length])
      (try repeat (refine And.intro (by first | omega | (simp only [intIn]; omega) | (simp only [intIn]; done) | (simp; done) | (simp; omega) | decide) ?_))
      have e20 : List.take 20 (sumF b) = sumF b := List.take_of_length_le (by rw [sumF_length]; exact Nat.le_refl _)
      (try rw [e20])
      simpa only [hashOf2] using h1 rfl
    · skip
      refine ⟨fun h11 => ?_, fun h11 => ?_⟩
      · subst h11
        skip
        (try repeat (refine And.intro (by first | omega | (simp only [intIn]; omega) | (simp only [intIn]; done) | (simp; done) | (simp; omega) | decide) ?_))
        (try intros)
        (try simp (maxSteps := 10000000) (implicitDefEqProofs := false) only [↓qaa, ↓qab, ↓qac, ↓qad, ↓qae, ↓qaf, ↓qag, qah, qai, qaj, qak, qal, qam, qan, qao, qap, qaq, qar, qas, qat, ↓entryVC, ↓condVC, ↓listVC, ↓memK, ↓memR, ↓envOf, ↓guardVC, ↓opVC, ↓pureVC, ↓binT, ↓wrapT, ↓TDsc.isW, ↓binW, ↓binVC, ↓bin8, ↓bin32, ↓bin64, ↓binInt, ↓shVC, ↓unVC, ↓cvVC, ↓rdVC, ↓loadVC, ↓pickC, ↓fillVC, ↓bndVC, ↓sliceVC, ↓bltVC, ↓storeVC, ↓appVC, ↓apzVC, ↓markVC, ↓copyVC, ↓callVC, ↓argsVC, ↓argVC, ↓bindR, ↓bindR1, ↓bindRs, ↓memVC, ↓delAll, ↓keepM, ↓extE, ↓extM, ↓leS, ↓leA, ↓retVC, ↓retR, ↓resVC, ↓resV1, ↓ressVC, ↓strU, ↓xAdd64, ↓xSub64, ↓pickA, frz, frzs, ev, absC, getA, setA, delA, tt, AV.good, AV.plain, AV.isSl, AV.cells, AV.one, Cells.len, Cells.get, Cells.sub, Cells.part, Cells.agg, Cells.upd, Cells.set, Cells.cat, Cells.rep, Cells.ones, TDsc.agg, zOf, putE, dstB, letGo, quietOp, slotOp, AV.isRp, rpVC, whoOf, mthOf, nilVC, TDsc.isP, storeGVC, pickA, ↓reduceIte, Nat.reduceEqDiff, Nat.reduceLT, Nat.reduceLeDiff, Nat.reduceAdd, Nat.reduceSub, Nat.reduceMul, Nat.reduceBEq, Int.reduceLE, Int.reduceLT, Int.reduceToNat, Int.reduceNeg, BitVec.reduceToNat, forall_const, reduceCtorEq, implies_true, ne_eq, memK2, memR2, t8, cSum1, H7.cSumR, H8.cSumR, sumF_length, H7.sumF_length, H8.sumF_length, l28, l48, z8_length])
        (try repeat (refine And.intro (by first | omega | (simp only [intIn]; omega) | (simp only [intIn]; done) | (simp; done) | (simp; omega) | decide) ?_))
        simpa only [decide_true, hashOf11, show decide ((11 : Int) = 8) = false from rfl, show decide ((8 : Int) = 8) = true from rfl, show decide ((9 : Int) = 10) = false from rfl, show decide ((10 : Int) = 10) = true from rfl] using h2 (by decide) (by decide)
      · skip
        refine ⟨fun h8 => ?_, fun h8 => ?_⟩
        · subst h8
          skip
          (try repeat (refine And.intro (by first | omega | (simp only [intIn]; omega) | (simp only [intIn]; done) | (simp; done) | (simp; omega) | decide) ?_))
          (try intros)
          (try simp (maxSteps := 10000000) (implicitDefEqProofs := false) only [↓qaa, ↓qab, ↓qac, ↓qad, ↓qae, ↓qaf, ↓qag, qah, qai, qaj, qak, qal, qam, qan, qao, qap, qaq, qar, qas, qat, ↓entryVC, ↓condVC, ↓listVC, ↓memK, ↓memR, ↓envOf, ↓guardVC, ↓opVC, ↓pureVC, ↓binT, ↓wrapT, ↓TDsc.isW, ↓binW, ↓binVC, ↓bin8, ↓bin32, ↓bin64, ↓binInt, ↓shVC, ↓unVC, ↓cvVC, ↓rdVC, ↓loadVC, ↓pickC, ↓fillVC, ↓bndVC, ↓sliceVC, ↓bltVC, ↓storeVC, ↓appVC, ↓apzVC, ↓markVC, ↓copyVC, ↓callVC, ↓argsVC, ↓argVC, ↓bindR, ↓bindR1, ↓bindRs, ↓memVC, ↓delAll, ↓keepM, ↓extE, ↓extM, ↓leS, ↓leA, ↓retVC, ↓retR, ↓resVC, ↓resV1, ↓ressVC, ↓strU, ↓xAdd64, ↓xSub64, ↓pickA, frz, frzs, ev, absC, getA, setA, delA, tt, AV.good, AV.plain, AV.isSl, AV.cells, AV.one, Cells.len, Cells.get, Cells.sub, Cells.part, Cells.agg, Cells.upd, Cells.set, Cells.cat, Cells.rep, Cells.ones, TDsc.agg, zOf, putE, dstB, letGo, quietOp, slotOp, AV.isRp, rpVC, whoOf, mthOf, nilVC, TDsc.isP, storeGVC, pickA, ↓reduceIte, Nat.reduceEqDiff, Nat.reduceLT, Nat.reduceLeDiff, Nat.reduceAdd, Nat.reduceSub, Nat.reduceMul, Nat.reduceBEq, Int.reduceLE, Int.reduceLT, Int.reduceToNat, Int.reduceNeg, BitVec.reduceToNat, forall_const, reduceCtorEq, implies_true, ne_eq, memK2, memR2, t8, cSum1, H7.cSumR, H8.cSumR, sumF_length, H7.sumF_length, H8.sumF_length, l28, l48, z8_length])
          (try repeat (refine And.intro (by first | omega | (simp only [intIn]; omega) | (simp only [intIn]; done) | (simp; done) | (simp; omega) | decide) ?_))
          simpa only [decide_true, hashOf8, show decide ((11 : Int) = 8) = false from rfl, show decide ((8 : Int) = 8) = true from rfl, show decide ((9 : Int) = 10) = false from rfl, show decide ((10 : Int) = 10) = true from rfl] using h2 (by decide) (by decide)
        · skip
          refine ⟨fun h9 => ?_, fun h9 => ?_⟩
          · subst h9
            skip
            (try repeat (refine And.intro (by first | omega | (simp only [intIn]; omega) | (simp only [intIn]; done) | (simp; done) | (simp; omega) | decide) ?_))
            (try intros)
            (try simp (maxSteps := 10000000) (implicitDefEqProofs := false) only [↓qaa, ↓qab, ↓qac, ↓qad, ↓qae, ↓qaf, ↓qag, qah, qai, qaj, qak, qal, qam, qan, qao, qap, qaq, qar, qas, qat, ↓entryVC, ↓condVC, ↓listVC, ↓memK, ↓memR, ↓envOf, ↓guardVC, ↓opVC, ↓pureVC, ↓binT, ↓wrapT, ↓TDsc.isW, ↓binW, ↓binVC, ↓bin8, ↓bin32, ↓bin64, ↓binInt, ↓shVC, ↓unVC, ↓cvVC, ↓rdVC, ↓loadVC, ↓pickC, ↓fillVC, ↓bndVC, ↓sliceVC, ↓bltVC, ↓storeVC, ↓appVC, ↓apzVC, ↓markVC, ↓copyVC, ↓callVC, ↓argsVC, ↓argVC, ↓bindR, ↓bindR1, ↓bindRs, ↓memVC, ↓delAll, ↓keepM, ↓extE, ↓extM, ↓leS, ↓leA, ↓retVC, ↓retR, ↓resVC, ↓resV1, ↓ressVC, ↓strU, ↓xAdd64, ↓xSub64, ↓pickA, frz, frzs, ev, absC, getA, setA, delA, tt, AV.good, AV.plain, AV.isSl, AV.cells, AV.one, Cells.len, Cells.get, Cells.sub, Cells.part, Cells.agg, Cells.upd, Cells.set, Cells.cat, Cells.rep, Cells.ones, TDsc.agg, zOf, putE, dstB, letGo, quietOp, slotOp, AV.isRp, rpVC, whoOf, mthOf, nilVC, TDsc.isP, storeGVC, pickA, ↓reduceIte, Nat.reduceEqDiff, Nat.reduceLT, Nat.reduceLeDiff, Nat.reduceAdd, Nat.reduceSub, Nat.reduceMul, Nat.reduceBEq, Int.reduceLE, Int.reduceLT, Int.reduceToNat, Int.reduceNeg, BitVec.reduceToNat, forall_const, reduceCtorEq, implies_true, ne_eq, memK2, memR2, t8, cSum1, H7.cSumR, H8.cSumR, sumF_length, H7.sumF_length, H8.sumF_length, l28, l48, z8_length])
            (try repeat (refine And.intro (by first | omega | (simp only [intIn]; omega) | (simp only [intIn]; done) | (simp; done) | (simp; omega) | decide) ?_))
            simpa only [decide_true, hashOf9, show decide ((11 : Int) = 8) = false from rfl, show decide ((8 : Int) = 8) = true from rfl, show decide ((9 : Int) = 10) = false from rfl, show decide ((10 : Int) = 10) = true from rfl] using h2 (by decide) (by decide)
          · skip
            refine ⟨fun h10 => ?_, fun h10 => ?_⟩
            · subst h10
              skip
              (try repeat (refine And.intro (by first | omega | (simp only [intIn]; omega) | (simp only [intIn]; done) | (simp; done) | (simp; omega) | decide) ?_))
              (try intros)
              (try simp (maxSteps := 10000000) (implicitDefEqProofs := false) only [↓qaa, ↓qab, ↓qac, ↓qad, ↓qae, ↓qaf, ↓qag, qah, qai, qaj, qak, qal, qam, qan, qao, qap, qaq, qar, qas, qat, ↓entryVC, ↓condVC, ↓listVC, ↓memK, ↓memR, ↓envOf, ↓guardVC, ↓opVC, ↓pureVC, ↓binT, ↓wrapT, ↓TDsc.isW, ↓binW, ↓binVC, ↓bin8, ↓bin32, ↓bin64, ↓binInt, ↓shVC, ↓unVC, ↓cvVC, ↓rdVC, ↓loadVC, ↓pickC, ↓fillVC, ↓bndVC, ↓sliceVC, ↓bltVC, ↓storeVC, ↓appVC, ↓apzVC, ↓markVC, ↓copyVC, ↓callVC, ↓argsVC, ↓argVC, ↓bindR, ↓bindR1, ↓bindRs, ↓memVC, ↓delAll, ↓keepM, ↓extE, ↓extM, ↓leS, ↓leA, ↓retVC, ↓retR, ↓resVC, ↓resV1, ↓ressVC, ↓strU, ↓xAdd64, ↓xSub64, ↓pickA, frz, frzs, ev, absC, getA, setA, delA, tt, AV.good, AV.plain, AV.isSl, AV.cells, AV.one, Cells.len, Cells.get, Cells.sub, Cells.part, Cells.agg, Cells.upd, Cells.set, Cells.cat, Cells.rep, Cells.ones, TDsc.agg, zOf, putE, dstB, letGo, quietOp, slotOp, AV.isRp, rpVC, whoOf, mthOf, nilVC, TDsc.isP, storeGVC, pickA, ↓reduceIte, Nat.reduceEqDiff, Nat.reduceLT, Nat.reduceLeDiff, Nat.reduceAdd, Nat.reduceSub, Nat.reduceMul, Nat.reduceBEq, Int.reduceLE, Int.reduceLT, Int.reduceToNat, Int.reduceNeg, BitVec.reduceToNat, forall_const, reduceCtorEq, implies_true, ne_eq, memK2, memR2, t8, cSum1, H7.cSumR, H8.cSumR, sumF_length, H7.sumF_length, H8.sumF_length, l28, l48, z8_length])
              (try repeat (refine And.intro (by first | omega | (simp only [intIn]; omega) | (simp only [intIn]; done) | (simp; done) | (simp; omega) | decide) ?_))
              simpa only [decide_true, hashOf10, show decide ((11 : Int) = 8) = false from rfl, show decide ((8 : Int) = 8) = true from rfl, show decide ((9 : Int) = 10) = false from rfl, show decide ((10 : Int) = 10) = true from rfl] using h2 (by decide) (by decide)
            · skip
              (try simp (maxSteps := 10000000) (implicitDefEqProofs := false) only [↓qaa, ↓qab, ↓qac, ↓qad, ↓qae, ↓qaf, ↓qag, qah, qai, qaj, qak, qal, qam, qan, qao, qap, qaq, qar, qas, qat, ↓entryVC, ↓condVC, ↓listVC, ↓memK, ↓memR, ↓envOf, ↓guardVC, ↓opVC, ↓pureVC, ↓binT, ↓wrapT, ↓TDsc.isW, ↓binW, ↓binVC, ↓bin8, ↓bin32, ↓bin64, ↓binInt, ↓shVC, ↓unVC, ↓cvVC, ↓rdVC, ↓loadVC, ↓pickC, ↓fillVC, ↓bndVC, ↓sliceVC, ↓bltVC, ↓storeVC, ↓appVC, ↓apzVC, ↓markVC, ↓copyVC, ↓callVC, ↓argsVC, ↓argVC, ↓bindR, ↓bindR1, ↓bindRs, ↓memVC, ↓delAll, ↓keepM, ↓extE, ↓extM, ↓leS, ↓leA, ↓retVC, ↓retR, ↓resVC, ↓resV1, ↓ressVC, ↓strU, ↓xAdd64, ↓xSub64, ↓pickA, frz, frzs, ev, absC, getA, setA, delA, tt, AV.good, AV.plain, AV.isSl, AV.cells, AV.one, Cells.len, Cells.get, Cells.sub, Cells.part, Cells.agg, Cells.upd, Cells.set, Cells.cat, Cells.rep, Cells.ones, TDsc.agg, zOf, putE, dstB, letGo, quietOp, slotOp, AV.isRp, rpVC, whoOf, mthOf, nilVC, TDsc.isP, storeGVC, pickA, ↓reduceIte, Nat.reduceEqDiff, Nat.reduceLT, Nat.reduceLeDiff, Nat.reduceAdd, Nat.reduceSub, Nat.reduceMul, Nat.reduceBEq, Int.reduceLE, Int.reduceLT, Int.reduceToNat, Int.reduceNeg, BitVec.reduceToNat, forall_const, reduceCtorEq, implies_true, ne_eq, memK2, memR2, t8, cSum1, H7.cSumR, H8.cSumR, sumF_length, H7.sumF_length, H8.sumF_length, l28, l48, z8_length])
              (try repeat (refine And.intro (by first | omega | (simp only [intIn]; omega) | (simp only [intIn]; done) | (simp; done) | (simp; omega) | decide) ?_))
              exact h3 (sz_no h2' h11 h8 h9 h10)
  · exact h.elim
theorem sSumD : Sound Try.prog 9 cHSum := sRS.weak fun cas K h => by
  unfold cHSum at h
  split at h
  · rename_i alg b
    obtain ⟨h0, h1, h2⟩ := h
    refine ⟨h0, fun e => wkK.tup (rs' := [.al (.c8 (hashOf alg b)), .v (.int 0)]) ⟨CR1.le_al _, CR1.le_refl _, trivial⟩ (h1 (by subst e; decide)), fun _ hz => wkK.same (h1 hz), fun hz => wkK.same (h2 hz)⟩
  · exact h.elim
end Go.Proofs.Ytlcaobnojbkmbaa
