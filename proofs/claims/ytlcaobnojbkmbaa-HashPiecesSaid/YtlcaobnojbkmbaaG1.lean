/- The hashes' closures, by the engine. -/
import Derived.Test.YtlcaobnojbkmbaaG0
namespace Go.Proofs.Ytlcaobnojbkmbaa
open Go Go.RowKit
set_option linter.unusedVariables false
set_option linter.unusedSimpArgs false

def cTko5 : CT := fun cas K => match cas with
  | [.v (.a32 hs), .s (.c8 b)] => (hs.length = 5 ∧ b.length = 64) ∧ K (.one (.v (.a32 (blockF (toV5 hs) b).l)))
  | _ => False
def cTlo5 : CT := fun cas K => match cas with
  | [.v (.a32 hs)] => hs.length = 5 ∧ K (.one (.al (.c8 (outL1 hs 20))))
  | _ => False
def cTks8 : CT := fun cas K => match cas with
  | [.v (.a32 hs), .s (.c8 b)] => (hs.length = 8 ∧ b.length = 64) ∧ K (.one (.v (.a32 (H7.blockF (H7.toV8 hs) b).l)))
  | _ => False
def cTls8 : CT := fun cas K => match cas with
  | [.v (.a32 hs), .p (.cv [.int n])] => (hs.length = 8 ∧ 0 ≤ n ∧ n ≤ 32) ∧ K (.one (.al (.c8 (H7.outL hs n.toNat))))
  | _ => False
def cTkw8 : CT := fun cas K => match cas with
  | [.v (.a64 hs), .s (.c8 b)] => (hs.length = 8 ∧ b.length = 128) ∧ K (.one (.v (.a64 (H8.blockF (H8.toV8 hs) b).l)))
  | _ => False
def cTlw8 : CT := fun cas K => match cas with
  | [.v (.a64 hs), .p (.cv [.int n])] => (hs.length = 8 ∧ 0 ≤ n ∧ n ≤ 64) ∧ K (.one (.al (.c8 (H8.outL hs n.toNat))))
  | _ => False
def g1 : CTab := fun F => match F with
  | 34 => .fn cBlock1
  | 39 => .fn H7.cBlock
  | 43 => .fn H8.cBlock
  | 36 => .fn cSpell32
  | 45 => .fn cSpell64
  | _ => .fn noCT
theorem g1_ok : CTok Try.prog g1 := by
  intro F
  unfold g1
  split
  · exact sBlock1
  · exact H7.sBlock
  · exact H8.sBlock
  · exact sSpell32
  · exact sSpell64
  · exact sound_none _ _
set_option maxRecDepth 100000 in
set_option maxHeartbeats 1000000 in
theorem sTko5 : Sound Try.prog 33 cTko5 := by
  refine sound_vc (tt := tt) (ct := g1) ttok g1_ok mixed Try.func33 rfl (by decide) (rs := [.cell 4 51]) rfl (ts := [51]) (k := 0) ?_
  intro cas K h
  unfold cTko5 at h
  split at h
  · rename_i hs b
    rw [Try.ntmps33]
    refine ⟨by simp, ?_⟩
    obtain ⟨⟨hh, hb⟩, h⟩ := h
    simp (maxSteps := 10000000) (implicitDefEqProofs := false) only [↓qaa, ↓qab, ↓qac, ↓qad, ↓qae, ↓qaf, ↓qag, qah, qai, qaj, qak, qal, qam, qan, qao, qap, qaq, qar, qas, qat, ↓entryVC, ↓condVC, ↓listVC, ↓memK, ↓memR, ↓envOf, ↓guardVC, ↓opVC, ↓pureVC, ↓binT, ↓wrapT, ↓TDsc.isW, ↓binW, ↓binVC, ↓bin8, ↓bin32, ↓bin64, ↓binInt, ↓shVC, ↓unVC, ↓cvVC, ↓rdVC, ↓loadVC, ↓pickC, ↓fillVC, ↓bndVC, ↓sliceVC, ↓bltVC, ↓storeVC, ↓appVC, ↓apzVC, ↓markVC, ↓copyVC, ↓callVC, ↓argsVC, ↓argVC, ↓bindR, ↓bindR1, ↓bindRs, ↓memVC, ↓delAll, ↓keepM, ↓extE, ↓extM, ↓leS, ↓leA, ↓retVC, ↓retR, ↓resVC, ↓resV1, ↓ressVC, ↓strU, ↓xAdd64, ↓xSub64, ↓pickA, frz, frzs, ev, absC, getA, setA, delA, tt, AV.good, AV.plain, AV.isSl, AV.cells, AV.one, Cells.len, Cells.get, Cells.sub, Cells.part, Cells.agg, Cells.upd, Cells.set, Cells.cat, Cells.rep, Cells.ones, TDsc.agg, zOf, putE, dstB, letGo, quietOp, slotOp, AV.isRp, rpVC, whoOf, mthOf, nilVC, TDsc.isP, storeGVC, pickA, ↓reduceIte, Nat.reduceEqDiff, Nat.reduceLT, Nat.reduceLeDiff, Nat.reduceAdd, Nat.reduceSub, Nat.reduceMul, Nat.reduceBEq, Int.reduceLE, Int.reduceLT, Int.reduceToNat, Int.reduceNeg, BitVec.reduceToNat, forall_const, reduceCtorEq, implies_true, ne_eq, memK2, memR2, g1, cBlock1, H7.cBlock, H8.cBlock, cSpell32, cSpell64, List.getD_cons_zero, hh, hb]
    intros
    have e1 : List.take 64 b = b := List.take_of_length_le (by omega)
    refine draw_ _ _ _ [(.fz, 1), (.tk, 0), (.tk, 2), (.tk, 3), (.ld, 4), (.ld, 5)] [] [] (by kernel_rfl) ?_
    simp (maxSteps := 10000000) (implicitDefEqProofs := false) only [↓qaa, ↓qab, ↓qac, ↓qad, ↓qae, ↓qaf, ↓qag, qah, qai, qaj, qak, qal, qam, qan, qao, qap, qaq, qar, qas, qat, ↓entryVC, ↓condVC, ↓listVC, ↓memK, ↓memR, ↓envOf, ↓guardVC, ↓opVC, ↓pureVC, ↓binT, ↓wrapT, ↓TDsc.isW, ↓binW, ↓binVC, ↓bin8, ↓bin32, ↓bin64, ↓binInt, ↓shVC, ↓unVC, ↓cvVC, ↓rdVC, ↓loadVC, ↓pickC, ↓fillVC, ↓bndVC, ↓sliceVC, ↓bltVC, ↓storeVC, ↓appVC, ↓apzVC, ↓markVC, ↓copyVC, ↓callVC, ↓argsVC, ↓argVC, ↓bindR, ↓bindR1, ↓bindRs, ↓memVC, ↓delAll, ↓keepM, ↓extE, ↓extM, ↓leS, ↓leA, ↓retVC, ↓retR, ↓resVC, ↓resV1, ↓ressVC, ↓strU, ↓xAdd64, ↓xSub64, ↓pickA, frz, frzs, ev, absC, getA, setA, delA, tt, AV.good, AV.plain, AV.isSl, AV.cells, AV.one, Cells.len, Cells.get, Cells.sub, Cells.part, Cells.agg, Cells.upd, Cells.set, Cells.cat, Cells.rep, Cells.ones, TDsc.agg, zOf, putE, dstB, letGo, quietOp, slotOp, AV.isRp, rpVC, whoOf, mthOf, nilVC, TDsc.isP, storeGVC, pickA, ↓reduceIte, Nat.reduceEqDiff, Nat.reduceLT, Nat.reduceLeDiff, Nat.reduceAdd, Nat.reduceSub, Nat.reduceMul, Nat.reduceBEq, Int.reduceLE, Int.reduceLT, Int.reduceToNat, Int.reduceNeg, BitVec.reduceToNat, forall_const, reduceCtorEq, implies_true, ne_eq, memK2, memR2, g1, cBlock1, H7.cBlock, H8.cBlock, cSpell32, cSpell64, List.getD_cons_zero, hh, hb, e1]
    (try refine ⟨hb, ?_⟩)
    refine ⟨V5.l_length _, ?_⟩
    rw [if_pos (V5.l_length _).symm]
    exact h
  · exact h.elim
set_option maxRecDepth 100000 in
set_option maxHeartbeats 1000000 in
theorem sTlo5 : Sound Try.prog 35 cTlo5 := by
  refine sound_vc (tt := tt) (ct := g1) ttok g1_ok mixed Try.func35 rfl (by decide) (rs := [.tmp 2]) rfl (ts := [22]) (k := 0) ?_
  intro cas K h
  unfold cTlo5 at h
  split at h
  · rename_i hs
    rw [Try.ntmps35]
    refine ⟨by simp, ?_⟩
    obtain ⟨hh, h⟩ := h
    have e1 : List.take 5 hs = hs := List.take_of_length_le (by omega)
    simp (maxSteps := 10000000) (implicitDefEqProofs := false) only [↓qaa, ↓qab, ↓qac, ↓qad, ↓qae, ↓qaf, ↓qag, qah, qai, qaj, qak, qal, qam, qan, qao, qap, qaq, qar, qas, qat, ↓entryVC, ↓condVC, ↓listVC, ↓memK, ↓memR, ↓envOf, ↓guardVC, ↓opVC, ↓pureVC, ↓binT, ↓wrapT, ↓TDsc.isW, ↓binW, ↓binVC, ↓bin8, ↓bin32, ↓bin64, ↓binInt, ↓shVC, ↓unVC, ↓cvVC, ↓rdVC, ↓loadVC, ↓pickC, ↓fillVC, ↓bndVC, ↓sliceVC, ↓bltVC, ↓storeVC, ↓appVC, ↓apzVC, ↓markVC, ↓copyVC, ↓callVC, ↓argsVC, ↓argVC, ↓bindR, ↓bindR1, ↓bindRs, ↓memVC, ↓delAll, ↓keepM, ↓extE, ↓extM, ↓leS, ↓leA, ↓retVC, ↓retR, ↓resVC, ↓resV1, ↓ressVC, ↓strU, ↓xAdd64, ↓xSub64, ↓pickA, frz, frzs, ev, absC, getA, setA, delA, tt, AV.good, AV.plain, AV.isSl, AV.cells, AV.one, Cells.len, Cells.get, Cells.sub, Cells.part, Cells.agg, Cells.upd, Cells.set, Cells.cat, Cells.rep, Cells.ones, TDsc.agg, zOf, putE, dstB, letGo, quietOp, slotOp, AV.isRp, rpVC, whoOf, mthOf, nilVC, TDsc.isP, storeGVC, pickA, ↓reduceIte, Nat.reduceEqDiff, Nat.reduceLT, Nat.reduceLeDiff, Nat.reduceAdd, Nat.reduceSub, Nat.reduceMul, Nat.reduceBEq, Int.reduceLE, Int.reduceLT, Int.reduceToNat, Int.reduceNeg, BitVec.reduceToNat, forall_const, reduceCtorEq, implies_true, ne_eq, memK2, memR2, g1, cBlock1, H7.cBlock, H8.cBlock, cSpell32, cSpell64, List.getD_cons_zero, hh, e1]
    repeat (refine And.intro (by first | omega | (simp only [intIn]; omega) | decide) ?_)
    intro _ _
    exact h
  · exact h.elim
set_option maxRecDepth 100000 in
set_option maxHeartbeats 1000000 in
theorem sTks8 : Sound Try.prog 38 cTks8 := by
  refine sound_vc (tt := tt) (ct := g1) ttok g1_ok mixed Try.func38 rfl (by decide) (rs := [.cell 4 56]) rfl (ts := [56]) (k := 0) ?_
  intro cas K h
  unfold cTks8 at h
  split at h
  · rename_i hs b
    rw [Try.ntmps38]
    refine ⟨by simp, ?_⟩
    obtain ⟨⟨hh, hb⟩, h⟩ := h
    simp (maxSteps := 10000000) (implicitDefEqProofs := false) only [↓qaa, ↓qab, ↓qac, ↓qad, ↓qae, ↓qaf, ↓qag, qah, qai, qaj, qak, qal, qam, qan, qao, qap, qaq, qar, qas, qat, ↓entryVC, ↓condVC, ↓listVC, ↓memK, ↓memR, ↓envOf, ↓guardVC, ↓opVC, ↓pureVC, ↓binT, ↓wrapT, ↓TDsc.isW, ↓binW, ↓binVC, ↓bin8, ↓bin32, ↓bin64, ↓binInt, ↓shVC, ↓unVC, ↓cvVC, ↓rdVC, ↓loadVC, ↓pickC, ↓fillVC, ↓bndVC, ↓sliceVC, ↓bltVC, ↓storeVC, ↓appVC, ↓apzVC, ↓markVC, ↓copyVC, ↓callVC, ↓argsVC, ↓argVC, ↓bindR, ↓bindR1, ↓bindRs, ↓memVC, ↓delAll, ↓keepM, ↓extE, ↓extM, ↓leS, ↓leA, ↓retVC, ↓retR, ↓resVC, ↓resV1, ↓ressVC, ↓strU, ↓xAdd64, ↓xSub64, ↓pickA, frz, frzs, ev, absC, getA, setA, delA, tt, AV.good, AV.plain, AV.isSl, AV.cells, AV.one, Cells.len, Cells.get, Cells.sub, Cells.part, Cells.agg, Cells.upd, Cells.set, Cells.cat, Cells.rep, Cells.ones, TDsc.agg, zOf, putE, dstB, letGo, quietOp, slotOp, AV.isRp, rpVC, whoOf, mthOf, nilVC, TDsc.isP, storeGVC, pickA, ↓reduceIte, Nat.reduceEqDiff, Nat.reduceLT, Nat.reduceLeDiff, Nat.reduceAdd, Nat.reduceSub, Nat.reduceMul, Nat.reduceBEq, Int.reduceLE, Int.reduceLT, Int.reduceToNat, Int.reduceNeg, BitVec.reduceToNat, forall_const, reduceCtorEq, implies_true, ne_eq, memK2, memR2, g1, cBlock1, H7.cBlock, H8.cBlock, cSpell32, cSpell64, List.getD_cons_zero, hh, hb]
    intros
    have e1 : List.take 64 b = b := List.take_of_length_le (by omega)
    refine draw_ _ _ _ [(.fz, 1), (.tk, 0), (.tk, 2), (.tk, 3), (.ld, 4), (.ld, 5)] [] [] (by kernel_rfl) ?_
    simp (maxSteps := 10000000) (implicitDefEqProofs := false) only [↓qaa, ↓qab, ↓qac, ↓qad, ↓qae, ↓qaf, ↓qag, qah, qai, qaj, qak, qal, qam, qan, qao, qap, qaq, qar, qas, qat, ↓entryVC, ↓condVC, ↓listVC, ↓memK, ↓memR, ↓envOf, ↓guardVC, ↓opVC, ↓pureVC, ↓binT, ↓wrapT, ↓TDsc.isW, ↓binW, ↓binVC, ↓bin8, ↓bin32, ↓bin64, ↓binInt, ↓shVC, ↓unVC, ↓cvVC, ↓rdVC, ↓loadVC, ↓pickC, ↓fillVC, ↓bndVC, ↓sliceVC, ↓bltVC, ↓storeVC, ↓appVC, ↓apzVC, ↓markVC, ↓copyVC, ↓callVC, ↓argsVC, ↓argVC, ↓bindR, ↓bindR1, ↓bindRs, ↓memVC, ↓delAll, ↓keepM, ↓extE, ↓extM, ↓leS, ↓leA, ↓retVC, ↓retR, ↓resVC, ↓resV1, ↓ressVC, ↓strU, ↓xAdd64, ↓xSub64, ↓pickA, frz, frzs, ev, absC, getA, setA, delA, tt, AV.good, AV.plain, AV.isSl, AV.cells, AV.one, Cells.len, Cells.get, Cells.sub, Cells.part, Cells.agg, Cells.upd, Cells.set, Cells.cat, Cells.rep, Cells.ones, TDsc.agg, zOf, putE, dstB, letGo, quietOp, slotOp, AV.isRp, rpVC, whoOf, mthOf, nilVC, TDsc.isP, storeGVC, pickA, ↓reduceIte, Nat.reduceEqDiff, Nat.reduceLT, Nat.reduceLeDiff, Nat.reduceAdd, Nat.reduceSub, Nat.reduceMul, Nat.reduceBEq, Int.reduceLE, Int.reduceLT, Int.reduceToNat, Int.reduceNeg, BitVec.reduceToNat, forall_const, reduceCtorEq, implies_true, ne_eq, memK2, memR2, g1, cBlock1, H7.cBlock, H8.cBlock, cSpell32, cSpell64, List.getD_cons_zero, hh, hb, e1]
    (try refine ⟨hb, ?_⟩)
    refine ⟨H7.V8.l_length _, ?_⟩
    rw [if_pos (H7.V8.l_length _).symm]
    exact h
  · exact h.elim
set_option maxRecDepth 100000 in
set_option maxHeartbeats 1000000 in
theorem sTls8 : Sound Try.prog 40 cTls8 := by
  refine sound_vc (tt := tt) (ct := g1) ttok g1_ok mixed Try.func40 rfl (by decide) (rs := [.tmp 3]) rfl (ts := [22]) (k := 0) ?_
  intro cas K h
  unfold cTls8 at h
  split at h
  · rename_i hs n
    rw [Try.ntmps40]
    refine ⟨by simp, ?_⟩
    obtain ⟨⟨hh, h0, hn⟩, h⟩ := h
    simp (maxSteps := 10000000) (implicitDefEqProofs := false) only [↓qaa, ↓qab, ↓qac, ↓qad, ↓qae, ↓qaf, ↓qag, qah, qai, qaj, qak, qal, qam, qan, qao, qap, qaq, qar, qas, qat, ↓entryVC, ↓condVC, ↓listVC, ↓memK, ↓memR, ↓envOf, ↓guardVC, ↓opVC, ↓pureVC, ↓binT, ↓wrapT, ↓TDsc.isW, ↓binW, ↓binVC, ↓bin8, ↓bin32, ↓bin64, ↓binInt, ↓shVC, ↓unVC, ↓cvVC, ↓rdVC, ↓loadVC, ↓pickC, ↓fillVC, ↓bndVC, ↓sliceVC, ↓bltVC, ↓storeVC, ↓appVC, ↓apzVC, ↓markVC, ↓copyVC, ↓callVC, ↓argsVC, ↓argVC, ↓bindR, ↓bindR1, ↓bindRs, ↓memVC, ↓delAll, ↓keepM, ↓extE, ↓extM, ↓leS, ↓leA, ↓retVC, ↓retR, ↓resVC, ↓resV1, ↓ressVC, ↓strU, ↓xAdd64, ↓xSub64, ↓pickA, frz, frzs, ev, absC, getA, setA, delA, tt, AV.good, AV.plain, AV.isSl, AV.cells, AV.one, Cells.len, Cells.get, Cells.sub, Cells.part, Cells.agg, Cells.upd, Cells.set, Cells.cat, Cells.rep, Cells.ones, TDsc.agg, zOf, putE, dstB, letGo, quietOp, slotOp, AV.isRp, rpVC, whoOf, mthOf, nilVC, TDsc.isP, storeGVC, pickA, ↓reduceIte, Nat.reduceEqDiff, Nat.reduceLT, Nat.reduceLeDiff, Nat.reduceAdd, Nat.reduceSub, Nat.reduceMul, Nat.reduceBEq, Int.reduceLE, Int.reduceLT, Int.reduceToNat, Int.reduceNeg, BitVec.reduceToNat, forall_const, reduceCtorEq, implies_true, ne_eq, memK2, memR2, g1, cBlock1, H7.cBlock, H8.cBlock, cSpell32, cSpell64, List.getD_cons_zero, hh]
    intros
    have e1 : List.take 8 hs = hs := List.take_of_length_le (by omega)
    refine draw_ _ _ _ [(.tk, 0), (.tk, 1), (.ld, 2), (.fz, 3)] [] [] (by kernel_rfl) ?_
    simp (maxSteps := 10000000) (implicitDefEqProofs := false) only [↓qaa, ↓qab, ↓qac, ↓qad, ↓qae, ↓qaf, ↓qag, qah, qai, qaj, qak, qal, qam, qan, qao, qap, qaq, qar, qas, qat, ↓entryVC, ↓condVC, ↓listVC, ↓memK, ↓memR, ↓envOf, ↓guardVC, ↓opVC, ↓pureVC, ↓binT, ↓wrapT, ↓TDsc.isW, ↓binW, ↓binVC, ↓bin8, ↓bin32, ↓bin64, ↓binInt, ↓shVC, ↓unVC, ↓cvVC, ↓rdVC, ↓loadVC, ↓pickC, ↓fillVC, ↓bndVC, ↓sliceVC, ↓bltVC, ↓storeVC, ↓appVC, ↓apzVC, ↓markVC, ↓copyVC, ↓callVC, ↓argsVC, ↓argVC, ↓bindR, ↓bindR1, ↓bindRs, ↓memVC, ↓delAll, ↓keepM, ↓extE, ↓extM, ↓leS, ↓leA, ↓retVC, ↓retR, ↓resVC, ↓resV1, ↓ressVC, ↓strU, ↓xAdd64, ↓xSub64, ↓pickA, frz, frzs, ev, absC, getA, setA, delA, tt, AV.good, AV.plain, AV.isSl, AV.cells, AV.one, Cells.len, Cells.get, Cells.sub, Cells.part, Cells.agg, Cells.upd, Cells.set, Cells.cat, Cells.rep, Cells.ones, TDsc.agg, zOf, putE, dstB, letGo, quietOp, slotOp, AV.isRp, rpVC, whoOf, mthOf, nilVC, TDsc.isP, storeGVC, pickA, ↓reduceIte, Nat.reduceEqDiff, Nat.reduceLT, Nat.reduceLeDiff, Nat.reduceAdd, Nat.reduceSub, Nat.reduceMul, Nat.reduceBEq, Int.reduceLE, Int.reduceLT, Int.reduceToNat, Int.reduceNeg, BitVec.reduceToNat, forall_const, reduceCtorEq, implies_true, ne_eq, memK2, memR2, g1, cBlock1, H7.cBlock, H8.cBlock, cSpell32, cSpell64, List.getD_cons_zero, hh, e1]
    repeat (refine And.intro (by first | omega | (simp only [intIn]; omega) | decide) ?_)
    intro c hc
    rw [spell_eq32]
    exact h
  · exact h.elim
set_option maxRecDepth 100000 in
set_option maxHeartbeats 1000000 in
theorem sTkw8 : Sound Try.prog 42 cTkw8 := by
  refine sound_vc (tt := tt) (ct := g1) ttok g1_ok mixed Try.func42 rfl (by decide) (rs := [.cell 4 59]) rfl (ts := [59]) (k := 0) ?_
  intro cas K h
  unfold cTkw8 at h
  split at h
  · rename_i hs b
    rw [Try.ntmps42]
    refine ⟨by simp, ?_⟩
    obtain ⟨⟨hh, hb⟩, h⟩ := h
    simp (maxSteps := 10000000) (implicitDefEqProofs := false) only [↓qaa, ↓qab, ↓qac, ↓qad, ↓qae, ↓qaf, ↓qag, qah, qai, qaj, qak, qal, qam, qan, qao, qap, qaq, qar, qas, qat, ↓entryVC, ↓condVC, ↓listVC, ↓memK, ↓memR, ↓envOf, ↓guardVC, ↓opVC, ↓pureVC, ↓binT, ↓wrapT, ↓TDsc.isW, ↓binW, ↓binVC, ↓bin8, ↓bin32, ↓bin64, ↓binInt, ↓shVC, ↓unVC, ↓cvVC, ↓rdVC, ↓loadVC, ↓pickC, ↓fillVC, ↓bndVC, ↓sliceVC, ↓bltVC, ↓storeVC, ↓appVC, ↓apzVC, ↓markVC, ↓copyVC, ↓callVC, ↓argsVC, ↓argVC, ↓bindR, ↓bindR1, ↓bindRs, ↓memVC, ↓delAll, ↓keepM, ↓extE, ↓extM, ↓leS, ↓leA, ↓retVC, ↓retR, ↓resVC, ↓resV1, ↓ressVC, ↓strU, ↓xAdd64, ↓xSub64, ↓pickA, frz, frzs, ev, absC, getA, setA, delA, tt, AV.good, AV.plain, AV.isSl, AV.cells, AV.one, Cells.len, Cells.get, Cells.sub, Cells.part, Cells.agg, Cells.upd, Cells.set, Cells.cat, Cells.rep, Cells.ones, TDsc.agg, zOf, putE, dstB, letGo, quietOp, slotOp, AV.isRp, rpVC, whoOf, mthOf, nilVC, TDsc.isP, storeGVC, pickA, ↓reduceIte, Nat.reduceEqDiff, Nat.reduceLT, Nat.reduceLeDiff, Nat.reduceAdd, Nat.reduceSub, Nat.reduceMul, Nat.reduceBEq, Int.reduceLE, Int.reduceLT, Int.reduceToNat, Int.reduceNeg, BitVec.reduceToNat, forall_const, reduceCtorEq, implies_true, ne_eq, memK2, memR2, g1, cBlock1, H7.cBlock, H8.cBlock, cSpell32, cSpell64, List.getD_cons_zero, hh, hb]
    intros
    have e1 : List.take 128 b = b := List.take_of_length_le (by omega)
    refine draw_ _ _ _ [(.fz, 1), (.tk, 0), (.tk, 2), (.tk, 3), (.ld, 4), (.ld, 5)] [] [] (by kernel_rfl) ?_
    simp (maxSteps := 10000000) (implicitDefEqProofs := false) only [↓qaa, ↓qab, ↓qac, ↓qad, ↓qae, ↓qaf, ↓qag, qah, qai, qaj, qak, qal, qam, qan, qao, qap, qaq, qar, qas, qat, ↓entryVC, ↓condVC, ↓listVC, ↓memK, ↓memR, ↓envOf, ↓guardVC, ↓opVC, ↓pureVC, ↓binT, ↓wrapT, ↓TDsc.isW, ↓binW, ↓binVC, ↓bin8, ↓bin32, ↓bin64, ↓binInt, ↓shVC, ↓unVC, ↓cvVC, ↓rdVC, ↓loadVC, ↓pickC, ↓fillVC, ↓bndVC, ↓sliceVC, ↓bltVC, ↓storeVC, ↓appVC, ↓apzVC, ↓markVC, ↓copyVC, ↓callVC, ↓argsVC, ↓argVC, ↓bindR, ↓bindR1, ↓bindRs, ↓memVC, ↓delAll, ↓keepM, ↓extE, ↓extM, ↓leS, ↓leA, ↓retVC, ↓retR, ↓resVC, ↓resV1, ↓ressVC, ↓strU, ↓xAdd64, ↓xSub64, ↓pickA, frz, frzs, ev, absC, getA, setA, delA, tt, AV.good, AV.plain, AV.isSl, AV.cells, AV.one, Cells.len, Cells.get, Cells.sub, Cells.part, Cells.agg, Cells.upd, Cells.set, Cells.cat, Cells.rep, Cells.ones, TDsc.agg, zOf, putE, dstB, letGo, quietOp, slotOp, AV.isRp, rpVC, whoOf, mthOf, nilVC, TDsc.isP, storeGVC, pickA, ↓reduceIte, Nat.reduceEqDiff, Nat.reduceLT, Nat.reduceLeDiff, Nat.reduceAdd, Nat.reduceSub, Nat.reduceMul, Nat.reduceBEq, Int.reduceLE, Int.reduceLT, Int.reduceToNat, Int.reduceNeg, BitVec.reduceToNat, forall_const, reduceCtorEq, implies_true, ne_eq, memK2, memR2, g1, cBlock1, H7.cBlock, H8.cBlock, cSpell32, cSpell64, List.getD_cons_zero, hh, hb, e1]
    (try refine ⟨hb, ?_⟩)
    refine ⟨H8.V8.l_length _, ?_⟩
    rw [if_pos (H8.V8.l_length _).symm]
    exact h
  · exact h.elim
set_option maxRecDepth 100000 in
set_option maxHeartbeats 1000000 in
theorem sTlw8 : Sound Try.prog 44 cTlw8 := by
  refine sound_vc (tt := tt) (ct := g1) ttok g1_ok mixed Try.func44 rfl (by decide) (rs := [.tmp 3]) rfl (ts := [22]) (k := 0) ?_
  intro cas K h
  unfold cTlw8 at h
  split at h
  · rename_i hs n
    rw [Try.ntmps44]
    refine ⟨by simp, ?_⟩
    obtain ⟨⟨hh, h0, hn⟩, h⟩ := h
    simp (maxSteps := 10000000) (implicitDefEqProofs := false) only [↓qaa, ↓qab, ↓qac, ↓qad, ↓qae, ↓qaf, ↓qag, qah, qai, qaj, qak, qal, qam, qan, qao, qap, qaq, qar, qas, qat, ↓entryVC, ↓condVC, ↓listVC, ↓memK, ↓memR, ↓envOf, ↓guardVC, ↓opVC, ↓pureVC, ↓binT, ↓wrapT, ↓TDsc.isW, ↓binW, ↓binVC, ↓bin8, ↓bin32, ↓bin64, ↓binInt, ↓shVC, ↓unVC, ↓cvVC, ↓rdVC, ↓loadVC, ↓pickC, ↓fillVC, ↓bndVC, ↓sliceVC, ↓bltVC, ↓storeVC, ↓appVC, ↓apzVC, ↓markVC, ↓copyVC, ↓callVC, ↓argsVC, ↓argVC, ↓bindR, ↓bindR1, ↓bindRs, ↓memVC, ↓delAll, ↓keepM, ↓extE, ↓extM, ↓leS, ↓leA, ↓retVC, ↓retR, ↓resVC, ↓resV1, ↓ressVC, ↓strU, ↓xAdd64, ↓xSub64, ↓pickA, frz, frzs, ev, absC, getA, setA, delA, tt, AV.good, AV.plain, AV.isSl, AV.cells, AV.one, Cells.len, Cells.get, Cells.sub, Cells.part, Cells.agg, Cells.upd, Cells.set, Cells.cat, Cells.rep, Cells.ones, TDsc.agg, zOf, putE, dstB, letGo, quietOp, slotOp, AV.isRp, rpVC, whoOf, mthOf, nilVC, TDsc.isP, storeGVC, pickA, ↓reduceIte, Nat.reduceEqDiff, Nat.reduceLT, Nat.reduceLeDiff, Nat.reduceAdd, Nat.reduceSub, Nat.reduceMul, Nat.reduceBEq, Int.reduceLE, Int.reduceLT, Int.reduceToNat, Int.reduceNeg, BitVec.reduceToNat, forall_const, reduceCtorEq, implies_true, ne_eq, memK2, memR2, g1, cBlock1, H7.cBlock, H8.cBlock, cSpell32, cSpell64, List.getD_cons_zero, hh]
    intros
    have e1 : List.take 8 hs = hs := List.take_of_length_le (by omega)
    refine draw_ _ _ _ [(.tk, 0), (.tk, 1), (.ld, 2), (.fz, 3)] [] [] (by kernel_rfl) ?_
    simp (maxSteps := 10000000) (implicitDefEqProofs := false) only [↓qaa, ↓qab, ↓qac, ↓qad, ↓qae, ↓qaf, ↓qag, qah, qai, qaj, qak, qal, qam, qan, qao, qap, qaq, qar, qas, qat, ↓entryVC, ↓condVC, ↓listVC, ↓memK, ↓memR, ↓envOf, ↓guardVC, ↓opVC, ↓pureVC, ↓binT, ↓wrapT, ↓TDsc.isW, ↓binW, ↓binVC, ↓bin8, ↓bin32, ↓bin64, ↓binInt, ↓shVC, ↓unVC, ↓cvVC, ↓rdVC, ↓loadVC, ↓pickC, ↓fillVC, ↓bndVC, ↓sliceVC, ↓bltVC, ↓storeVC, ↓appVC, ↓apzVC, ↓markVC, ↓copyVC, ↓callVC, ↓argsVC, ↓argVC, ↓bindR, ↓bindR1, ↓bindRs, ↓memVC, ↓delAll, ↓keepM, ↓extE, ↓extM, ↓leS, ↓leA, ↓retVC, ↓retR, ↓resVC, ↓resV1, ↓ressVC, ↓strU, ↓xAdd64, ↓xSub64, ↓pickA, frz, frzs, ev, absC, getA, setA, delA, tt, AV.good, AV.plain, AV.isSl, AV.cells, AV.one, Cells.len, Cells.get, Cells.sub, Cells.part, Cells.agg, Cells.upd, Cells.set, Cells.cat, Cells.rep, Cells.ones, TDsc.agg, zOf, putE, dstB, letGo, quietOp, slotOp, AV.isRp, rpVC, whoOf, mthOf, nilVC, TDsc.isP, storeGVC, pickA, ↓reduceIte, Nat.reduceEqDiff, Nat.reduceLT, Nat.reduceLeDiff, Nat.reduceAdd, Nat.reduceSub, Nat.reduceMul, Nat.reduceBEq, Int.reduceLE, Int.reduceLT, Int.reduceToNat, Int.reduceNeg, BitVec.reduceToNat, forall_const, reduceCtorEq, implies_true, ne_eq, memK2, memR2, g1, cBlock1, H7.cBlock, H8.cBlock, cSpell32, cSpell64, List.getD_cons_zero, hh, e1]
    repeat (refine And.intro (by first | omega | (simp only [intIn]; omega) | decide) ?_)
    intro c hc
    rw [spell_eq64]
    exact h
  · exact h.elim
end Go.Proofs.Ytlcaobnojbkmbaa
