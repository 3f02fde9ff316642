/- The program's hash: sizes, a new one, the hash of bytes; and the document's. -/
import Derived.Test.YtlcaobnojbkmbaaG6
import Derived.Test.YtlcaobnojbkmbaaEng3
namespace Go.Proofs.Ytlcaobnojbkmbaa
open Go Go.RowKit
set_option linter.unusedVariables false
set_option linter.unusedSimpArgs false

def cSize : CT := fun cas K => match cas with
  | [.v (.int alg)] => K (.one (.v (.int (sizeF alg))))
  | _ => False
def cWeak : CT := fun cas K => match cas with
  | [.v (.int alg)] => K (.one (.v (.bool (decide (alg = 2 ∨ sizeF alg = 0)))))
  | _ => False
theorem sz2 : sizeF 2 = 20 := by decide
theorem sz11 : sizeF 11 = 28 := by decide
theorem sz8 : sizeF 8 = 32 := by decide
theorem sz9 : sizeF 9 = 48 := by decide
theorem sz10 : sizeF 10 = 64 := by decide
theorem sz_no {alg : Int} (h2 : ¬ alg = 2) (h11 : ¬ alg = 11) (h8 : ¬ alg = 8) (h9 : ¬ alg = 9) (h10 : ¬ alg = 10) : sizeF alg = 0 := by simp [sizeF, *]
def lNew : LT := fun args m K => match args with
  | [.int alg] => m = [] ∧ (sizeF alg ≠ 0 → ∀ (e : Eng) gh g, e.Has alg [] → K (.tup [.ptr 0 gh 0, .int 0]) (HM e gh g 0)) ∧ (sizeF alg = 0 → K (.tup [.nilp, .int 9]) [])
  | _ => False
def cHSum : CT := fun cas K => match cas with
  | [.v (.int alg), .s (.c8 b)] => b.length ≤ 1000000 ∧ (sizeF alg ≠ 0 → K (.tup [.al (.c8 (hashOf alg b)), .v (.int 0)])) ∧ (sizeF alg = 0 → K (.tup [.s (.c8 []), .v (.int 9)]))
  | _ => False
def g7a : CTab := fun F => match F with
  | _ => .fn noCT
theorem g7a_ok : CTok Try.prog g7a := by
  intro F
  unfold g7a
  split
  · exact sound_none _ _
set_option maxRecDepth 100000 in
set_option maxHeartbeats 1000000 in
theorem sSize : Sound Try.prog 10 cSize := by
  refine sound_vc (tt := tt) (ct := g7a) ttok g7a_ok mixed Try.func10 rfl (by decide) (rs := [.tmp 2]) rfl (ts := [3]) (k := 0) ?_
  intro cas K h
  unfold cSize at h
  split at h
  · rename_i alg
    rw [Try.ntmps10]
    refine ⟨by simp, ?_⟩
    simp (maxSteps := 10000000) (implicitDefEqProofs := false) only [↓qaa, ↓qab, ↓qac, ↓qad, ↓qae, ↓qaf, ↓qag, qah, qai, qaj, qak, qal, qam, qan, qao, qap, qaq, qar, qas, qat, ↓entryVC, ↓condVC, ↓listVC, ↓memK, ↓memR, ↓envOf, ↓guardVC, ↓opVC, ↓pureVC, ↓binT, ↓wrapT, ↓TDsc.isW, ↓binW, ↓binVC, ↓bin8, ↓bin32, ↓bin64, ↓binInt, ↓shVC, ↓unVC, ↓cvVC, ↓rdVC, ↓loadVC, ↓pickC, ↓fillVC, ↓bndVC, ↓sliceVC, ↓bltVC, ↓storeVC, ↓appVC, ↓apzVC, ↓markVC, ↓copyVC, ↓callVC, ↓argsVC, ↓argVC, ↓bindR, ↓bindR1, ↓bindRs, ↓memVC, ↓delAll, ↓keepM, ↓extE, ↓extM, ↓leS, ↓leA, ↓retVC, ↓retR, ↓resVC, ↓resV1, ↓ressVC, ↓strU, ↓xAdd64, ↓xSub64, ↓pickA, frz, frzs, ev, absC, getA, setA, delA, tt, AV.good, AV.plain, AV.isSl, AV.cells, AV.one, Cells.len, Cells.get, Cells.sub, Cells.part, Cells.agg, Cells.upd, Cells.set, Cells.cat, Cells.rep, Cells.ones, TDsc.agg, zOf, putE, dstB, letGo, quietOp, slotOp, AV.isRp, rpVC, whoOf, mthOf, nilVC, TDsc.isP, storeGVC, pickA, ↓reduceIte, Nat.reduceEqDiff, Nat.reduceLT, Nat.reduceLeDiff, Nat.reduceAdd, Nat.reduceSub, Nat.reduceMul, Nat.reduceBEq, Int.reduceLE, Int.reduceLT, Int.reduceToNat, Int.reduceNeg, BitVec.reduceToNat, forall_const, reduceCtorEq, implies_true, ne_eq, memK2, memR2, g7a]
    refine ⟨fun h2 => ?_, fun h2 => ?_⟩
    · subst h2; rw [sz2] at h; exact h
    · skip
      refine ⟨fun h11 => ?_, fun h11 => ?_⟩
      · subst h11; rw [sz11] at h; exact h
      · skip
        refine ⟨fun h8 => ?_, fun h8 => ?_⟩
        · subst h8; rw [sz8] at h; exact h
        · skip
          refine ⟨fun h9 => ?_, fun h9 => ?_⟩
          · subst h9; rw [sz9] at h; exact h
          · skip
            refine ⟨fun h10 => ?_, fun h10 => ?_⟩
            · subst h10; rw [sz10] at h; exact h
            · skip
              rw [sz_no h2 h11 h8 h9 h10] at h; exact h
  · exact h.elim
set_option maxRecDepth 100000 in
set_option maxHeartbeats 1000000 in
theorem sSizeR : Sound Try.prog 11 cSize := by
  refine sound_vc (tt := tt) (ct := g7a) ttok g7a_ok mixed Try.func11 rfl (by decide) (rs := [.tmp 2]) rfl (ts := [3]) (k := 0) ?_
  intro cas K h
  unfold cSize at h
  split at h
  · rename_i alg
    rw [Try.ntmps11]
    refine ⟨by simp, ?_⟩
    simp (maxSteps := 10000000) (implicitDefEqProofs := false) only [↓qaa, ↓qab, ↓qac, ↓qad, ↓qae, ↓qaf, ↓qag, qah, qai, qaj, qak, qal, qam, qan, qao, qap, qaq, qar, qas, qat, ↓entryVC, ↓condVC, ↓listVC, ↓memK, ↓memR, ↓envOf, ↓guardVC, ↓opVC, ↓pureVC, ↓binT, ↓wrapT, ↓TDsc.isW, ↓binW, ↓binVC, ↓bin8, ↓bin32, ↓bin64, ↓binInt, ↓shVC, ↓unVC, ↓cvVC, ↓rdVC, ↓loadVC, ↓pickC, ↓fillVC, ↓bndVC, ↓sliceVC, ↓bltVC, ↓storeVC, ↓appVC, ↓apzVC, ↓markVC, ↓copyVC, ↓callVC, ↓argsVC, ↓argVC, ↓bindR, ↓bindR1, ↓bindRs, ↓memVC, ↓delAll, ↓keepM, ↓extE, ↓extM, ↓leS, ↓leA, ↓retVC, ↓retR, ↓resVC, ↓resV1, ↓ressVC, ↓strU, ↓xAdd64, ↓xSub64, ↓pickA, frz, frzs, ev, absC, getA, setA, delA, tt, AV.good, AV.plain, AV.isSl, AV.cells, AV.one, Cells.len, Cells.get, Cells.sub, Cells.part, Cells.agg, Cells.upd, Cells.set, Cells.cat, Cells.rep, Cells.ones, TDsc.agg, zOf, putE, dstB, letGo, quietOp, slotOp, AV.isRp, rpVC, whoOf, mthOf, nilVC, TDsc.isP, storeGVC, pickA, ↓reduceIte, Nat.reduceEqDiff, Nat.reduceLT, Nat.reduceLeDiff, Nat.reduceAdd, Nat.reduceSub, Nat.reduceMul, Nat.reduceBEq, Int.reduceLE, Int.reduceLT, Int.reduceToNat, Int.reduceNeg, BitVec.reduceToNat, forall_const, reduceCtorEq, implies_true, ne_eq, memK2, memR2, g7a]
    refine ⟨fun h2 => ?_, fun h2 => ?_⟩
    · subst h2; rw [sz2] at h; exact h
    · skip
      refine ⟨fun h8 => ?_, fun h8 => ?_⟩
      · subst h8; rw [sz8] at h; exact h
      · skip
        refine ⟨fun h9 => ?_, fun h9 => ?_⟩
        · subst h9; rw [sz9] at h; exact h
        · skip
          refine ⟨fun h10 => ?_, fun h10 => ?_⟩
          · subst h10; rw [sz10] at h; exact h
          · skip
            refine ⟨fun h11 => ?_, fun h11 => ?_⟩
            · subst h11; rw [sz11] at h; exact h
            · skip
              rw [sz_no h2 h11 h8 h9 h10] at h; exact h
  · exact h.elim
def g7b : CTab := fun F => match F with
  | 10 => .fn cSize
  | 11 => .fn cSize
  | 22 => .mem (Loc lOld)
  | 23 => .mem (Loc lShort)
  | 24 => .mem (Loc lWide)
  | _ => .fn noCT
theorem g7b_ok : CTok Try.prog g7b := by
  intro F
  unfold g7b
  split
  · exact sSize
  · exact sSizeR
  · exact (Loc_ok sOld)
  · exact (Loc_ok sShort)
  · exact (Loc_ok sWide)
  · exact sound_none _ _
set_option maxRecDepth 100000 in
set_option maxHeartbeats 1000000 in
theorem sWeak : Sound Try.prog 12 cWeak := by
  refine sound_vc (tt := tt) (ct := g7b) ttok g7b_ok mixed Try.func12 rfl (by decide) (rs := [.tmp 2]) rfl (ts := [4]) (k := 0) ?_
  intro cas K h
  unfold cWeak at h
  split at h
  · rename_i alg
    rw [Try.ntmps12]
    refine ⟨by simp, ?_⟩
    simp (maxSteps := 10000000) (implicitDefEqProofs := false) only [↓qaa, ↓qab, ↓qac, ↓qad, ↓qae, ↓qaf, ↓qag, qah, qai, qaj, qak, qal, qam, qan, qao, qap, qaq, qar, qas, qat, ↓entryVC, ↓condVC, ↓listVC, ↓memK, ↓memR, ↓envOf, ↓guardVC, ↓opVC, ↓pureVC, ↓binT, ↓wrapT, ↓TDsc.isW, ↓binW, ↓binVC, ↓bin8, ↓bin32, ↓bin64, ↓binInt, ↓shVC, ↓unVC, ↓cvVC, ↓rdVC, ↓loadVC, ↓pickC, ↓fillVC, ↓bndVC, ↓sliceVC, ↓bltVC, ↓storeVC, ↓appVC, ↓apzVC, ↓markVC, ↓copyVC, ↓callVC, ↓argsVC, ↓argVC, ↓bindR, ↓bindR1, ↓bindRs, ↓memVC, ↓delAll, ↓keepM, ↓extE, ↓extM, ↓leS, ↓leA, ↓retVC, ↓retR, ↓resVC, ↓resV1, ↓ressVC, ↓strU, ↓xAdd64, ↓xSub64, ↓pickA, frz, frzs, ev, absC, getA, setA, delA, tt, AV.good, AV.plain, AV.isSl, AV.cells, AV.one, Cells.len, Cells.get, Cells.sub, Cells.part, Cells.agg, Cells.upd, Cells.set, Cells.cat, Cells.rep, Cells.ones, TDsc.agg, zOf, putE, dstB, letGo, quietOp, slotOp, AV.isRp, rpVC, whoOf, mthOf, nilVC, TDsc.isP, storeGVC, pickA, ↓reduceIte, Nat.reduceEqDiff, Nat.reduceLT, Nat.reduceLeDiff, Nat.reduceAdd, Nat.reduceSub, Nat.reduceMul, Nat.reduceBEq, Int.reduceLE, Int.reduceLT, Int.reduceToNat, Int.reduceNeg, BitVec.reduceToNat, forall_const, reduceCtorEq, implies_true, ne_eq, memK2, memR2, g7b, cSize]
    refine ⟨fun h2 => ?_, fun h2 => ?_⟩
    · rw [show (decide (alg = 2 ∨ sizeF alg = 0)) = decide (sizeF alg = 0) by simp [h2]] at h; exact h
    · rw [decide_eq_true (.inl h2)] at h; exact h
  · exact h.elim
set_option maxRecDepth 100000 in
set_option maxHeartbeats 1000000 in
theorem sWeakR : Sound Try.prog 13 cWeak := by
  refine sound_vc (tt := tt) (ct := g7b) ttok g7b_ok mixed Try.func13 rfl (by decide) (rs := [.tmp 2]) rfl (ts := [4]) (k := 0) ?_
  intro cas K h
  unfold cWeak at h
  split at h
  · rename_i alg
    rw [Try.ntmps13]
    refine ⟨by simp, ?_⟩
    simp (maxSteps := 10000000) (implicitDefEqProofs := false) only [↓qaa, ↓qab, ↓qac, ↓qad, ↓qae, ↓qaf, ↓qag, qah, qai, qaj, qak, qal, qam, qan, qao, qap, qaq, qar, qas, qat, ↓entryVC, ↓condVC, ↓listVC, ↓memK, ↓memR, ↓envOf, ↓guardVC, ↓opVC, ↓pureVC, ↓binT, ↓wrapT, ↓TDsc.isW, ↓binW, ↓binVC, ↓bin8, ↓bin32, ↓bin64, ↓binInt, ↓shVC, ↓unVC, ↓cvVC, ↓rdVC, ↓loadVC, ↓pickC, ↓fillVC, ↓bndVC, ↓sliceVC, ↓bltVC, ↓storeVC, ↓appVC, ↓apzVC, ↓markVC, ↓copyVC, ↓callVC, ↓argsVC, ↓argVC, ↓bindR, ↓bindR1, ↓bindRs, ↓memVC, ↓delAll, ↓keepM, ↓extE, ↓extM, ↓leS, ↓leA, ↓retVC, ↓retR, ↓resVC, ↓resV1, ↓ressVC, ↓strU, ↓xAdd64, ↓xSub64, ↓pickA, frz, frzs, ev, absC, getA, setA, delA, tt, AV.good, AV.plain, AV.isSl, AV.cells, AV.one, Cells.len, Cells.get, Cells.sub, Cells.part, Cells.agg, Cells.upd, Cells.set, Cells.cat, Cells.rep, Cells.ones, TDsc.agg, zOf, putE, dstB, letGo, quietOp, slotOp, AV.isRp, rpVC, whoOf, mthOf, nilVC, TDsc.isP, storeGVC, pickA, ↓reduceIte, Nat.reduceEqDiff, Nat.reduceLT, Nat.reduceLeDiff, Nat.reduceAdd, Nat.reduceSub, Nat.reduceMul, Nat.reduceBEq, Int.reduceLE, Int.reduceLT, Int.reduceToNat, Int.reduceNeg, BitVec.reduceToNat, forall_const, reduceCtorEq, implies_true, ne_eq, memK2, memR2, g7b, cSize]
    refine ⟨fun h2 => ?_, fun h2 => ?_⟩
    · rw [show (decide (alg = 2 ∨ sizeF alg = 0)) = decide (sizeF alg = 0) by simp [h2]] at h; exact h
    · rw [decide_eq_true (.inl h2)] at h; exact h
  · exact h.elim
set_option maxRecDepth 100000 in
set_option maxHeartbeats 4000000 in
theorem sNew : LSound Try.prog 14 lNew := by
  refine lsound_of ?_
  refine msound_vc2 (tt := tt) (ct := g7b) ttok g7b_ok mixed Try.func14 rfl (by decide) (rs := [.tmp 2, .tmp 3]) rfl ?_
  rintro args mem nx K' ⟨m, R, K, rfl, rfl, hR, hc, rfl⟩
  unfold lNew at hc
  split at hc
  · rename_i alg
    obtain ⟨rfl, h, h0⟩ := hc
    rw [Try.ntmps14]
    refine ⟨⟨rfl, by simp⟩, ?_⟩
    have hx : extM R R := hR.ext
    simp (maxSteps := 10000000) (implicitDefEqProofs := false) only [↓qaa, ↓qab, ↓qac, ↓qad, ↓qae, ↓qaf, ↓qag, qah, qai, qaj, qak, qal, qam, qan, qao, qap, qaq, qar, qas, qat, ↓entryVC, ↓condVC, ↓listVC, ↓memK, ↓memR, ↓envOf, ↓guardVC, ↓opVC, ↓pureVC, ↓binT, ↓wrapT, ↓TDsc.isW, ↓binW, ↓binVC, ↓bin8, ↓bin32, ↓bin64, ↓binInt, ↓shVC, ↓unVC, ↓cvVC, ↓rdVC, ↓loadVC, ↓pickC, ↓fillVC, ↓bndVC, ↓sliceVC, ↓bltVC, ↓storeVC, ↓appVC, ↓apzVC, ↓markVC, ↓copyVC, ↓callVC, ↓argsVC, ↓argVC, ↓bindR, ↓bindR1, ↓bindRs, ↓memVC, ↓delAll, ↓keepM, ↓extE, ↓extM, ↓leS, ↓leA, ↓retVC, ↓retR, ↓resVC, ↓resV1, ↓ressVC, ↓strU, ↓xAdd64, ↓xSub64, ↓pickA, frz, frzs, ev, absC, getA, setA, delA, tt, AV.good, AV.plain, AV.isSl, AV.cells, AV.one, Cells.len, Cells.get, Cells.sub, Cells.part, Cells.agg, Cells.upd, Cells.set, Cells.cat, Cells.rep, Cells.ones, TDsc.agg, zOf, putE, dstB, letGo, quietOp, slotOp, AV.isRp, rpVC, whoOf, mthOf, nilVC, TDsc.isP, storeGVC, pickA, ↓reduceIte, Nat.reduceEqDiff, Nat.reduceLT, Nat.reduceLeDiff, Nat.reduceAdd, Nat.reduceSub, Nat.reduceMul, Nat.reduceBEq, Int.reduceLE, Int.reduceLT, Int.reduceToNat, Int.reduceNeg, BitVec.reduceToNat, forall_const, reduceCtorEq, implies_true, ne_eq, memK2, memR2, g7b, cSize, memK2, memR2, hR.get, hR.del, hR.set, hR.keep, hR.ext, hR.exts, List.cons_append, List.nil_append, List.all_cons, List.all_nil, Bool.and_true, decide_true, List.getD_cons_zero, List.getD_cons_succ, Nat.reduceLT, HM, Eng.pt, Eng.e0, Eng.e1, Eng.e2, delL, List.singleton_append]
    repeat (refine And.intro (by first | omega | (simp only [intIn]; omega) | (simp only [intIn]; done) | (simp; done) | (simp; omega) | decide) ?_)
    refine ⟨fun h2 => ?_, fun h2 => ?_⟩
    · subst h2
      (try simp (maxSteps := 10000000) (implicitDefEqProofs := false) only [↓qaa, ↓qab, ↓qac, ↓qad, ↓qae, ↓qaf, ↓qag, qah, qai, qaj, qak, qal, qam, qan, qao, qap, qaq, qar, qas, qat, ↓entryVC, ↓condVC, ↓listVC, ↓memK, ↓memR, ↓envOf, ↓guardVC, ↓opVC, ↓pureVC, ↓binT, ↓wrapT, ↓TDsc.isW, ↓binW, ↓binVC, ↓bin8, ↓bin32, ↓bin64, ↓binInt, ↓shVC, ↓unVC, ↓cvVC, ↓rdVC, ↓loadVC, ↓pickC, ↓fillVC, ↓bndVC, ↓sliceVC, ↓bltVC, ↓storeVC, ↓appVC, ↓apzVC, ↓markVC, ↓copyVC, ↓callVC, ↓argsVC, ↓argVC, ↓bindR, ↓bindR1, ↓bindRs, ↓memVC, ↓delAll, ↓keepM, ↓extE, ↓extM, ↓leS, ↓leA, ↓retVC, ↓retR, ↓resVC, ↓resV1, ↓ressVC, ↓strU, ↓xAdd64, ↓xSub64, ↓pickA, frz, frzs, ev, absC, getA, setA, delA, tt, AV.good, AV.plain, AV.isSl, AV.cells, AV.one, Cells.len, Cells.get, Cells.sub, Cells.part, Cells.agg, Cells.upd, Cells.set, Cells.cat, Cells.rep, Cells.ones, TDsc.agg, zOf, putE, dstB, letGo, quietOp, slotOp, AV.isRp, rpVC, whoOf, mthOf, nilVC, TDsc.isP, storeGVC, pickA, ↓reduceIte, Nat.reduceEqDiff, Nat.reduceLT, Nat.reduceLeDiff, Nat.reduceAdd, Nat.reduceSub, Nat.reduceMul, Nat.reduceBEq, Int.reduceLE, Int.reduceLT, Int.reduceToNat, Int.reduceNeg, BitVec.reduceToNat, forall_const, reduceCtorEq, implies_true, ne_eq, memK2, memR2, g7b, cSize, memK2, memR2, hR.get, hR.del, hR.set, hR.keep, hR.ext, hR.exts, List.cons_append, List.nil_append, List.all_cons, List.all_nil, Bool.and_true, decide_true, List.getD_cons_zero, List.getD_cons_succ, Nat.reduceLT, HM, Eng.pt, Eng.e0, Eng.e1, Eng.e2, delL, List.singleton_append])
      (try repeat (refine And.intro (by first | omega | (simp only [intIn]; omega) | (simp only [intIn]; done) | (simp; done) | (simp; omega) | decide) ?_))
      refine ⟨[], [], [], ⟨rfl, rfl, rfl⟩, srcOk.nil, trivial, rfl, fun g => ?_⟩
      refine ⟨.ifc 62 (.ptr 1 g 0), Eo5 1 g startF [] 0#64 none 0, [some 1, some 2], 500, ⟨rfl, rfl⟩, (.cons _ rfl (by exact ME.eqv_own rfl rfl) (.cons _ rfl (by exact ME.eqv_refl _) srcOk.nil)), (by simp [pairOk, pairOk1, Eo5]), ?_⟩
      unfold Eo5
      simp (maxSteps := 10000000) (implicitDefEqProofs := false) only [↓qaa, ↓qab, ↓qac, ↓qad, ↓qae, ↓qaf, ↓qag, qah, qai, qaj, qak, qal, qam, qan, qao, qap, qaq, qar, qas, qat, ↓entryVC, ↓condVC, ↓listVC, ↓memK, ↓memR, ↓envOf, ↓guardVC, ↓opVC, ↓pureVC, ↓binT, ↓wrapT, ↓TDsc.isW, ↓binW, ↓binVC, ↓bin8, ↓bin32, ↓bin64, ↓binInt, ↓shVC, ↓unVC, ↓cvVC, ↓rdVC, ↓loadVC, ↓pickC, ↓fillVC, ↓bndVC, ↓sliceVC, ↓bltVC, ↓storeVC, ↓appVC, ↓apzVC, ↓markVC, ↓copyVC, ↓callVC, ↓argsVC, ↓argVC, ↓bindR, ↓bindR1, ↓bindRs, ↓memVC, ↓delAll, ↓keepM, ↓extE, ↓extM, ↓leS, ↓leA, ↓retVC, ↓retR, ↓resVC, ↓resV1, ↓ressVC, ↓strU, ↓xAdd64, ↓xSub64, ↓pickA, frz, frzs, ev, absC, getA, setA, delA, tt, AV.good, AV.plain, AV.isSl, AV.cells, AV.one, Cells.len, Cells.get, Cells.sub, Cells.part, Cells.agg, Cells.upd, Cells.set, Cells.cat, Cells.rep, Cells.ones, TDsc.agg, zOf, putE, dstB, letGo, quietOp, slotOp, AV.isRp, rpVC, whoOf, mthOf, nilVC, TDsc.isP, storeGVC, pickA, ↓reduceIte, Nat.reduceEqDiff, Nat.reduceLT, Nat.reduceLeDiff, Nat.reduceAdd, Nat.reduceSub, Nat.reduceMul, Nat.reduceBEq, Int.reduceLE, Int.reduceLT, Int.reduceToNat, Int.reduceNeg, BitVec.reduceToNat, forall_const, reduceCtorEq, implies_true, ne_eq, memK2, memR2, g7b, cSize, memK2, memR2, hR.get, hR.del, hR.set, hR.keep, hR.ext, hR.exts, List.cons_append, List.nil_append, List.all_cons, List.all_nil, Bool.and_true, decide_true, List.getD_cons_zero, List.getD_cons_succ, Nat.reduceLT, HM, Eng.pt, Eng.e0, Eng.e1, Eng.e2, delL, List.singleton_append]
      repeat (refine And.intro (by first | omega | (simp only [intIn]; omega) | (simp only [intIn]; done) | (simp; done) | (simp; omega) | decide) ?_)
      intro gh
      exact FinK.mk (.tup [.ptr 0 gh 0, .int 0]) (HM (Eng.o5 startF [] 0#64 none 0) gh g 0) [some 500, some 1, some 2, none] rfl rfl hR (by simp only [extM, hR.exts, hR.ext, Nat.reduceLT]) rfl rfl (.cons _ rfl (by exact ME.eqv_own rfl rfl) (.cons _ rfl (by exact ME.eqv_own rfl rfl) (.cons _ rfl (by exact ME.eqv_refl _) (.void rfl srcOk.nil)))) (by simp [pairOk, pairOk1, HM, Eng.e0, Eng.e1, Eng.e2, ME.mine]) (h (by decide) _ gh g ⟨rfl, rfl, rfl, rfl⟩)
    · refine ⟨fun h11 => ?_, fun h11 => ?_⟩
      · subst h11
        (try simp (maxSteps := 10000000) (implicitDefEqProofs := false) only [↓qaa, ↓qab, ↓qac, ↓qad, ↓qae, ↓qaf, ↓qag, qah, qai, qaj, qak, qal, qam, qan, qao, qap, qaq, qar, qas, qat, ↓entryVC, ↓condVC, ↓listVC, ↓memK, ↓memR, ↓envOf, ↓guardVC, ↓opVC, ↓pureVC, ↓binT, ↓wrapT, ↓TDsc.isW, ↓binW, ↓binVC, ↓bin8, ↓bin32, ↓bin64, ↓binInt, ↓shVC, ↓unVC, ↓cvVC, ↓rdVC, ↓loadVC, ↓pickC, ↓fillVC, ↓bndVC, ↓sliceVC, ↓bltVC, ↓storeVC, ↓appVC, ↓apzVC, ↓markVC, ↓copyVC, ↓callVC, ↓argsVC, ↓argVC, ↓bindR, ↓bindR1, ↓bindRs, ↓memVC, ↓delAll, ↓keepM, ↓extE, ↓extM, ↓leS, ↓leA, ↓retVC, ↓retR, ↓resVC, ↓resV1, ↓ressVC, ↓strU, ↓xAdd64, ↓xSub64, ↓pickA, frz, frzs, ev, absC, getA, setA, delA, tt, AV.good, AV.plain, AV.isSl, AV.cells, AV.one, Cells.len, Cells.get, Cells.sub, Cells.part, Cells.agg, Cells.upd, Cells.set, Cells.cat, Cells.rep, Cells.ones, TDsc.agg, zOf, putE, dstB, letGo, quietOp, slotOp, AV.isRp, rpVC, whoOf, mthOf, nilVC, TDsc.isP, storeGVC, pickA, ↓reduceIte, Nat.reduceEqDiff, Nat.reduceLT, Nat.reduceLeDiff, Nat.reduceAdd, Nat.reduceSub, Nat.reduceMul, Nat.reduceBEq, Int.reduceLE, Int.reduceLT, Int.reduceToNat, Int.reduceNeg, BitVec.reduceToNat, forall_const, reduceCtorEq, implies_true, ne_eq, memK2, memR2, g7b, cSize, memK2, memR2, hR.get, hR.del, hR.set, hR.keep, hR.ext, hR.exts, List.cons_append, List.nil_append, List.all_cons, List.all_nil, Bool.and_true, decide_true, List.getD_cons_zero, List.getD_cons_succ, Nat.reduceLT, HM, Eng.pt, Eng.e0, Eng.e1, Eng.e2, delL, List.singleton_append])
        (try repeat (refine And.intro (by first | omega | (simp only [intIn]; omega) | (simp only [intIn]; done) | (simp; done) | (simp; omega) | decide) ?_))
        refine ⟨[], [.bool (decide ((11 : Int) = 8)), .int (sizeF 11)], [], ⟨rfl, rfl, rfl⟩, srcOk.nil, trivial, rfl, fun g A4 c4 => ?_⟩
        refine ⟨.ifc 70 (.ptr 1 g 0), Es8 1 g (H7.startF (decide ((11 : Int) = 8))) [] 0#64 none 0 A4 c4 (sizeF 11), [some 1, some 2, some 3], 500, ⟨rfl, rfl⟩, (.cons _ rfl (by exact ME.eqv_own rfl rfl) (.cons _ rfl (by exact ME.eqv_refl _) (.cons _ rfl (by exact ME.eqv_refl _) srcOk.nil))), (by simp [pairOk, pairOk1, Es8]), ?_⟩
        unfold Es8
        simp (maxSteps := 10000000) (implicitDefEqProofs := false) only [↓qaa, ↓qab, ↓qac, ↓qad, ↓qae, ↓qaf, ↓qag, qah, qai, qaj, qak, qal, qam, qan, qao, qap, qaq, qar, qas, qat, ↓entryVC, ↓condVC, ↓listVC, ↓memK, ↓memR, ↓envOf, ↓guardVC, ↓opVC, ↓pureVC, ↓binT, ↓wrapT, ↓TDsc.isW, ↓binW, ↓binVC, ↓bin8, ↓bin32, ↓bin64, ↓binInt, ↓shVC, ↓unVC, ↓cvVC, ↓rdVC, ↓loadVC, ↓pickC, ↓fillVC, ↓bndVC, ↓sliceVC, ↓bltVC, ↓storeVC, ↓appVC, ↓apzVC, ↓markVC, ↓copyVC, ↓callVC, ↓argsVC, ↓argVC, ↓bindR, ↓bindR1, ↓bindRs, ↓memVC, ↓delAll, ↓keepM, ↓extE, ↓extM, ↓leS, ↓leA, ↓retVC, ↓retR, ↓resVC, ↓resV1, ↓ressVC, ↓strU, ↓xAdd64, ↓xSub64, ↓pickA, frz, frzs, ev, absC, getA, setA, delA, tt, AV.good, AV.plain, AV.isSl, AV.cells, AV.one, Cells.len, Cells.get, Cells.sub, Cells.part, Cells.agg, Cells.upd, Cells.set, Cells.cat, Cells.rep, Cells.ones, TDsc.agg, zOf, putE, dstB, letGo, quietOp, slotOp, AV.isRp, rpVC, whoOf, mthOf, nilVC, TDsc.isP, storeGVC, pickA, ↓reduceIte, Nat.reduceEqDiff, Nat.reduceLT, Nat.reduceLeDiff, Nat.reduceAdd, Nat.reduceSub, Nat.reduceMul, Nat.reduceBEq, Int.reduceLE, Int.reduceLT, Int.reduceToNat, Int.reduceNeg, BitVec.reduceToNat, forall_const, reduceCtorEq, implies_true, ne_eq, memK2, memR2, g7b, cSize, memK2, memR2, hR.get, hR.del, hR.set, hR.keep, hR.ext, hR.exts, List.cons_append, List.nil_append, List.all_cons, List.all_nil, Bool.and_true, decide_true, List.getD_cons_zero, List.getD_cons_succ, Nat.reduceLT, HM, Eng.pt, Eng.e0, Eng.e1, Eng.e2, delL, List.singleton_append]
        repeat (refine And.intro (by first | omega | (simp only [intIn]; omega) | (simp only [intIn]; done) | (simp; done) | (simp; omega) | decide) ?_)
        intro gh
        exact FinK.mk (.tup [.ptr 0 gh 0, .int 0]) (HM (Eng.s8 (H7.startF (decide ((11 : Int) = 8))) [] 0#64 none 0 A4 c4 (sizeF 11)) gh g 0) [some 500, some 1, some 2, some 3] rfl rfl hR (by simp only [extM, hR.exts, hR.ext, Nat.reduceLT]) rfl rfl (.cons _ rfl (by exact ME.eqv_own rfl rfl) (.cons _ rfl (by exact ME.eqv_own rfl rfl) (.cons _ rfl (by exact ME.eqv_refl _) (.cons _ rfl (by exact ME.eqv_refl _) srcOk.nil)))) (by simp [pairOk, pairOk1, HM, Eng.e0, Eng.e1, Eng.e2, ME.mine]) (h (by decide) _ gh g ⟨by decide, rfl, rfl, rfl, rfl⟩)
      · refine ⟨fun h8 => ?_, fun h8 => ?_⟩
        · subst h8
          (try simp (maxSteps := 10000000) (implicitDefEqProofs := false) only [↓qaa, ↓qab, ↓qac, ↓qad, ↓qae, ↓qaf, ↓qag, qah, qai, qaj, qak, qal, qam, qan, qao, qap, qaq, qar, qas, qat, ↓entryVC, ↓condVC, ↓listVC, ↓memK, ↓memR, ↓envOf, ↓guardVC, ↓opVC, ↓pureVC, ↓binT, ↓wrapT, ↓TDsc.isW, ↓binW, ↓binVC, ↓bin8, ↓bin32, ↓bin64, ↓binInt, ↓shVC, ↓unVC, ↓cvVC, ↓rdVC, ↓loadVC, ↓pickC, ↓fillVC, ↓bndVC, ↓sliceVC, ↓bltVC, ↓storeVC, ↓appVC, ↓apzVC, ↓markVC, ↓copyVC, ↓callVC, ↓argsVC, ↓argVC, ↓bindR, ↓bindR1, ↓bindRs, ↓memVC, ↓delAll, ↓keepM, ↓extE, ↓extM, ↓leS, ↓leA, ↓retVC, ↓retR, ↓resVC, ↓resV1, ↓ressVC, ↓strU, ↓xAdd64, ↓xSub64, ↓pickA, frz, frzs, ev, absC, getA, setA, delA, tt, AV.good, AV.plain, AV.isSl, AV.cells, AV.one, Cells.len, Cells.get, Cells.sub, Cells.part, Cells.agg, Cells.upd, Cells.set, Cells.cat, Cells.rep, Cells.ones, TDsc.agg, zOf, putE, dstB, letGo, quietOp, slotOp, AV.isRp, rpVC, whoOf, mthOf, nilVC, TDsc.isP, storeGVC, pickA, ↓reduceIte, Nat.reduceEqDiff, Nat.reduceLT, Nat.reduceLeDiff, Nat.reduceAdd, Nat.reduceSub, Nat.reduceMul, Nat.reduceBEq, Int.reduceLE, Int.reduceLT, Int.reduceToNat, Int.reduceNeg, BitVec.reduceToNat, forall_const, reduceCtorEq, implies_true, ne_eq, memK2, memR2, g7b, cSize, memK2, memR2, hR.get, hR.del, hR.set, hR.keep, hR.ext, hR.exts, List.cons_append, List.nil_append, List.all_cons, List.all_nil, Bool.and_true, decide_true, List.getD_cons_zero, List.getD_cons_succ, Nat.reduceLT, HM, Eng.pt, Eng.e0, Eng.e1, Eng.e2, delL, List.singleton_append])
          (try repeat (refine And.intro (by first | omega | (simp only [intIn]; omega) | (simp only [intIn]; done) | (simp; done) | (simp; omega) | decide) ?_))
          refine ⟨[], [.bool (decide ((8 : Int) = 8)), .int (sizeF 8)], [], ⟨rfl, rfl, rfl⟩, srcOk.nil, trivial, rfl, fun g A4 c4 => ?_⟩
          refine ⟨.ifc 70 (.ptr 1 g 0), Es8 1 g (H7.startF (decide ((8 : Int) = 8))) [] 0#64 none 0 A4 c4 (sizeF 8), [some 1, some 2, some 3], 500, ⟨rfl, rfl⟩, (.cons _ rfl (by exact ME.eqv_own rfl rfl) (.cons _ rfl (by exact ME.eqv_refl _) (.cons _ rfl (by exact ME.eqv_refl _) srcOk.nil))), (by simp [pairOk, pairOk1, Es8]), ?_⟩
          unfold Es8
          simp (maxSteps := 10000000) (implicitDefEqProofs := false) only [↓qaa, ↓qab, ↓qac, ↓qad, ↓qae, ↓qaf, ↓qag, qah, qai, qaj, qak, qal, qam, qan, qao, qap, qaq, qar, qas, qat, ↓entryVC, ↓condVC, ↓listVC, ↓memK, ↓memR, ↓envOf, ↓guardVC, ↓opVC, ↓pureVC, ↓binT, ↓wrapT, ↓TDsc.isW, ↓binW, ↓binVC, ↓bin8, ↓bin32, ↓bin64, ↓binInt, ↓shVC, ↓unVC, ↓cvVC, ↓rdVC, ↓loadVC, ↓pickC, ↓fillVC, ↓bndVC, ↓sliceVC, ↓bltVC, ↓storeVC, ↓appVC, ↓apzVC, ↓markVC, ↓copyVC, ↓callVC, ↓argsVC, ↓argVC, ↓bindR, ↓bindR1, ↓bindRs, ↓memVC, ↓delAll, ↓keepM, ↓extE, ↓extM, ↓leS, ↓leA, ↓retVC, ↓retR, ↓resVC, ↓resV1, ↓ressVC, ↓strU, ↓xAdd64, ↓xSub64, ↓pickA, frz, frzs, ev, absC, getA, setA, delA, tt, AV.good, AV.plain, AV.isSl, AV.cells, AV.one, Cells.len, Cells.get, Cells.sub, Cells.part, Cells.agg, Cells.upd, Cells.set, Cells.cat, Cells.rep, Cells.ones, TDsc.agg, zOf, putE, dstB, letGo, quietOp, slotOp, AV.isRp, rpVC, whoOf, mthOf, nilVC, TDsc.isP, storeGVC, pickA, ↓reduceIte, Nat.reduceEqDiff, Nat.reduceLT, Nat.reduceLeDiff, Nat.reduceAdd, Nat.reduceSub, Nat.reduceMul, Nat.reduceBEq, Int.reduceLE, Int.reduceLT, Int.reduceToNat, Int.reduceNeg, BitVec.reduceToNat, forall_const, reduceCtorEq, implies_true, ne_eq, memK2, memR2, g7b, cSize, memK2, memR2, hR.get, hR.del, hR.set, hR.keep, hR.ext, hR.exts, List.cons_append, List.nil_append, List.all_cons, List.all_nil, Bool.and_true, decide_true, List.getD_cons_zero, List.getD_cons_succ, Nat.reduceLT, HM, Eng.pt, Eng.e0, Eng.e1, Eng.e2, delL, List.singleton_append]
          repeat (refine And.intro (by first | omega | (simp only [intIn]; omega) | (simp only [intIn]; done) | (simp; done) | (simp; omega) | decide) ?_)
          intro gh
          exact FinK.mk (.tup [.ptr 0 gh 0, .int 0]) (HM (Eng.s8 (H7.startF (decide ((8 : Int) = 8))) [] 0#64 none 0 A4 c4 (sizeF 8)) gh g 0) [some 500, some 1, some 2, some 3] rfl rfl hR (by simp only [extM, hR.exts, hR.ext, Nat.reduceLT]) rfl rfl (.cons _ rfl (by exact ME.eqv_own rfl rfl) (.cons _ rfl (by exact ME.eqv_own rfl rfl) (.cons _ rfl (by exact ME.eqv_refl _) (.cons _ rfl (by exact ME.eqv_refl _) srcOk.nil)))) (by simp [pairOk, pairOk1, HM, Eng.e0, Eng.e1, Eng.e2, ME.mine]) (h (by decide) _ gh g ⟨by decide, rfl, rfl, rfl, rfl⟩)
        · refine ⟨fun h9 => ?_, fun h9 => ?_⟩
          · subst h9
            (try simp (maxSteps := 10000000) (implicitDefEqProofs := false) only [↓qaa, ↓qab, ↓qac, ↓qad, ↓qae, ↓qaf, ↓qag, qah, qai, qaj, qak, qal, qam, qan, qao, qap, qaq, qar, qas, qat, ↓entryVC, ↓condVC, ↓listVC, ↓memK, ↓memR, ↓envOf, ↓guardVC, ↓opVC, ↓pureVC, ↓binT, ↓wrapT, ↓TDsc.isW, ↓binW, ↓binVC, ↓bin8, ↓bin32, ↓bin64, ↓binInt, ↓shVC, ↓unVC, ↓cvVC, ↓rdVC, ↓loadVC, ↓pickC, ↓fillVC, ↓bndVC, ↓sliceVC, ↓bltVC, ↓storeVC, ↓appVC, ↓apzVC, ↓markVC, ↓copyVC, ↓callVC, ↓argsVC, ↓argVC, ↓bindR, ↓bindR1, ↓bindRs, ↓memVC, ↓delAll, ↓keepM, ↓extE, ↓extM, ↓leS, ↓leA, ↓retVC, ↓retR, ↓resVC, ↓resV1, ↓ressVC, ↓strU, ↓xAdd64, ↓xSub64, ↓pickA, frz, frzs, ev, absC, getA, setA, delA, tt, AV.good, AV.plain, AV.isSl, AV.cells, AV.one, Cells.len, Cells.get, Cells.sub, Cells.part, Cells.agg, Cells.upd, Cells.set, Cells.cat, Cells.rep, Cells.ones, TDsc.agg, zOf, putE, dstB, letGo, quietOp, slotOp, AV.isRp, rpVC, whoOf, mthOf, nilVC, TDsc.isP, storeGVC, pickA, ↓reduceIte, Nat.reduceEqDiff, Nat.reduceLT, Nat.reduceLeDiff, Nat.reduceAdd, Nat.reduceSub, Nat.reduceMul, Nat.reduceBEq, Int.reduceLE, Int.reduceLT, Int.reduceToNat, Int.reduceNeg, BitVec.reduceToNat, forall_const, reduceCtorEq, implies_true, ne_eq, memK2, memR2, g7b, cSize, memK2, memR2, hR.get, hR.del, hR.set, hR.keep, hR.ext, hR.exts, List.cons_append, List.nil_append, List.all_cons, List.all_nil, Bool.and_true, decide_true, List.getD_cons_zero, List.getD_cons_succ, Nat.reduceLT, HM, Eng.pt, Eng.e0, Eng.e1, Eng.e2, delL, List.singleton_append])
            (try repeat (refine And.intro (by first | omega | (simp only [intIn]; omega) | (simp only [intIn]; done) | (simp; done) | (simp; omega) | decide) ?_))
            refine ⟨[], [.bool (decide ((9 : Int) = 10)), .int (sizeF 9)], [], ⟨rfl, rfl, rfl⟩, srcOk.nil, trivial, rfl, fun g A4 c4 => ?_⟩
            refine ⟨.ifc 75 (.ptr 1 g 0), Ew8 1 g (H8.startF (decide ((9 : Int) = 10))) [] 0#64 none 0 A4 c4 (sizeF 9), [some 1, some 2, some 3], 500, ⟨rfl, rfl⟩, (.cons _ rfl (by exact ME.eqv_own rfl rfl) (.cons _ rfl (by exact ME.eqv_refl _) (.cons _ rfl (by exact ME.eqv_refl _) srcOk.nil))), (by simp [pairOk, pairOk1, Ew8]), ?_⟩
            unfold Ew8
            simp (maxSteps := 10000000) (implicitDefEqProofs := false) only [↓qaa, ↓qab, ↓qac, ↓qad, ↓qae, ↓qaf, ↓qag, qah, qai, qaj, qak, qal, qam, qan, qao, qap, qaq, qar, qas, qat, ↓entryVC, ↓condVC, ↓listVC, ↓memK, ↓memR, ↓envOf, ↓guardVC, ↓opVC, ↓pureVC, ↓binT, ↓wrapT, ↓TDsc.isW, ↓binW, ↓binVC, ↓bin8, ↓bin32, ↓bin64, ↓binInt, ↓shVC, ↓unVC, ↓cvVC, ↓rdVC, ↓loadVC, ↓pickC, ↓fillVC, ↓bndVC, ↓sliceVC, ↓bltVC, ↓storeVC, ↓appVC, ↓apzVC, ↓markVC, ↓copyVC, ↓callVC, ↓argsVC, ↓argVC, ↓bindR, ↓bindR1, ↓bindRs, ↓memVC, ↓delAll, ↓keepM, ↓extE, ↓extM, ↓leS, ↓leA, ↓retVC, ↓retR, ↓resVC, ↓resV1, ↓ressVC, ↓strU, ↓xAdd64, ↓xSub64, ↓pickA, frz, frzs, ev, absC, getA, setA, delA, tt, AV.good, AV.plain, AV.isSl, AV.cells, AV.one, Cells.len, Cells.get, Cells.sub, Cells.part, Cells.agg, Cells.upd, Cells.set, Cells.cat, Cells.rep, Cells.ones, TDsc.agg, zOf, putE, dstB, letGo, quietOp, slotOp, AV.isRp, rpVC, whoOf, mthOf, nilVC, TDsc.isP, storeGVC, pickA, ↓reduceIte, Nat.reduceEqDiff, Nat.reduceLT, Nat.reduceLeDiff, Nat.reduceAdd, Nat.reduceSub, Nat.reduceMul, Nat.reduceBEq, Int.reduceLE, Int.reduceLT, Int.reduceToNat, Int.reduceNeg, BitVec.reduceToNat, forall_const, reduceCtorEq, implies_true, ne_eq, memK2, memR2, g7b, cSize, memK2, memR2, hR.get, hR.del, hR.set, hR.keep, hR.ext, hR.exts, List.cons_append, List.nil_append, List.all_cons, List.all_nil, Bool.and_true, decide_true, List.getD_cons_zero, List.getD_cons_succ, Nat.reduceLT, HM, Eng.pt, Eng.e0, Eng.e1, Eng.e2, delL, List.singleton_append]
            repeat (refine And.intro (by first | omega | (simp only [intIn]; omega) | (simp only [intIn]; done) | (simp; done) | (simp; omega) | decide) ?_)
            intro gh
            exact FinK.mk (.tup [.ptr 0 gh 0, .int 0]) (HM (Eng.w8 (H8.startF (decide ((9 : Int) = 10))) [] 0#64 none 0 A4 c4 (sizeF 9)) gh g 0) [some 500, some 1, some 2, some 3] rfl rfl hR (by simp only [extM, hR.exts, hR.ext, Nat.reduceLT]) rfl rfl (.cons _ rfl (by exact ME.eqv_own rfl rfl) (.cons _ rfl (by exact ME.eqv_own rfl rfl) (.cons _ rfl (by exact ME.eqv_refl _) (.cons _ rfl (by exact ME.eqv_refl _) srcOk.nil)))) (by simp [pairOk, pairOk1, HM, Eng.e0, Eng.e1, Eng.e2, ME.mine]) (h (by decide) _ gh g ⟨by decide, rfl, rfl, rfl, rfl⟩)
          · refine ⟨fun h10 => ?_, fun h10 => ?_⟩
            · subst h10
              (try simp (maxSteps := 10000000) (implicitDefEqProofs := false) only [↓qaa, ↓qab, ↓qac, ↓qad, ↓qae, ↓qaf, ↓qag, qah, qai, qaj, qak, qal, qam, qan, qao, qap, qaq, qar, qas, qat, ↓entryVC, ↓condVC, ↓listVC, ↓memK, ↓memR, ↓envOf, ↓guardVC, ↓opVC, ↓pureVC, ↓binT, ↓wrapT, ↓TDsc.isW, ↓binW, ↓binVC, ↓bin8, ↓bin32, ↓bin64, ↓binInt, ↓shVC, ↓unVC, ↓cvVC, ↓rdVC, ↓loadVC, ↓pickC, ↓fillVC, ↓bndVC, ↓sliceVC, ↓bltVC, ↓storeVC, ↓appVC, ↓apzVC, ↓markVC, ↓copyVC, ↓callVC, ↓argsVC, ↓argVC, ↓bindR, ↓bindR1, ↓bindRs, ↓memVC, ↓delAll, ↓keepM, ↓extE, ↓extM, ↓leS, ↓leA, ↓retVC, ↓retR, ↓resVC, ↓resV1, ↓ressVC, ↓strU, ↓xAdd64, ↓xSub64, ↓pickA, frz, frzs, ev, absC, getA, setA, delA, tt, AV.good, AV.plain, AV.isSl, AV.cells, AV.one, Cells.len, Cells.get, Cells.sub, Cells.part, Cells.agg, Cells.upd, Cells.set, Cells.cat, Cells.rep, Cells.ones, TDsc.agg, zOf, putE, dstB, letGo, quietOp, slotOp, AV.isRp, rpVC, whoOf, mthOf, nilVC, TDsc.isP, storeGVC, pickA, ↓reduceIte, Nat.reduceEqDiff, Nat.reduceLT, Nat.reduceLeDiff, Nat.reduceAdd, Nat.reduceSub, Nat.reduceMul, Nat.reduceBEq, Int.reduceLE, Int.reduceLT, Int.reduceToNat, Int.reduceNeg, BitVec.reduceToNat, forall_const, reduceCtorEq, implies_true, ne_eq, memK2, memR2, g7b, cSize, memK2, memR2, hR.get, hR.del, hR.set, hR.keep, hR.ext, hR.exts, List.cons_append, List.nil_append, List.all_cons, List.all_nil, Bool.and_true, decide_true, List.getD_cons_zero, List.getD_cons_succ, Nat.reduceLT, HM, Eng.pt, Eng.e0, Eng.e1, Eng.e2, delL, List.singleton_append])
              (try repeat (refine And.intro (by first | omega | (simp only [intIn]; omega) | (simp only [intIn]; done) | (simp; done) | (simp; omega) | decide) ?_))
              refine ⟨[], [.bool (decide ((10 : Int) = 10)), .int (sizeF 10)], [], ⟨rfl, rfl, rfl⟩, srcOk.nil, trivial, rfl, fun g A4 c4 => ?_⟩
              refine ⟨.ifc 75 (.ptr 1 g 0), Ew8 1 g (H8.startF (decide ((10 : Int) = 10))) [] 0#64 none 0 A4 c4 (sizeF 10), [some 1, some 2, some 3], 500, ⟨rfl, rfl⟩, (.cons _ rfl (by exact ME.eqv_own rfl rfl) (.cons _ rfl (by exact ME.eqv_refl _) (.cons _ rfl (by exact ME.eqv_refl _) srcOk.nil))), (by simp [pairOk, pairOk1, Ew8]), ?_⟩
              unfold Ew8
              simp (maxSteps := 10000000) (implicitDefEqProofs := false) only [↓qaa, ↓qab, ↓qac, ↓qad, ↓qae, ↓qaf, ↓qag, qah, qai, qaj, qak, qal, qam, qan, qao, qap, qaq, qar, qas, qat, ↓entryVC, ↓condVC, ↓listVC, ↓memK, ↓memR, ↓envOf, ↓guardVC, ↓opVC, ↓pureVC, ↓binT, ↓wrapT, ↓TDsc.isW, ↓binW, ↓binVC, ↓bin8, ↓bin32, ↓bin64, ↓binInt, ↓shVC, ↓unVC, ↓cvVC, ↓rdVC, ↓loadVC, ↓pickC, ↓fillVC, ↓bndVC, ↓sliceVC, ↓bltVC, ↓storeVC, ↓appVC, ↓apzVC, ↓markVC, ↓copyVC, ↓callVC, ↓argsVC, ↓argVC, ↓bindR, ↓bindR1, ↓bindRs, ↓memVC, ↓delAll, ↓keepM, ↓extE, ↓extM, ↓leS, ↓leA, ↓retVC, ↓retR, ↓resVC, ↓resV1, ↓ressVC, ↓strU, ↓xAdd64, ↓xSub64, ↓pickA, frz, frzs, ev, absC, getA, setA, delA, tt, AV.good, AV.plain, AV.isSl, AV.cells, AV.one, Cells.len, Cells.get, Cells.sub, Cells.part, Cells.agg, Cells.upd, Cells.set, Cells.cat, Cells.rep, Cells.ones, TDsc.agg, zOf, putE, dstB, letGo, quietOp, slotOp, AV.isRp, rpVC, whoOf, mthOf, nilVC, TDsc.isP, storeGVC, pickA, ↓reduceIte, Nat.reduceEqDiff, Nat.reduceLT, Nat.reduceLeDiff, Nat.reduceAdd, Nat.reduceSub, Nat.reduceMul, Nat.reduceBEq, Int.reduceLE, Int.reduceLT, Int.reduceToNat, Int.reduceNeg, BitVec.reduceToNat, forall_const, reduceCtorEq, implies_true, ne_eq, memK2, memR2, g7b, cSize, memK2, memR2, hR.get, hR.del, hR.set, hR.keep, hR.ext, hR.exts, List.cons_append, List.nil_append, List.all_cons, List.all_nil, Bool.and_true, decide_true, List.getD_cons_zero, List.getD_cons_succ, Nat.reduceLT, HM, Eng.pt, Eng.e0, Eng.e1, Eng.e2, delL, List.singleton_append]
              repeat (refine And.intro (by first | omega | (simp only [intIn]; omega) | (simp only [intIn]; done) | (simp; done) | (simp; omega) | decide) ?_)
              intro gh
              exact FinK.mk (.tup [.ptr 0 gh 0, .int 0]) (HM (Eng.w8 (H8.startF (decide ((10 : Int) = 10))) [] 0#64 none 0 A4 c4 (sizeF 10)) gh g 0) [some 500, some 1, some 2, some 3] rfl rfl hR (by simp only [extM, hR.exts, hR.ext, Nat.reduceLT]) rfl rfl (.cons _ rfl (by exact ME.eqv_own rfl rfl) (.cons _ rfl (by exact ME.eqv_own rfl rfl) (.cons _ rfl (by exact ME.eqv_refl _) (.cons _ rfl (by exact ME.eqv_refl _) srcOk.nil)))) (by simp [pairOk, pairOk1, HM, Eng.e0, Eng.e1, Eng.e2, ME.mine]) (h (by decide) _ gh g ⟨by decide, rfl, rfl, rfl, rfl⟩)
            · have hz := sz_no h2 h11 h8 h9 h10
              repeat (refine And.intro (by first | omega | (simp only [intIn]; omega) | (simp only [intIn]; done) | (simp; done) | (simp; omega) | decide) ?_)
              exact FinK.mk (.tup [.nilp, .int 9]) [] [] rfl rfl hR (by simp only [extM, hR.exts, hR.ext, Nat.reduceLT]) rfl rfl srcOk.nil trivial (h0 hz)
  · exact hc.elim
end Go.Proofs.Ytlcaobnojbkmbaa
