/- The hashes' engines: new ones. -/
import Derived.Test.YtlcaobnojbkmbaaG4
namespace Go.Proofs.Ytlcaobnojbkmbaa
open Go Go.RowKit
set_option linter.unusedVariables false
set_option linter.unusedSimpArgs false

def lOld : LT := fun args m K => match args with
  | [] => m = [] ∧ ∀ g, K (.ifc 62 (.ptr 1 g 0)) (Eo5 1 g startF [] 0#64 none 0)
  | _ => False
def lShort : LT := fun args m K => match args with
  | [.bool large, .int many] => m = [] ∧ ∀ g A4 c4, K (.ifc 70 (.ptr 1 g 0)) (Es8 1 g (H7.startF large) [] 0#64 none 0 A4 c4 many)
  | _ => False
def lWide : LT := fun args m K => match args with
  | [.bool large, .int many] => m = [] ∧ ∀ g A4 c4, K (.ifc 75 (.ptr 1 g 0)) (Ew8 1 g (H8.startF large) [] 0#64 none 0 A4 c4 many)
  | _ => False
def g5 : CTab := fun F => match F with
  | 32 => .fn cStart1
  | 37 => .fn H7.cStart
  | 41 => .fn H8.cStart
  | _ => .fn noCT
theorem g5_ok : CTok Try.prog g5 := by
  intro F
  unfold g5
  split
  · exact sStart1
  · exact H7.sStart
  · exact H8.sStart
  · exact sound_none _ _
set_option maxRecDepth 100000 in
set_option maxHeartbeats 4000000 in
theorem sOld : LSound Try.prog 22 lOld := by
  refine lsound_of ?_
  refine msound_vc (tt := tt) (ct := g5) ttok g5_ok mixed Try.func22 rfl (by decide) (rs := [.tmp 0]) rfl ?_
  rintro args mem nx K' ⟨m, R, K, rfl, rfl, hR, hc, rfl⟩
  unfold lOld at hc
  split at hc
  · obtain ⟨rfl, h⟩ := hc
    rw [Try.ntmps22]
    refine ⟨⟨rfl, by simp⟩, ?_⟩
    have hx : extM R R := hR.ext
    simp (maxSteps := 10000000) (implicitDefEqProofs := false) only [↓qaa, ↓qab, ↓qac, ↓qad, ↓qae, ↓qaf, ↓qag, qah, qai, qaj, qak, qal, qam, qan, qao, qap, qaq, qar, qas, qat, ↓entryVC, ↓condVC, ↓listVC, ↓memK, ↓memR, ↓envOf, ↓guardVC, ↓opVC, ↓pureVC, ↓binT, ↓wrapT, ↓TDsc.isW, ↓binW, ↓binVC, ↓bin8, ↓bin32, ↓bin64, ↓binInt, ↓shVC, ↓unVC, ↓cvVC, ↓rdVC, ↓loadVC, ↓pickC, ↓fillVC, ↓bndVC, ↓sliceVC, ↓bltVC, ↓storeVC, ↓appVC, ↓apzVC, ↓markVC, ↓copyVC, ↓callVC, ↓argsVC, ↓argVC, ↓bindR, ↓bindR1, ↓bindRs, ↓memVC, ↓delAll, ↓keepM, ↓extE, ↓extM, ↓leS, ↓leA, ↓retVC, ↓retR, ↓resVC, ↓resV1, ↓ressVC, ↓strU, ↓xAdd64, ↓xSub64, ↓pickA, frz, frzs, ev, absC, getA, setA, delA, tt, AV.good, AV.plain, AV.isSl, AV.cells, AV.one, Cells.len, Cells.get, Cells.sub, Cells.part, Cells.agg, Cells.upd, Cells.set, Cells.cat, Cells.rep, Cells.ones, TDsc.agg, zOf, putE, dstB, letGo, quietOp, slotOp, AV.isRp, rpVC, whoOf, mthOf, nilVC, TDsc.isP, storeGVC, pickA, ↓reduceIte, Nat.reduceEqDiff, Nat.reduceLT, Nat.reduceLeDiff, Nat.reduceAdd, Nat.reduceSub, Nat.reduceMul, Nat.reduceBEq, Int.reduceLE, Int.reduceLT, Int.reduceToNat, Int.reduceNeg, BitVec.reduceToNat, forall_const, reduceCtorEq, implies_true, ne_eq, memK2, memR2, g5, cStart1, H7.cStart, H8.cStart, V5.l_length, hR.get, hR.del, hR.set, hR.keep, hR.ext, hR.exts, List.cons_append, List.nil_append, List.all_cons, List.all_nil, Bool.and_true, decide_true, List.getD_cons_zero, List.getD_cons_succ, Nat.reduceLT]
    repeat (refine And.intro (by first | omega | (simp only [intIn]; omega) | (simp only [intIn]; done) | (simp; done) | (simp; omega) | decide) ?_)
    intro g
    exact FinK.mk (.ifc 62 (.ptr 1 g 0)) (Eo5 1 g startF [] 0#64 none 0) [some 100, none] rfl rfl hR (by simp only [extM, hR.exts, hR.ext, Nat.reduceLT]) rfl rfl (.cons _ rfl (ME.eqv_own rfl rfl) (.void rfl srcOk.nil)) (by simp [pairOk, pairOk1, Eo5]) (h g)
  · exact hc.elim
set_option maxRecDepth 100000 in
set_option maxHeartbeats 4000000 in
theorem sShort : LSound Try.prog 23 lShort := by
  refine lsound_of ?_
  refine msound_vc (tt := tt) (ct := g5) ttok g5_ok mixed Try.func23 rfl (by decide) (rs := [.tmp 4]) rfl ?_
  rintro args mem nx K' ⟨m, R, K, rfl, rfl, hR, hc, rfl⟩
  unfold lShort at hc
  split at hc
  · rename_i large many
    obtain ⟨rfl, h⟩ := hc
    rw [Try.ntmps23]
    refine ⟨⟨rfl, by simp⟩, ?_⟩
    have hx : extM R R := hR.ext
    simp (maxSteps := 10000000) (implicitDefEqProofs := false) only [↓qaa, ↓qab, ↓qac, ↓qad, ↓qae, ↓qaf, ↓qag, qah, qai, qaj, qak, qal, qam, qan, qao, qap, qaq, qar, qas, qat, ↓entryVC, ↓condVC, ↓listVC, ↓memK, ↓memR, ↓envOf, ↓guardVC, ↓opVC, ↓pureVC, ↓binT, ↓wrapT, ↓TDsc.isW, ↓binW, ↓binVC, ↓bin8, ↓bin32, ↓bin64, ↓binInt, ↓shVC, ↓unVC, ↓cvVC, ↓rdVC, ↓loadVC, ↓pickC, ↓fillVC, ↓bndVC, ↓sliceVC, ↓bltVC, ↓storeVC, ↓appVC, ↓apzVC, ↓markVC, ↓copyVC, ↓callVC, ↓argsVC, ↓argVC, ↓bindR, ↓bindR1, ↓bindRs, ↓memVC, ↓delAll, ↓keepM, ↓extE, ↓extM, ↓leS, ↓leA, ↓retVC, ↓retR, ↓resVC, ↓resV1, ↓ressVC, ↓strU, ↓xAdd64, ↓xSub64, ↓pickA, frz, frzs, ev, absC, getA, setA, delA, tt, AV.good, AV.plain, AV.isSl, AV.cells, AV.one, Cells.len, Cells.get, Cells.sub, Cells.part, Cells.agg, Cells.upd, Cells.set, Cells.cat, Cells.rep, Cells.ones, TDsc.agg, zOf, putE, dstB, letGo, quietOp, slotOp, AV.isRp, rpVC, whoOf, mthOf, nilVC, TDsc.isP, storeGVC, pickA, ↓reduceIte, Nat.reduceEqDiff, Nat.reduceLT, Nat.reduceLeDiff, Nat.reduceAdd, Nat.reduceSub, Nat.reduceMul, Nat.reduceBEq, Int.reduceLE, Int.reduceLT, Int.reduceToNat, Int.reduceNeg, BitVec.reduceToNat, forall_const, reduceCtorEq, implies_true, ne_eq, memK2, memR2, g5, cStart1, H7.cStart, H8.cStart, H7.V8.l_length, hR.get, hR.del, hR.set, hR.keep, hR.ext, hR.exts, List.cons_append, List.nil_append, List.all_cons, List.all_nil, Bool.and_true, decide_true, List.getD_cons_zero, List.getD_cons_succ, Nat.reduceLT]
    repeat (refine And.intro (by first | omega | (simp only [intIn]; omega) | (simp only [intIn]; done) | (simp; done) | (simp; omega) | decide) ?_)
    intro g4
    repeat (refine And.intro (by first | omega | (simp only [intIn]; omega) | (simp only [intIn]; done) | (simp; done) | (simp; omega) | decide) ?_)
    intro g
    exact FinK.mk (.ifc 70 (.ptr 1 g 0)) (Es8 1 g (H7.startF large) [] 0#64 none 0 (some ⟨g4, 0, none⟩) 1 many) [some 101, none, some 100] rfl rfl hR (by simp only [extM, hR.exts, hR.ext, Nat.reduceLT]) rfl rfl (.cons _ rfl (ME.eqv_own rfl rfl) (.void rfl (.cons _ rfl (ME.eqv_froz (cs := .cv [.int many]) rfl (by simp [Cells.len])) srcOk.nil))) (by simp [pairOk, pairOk1, Es8]) (h g _ _)
  · exact hc.elim
set_option maxRecDepth 100000 in
set_option maxHeartbeats 4000000 in
theorem sWide : LSound Try.prog 24 lWide := by
  refine lsound_of ?_
  refine msound_vc (tt := tt) (ct := g5) ttok g5_ok mixed Try.func24 rfl (by decide) (rs := [.tmp 4]) rfl ?_
  rintro args mem nx K' ⟨m, R, K, rfl, rfl, hR, hc, rfl⟩
  unfold lWide at hc
  split at hc
  · rename_i large many
    obtain ⟨rfl, h⟩ := hc
    rw [Try.ntmps24]
    refine ⟨⟨rfl, by simp⟩, ?_⟩
    have hx : extM R R := hR.ext
    simp (maxSteps := 10000000) (implicitDefEqProofs := false) only [↓qaa, ↓qab, ↓qac, ↓qad, ↓qae, ↓qaf, ↓qag, qah, qai, qaj, qak, qal, qam, qan, qao, qap, qaq, qar, qas, qat, ↓entryVC, ↓condVC, ↓listVC, ↓memK, ↓memR, ↓envOf, ↓guardVC, ↓opVC, ↓pureVC, ↓binT, ↓wrapT, ↓TDsc.isW, ↓binW, ↓binVC, ↓bin8, ↓bin32, ↓bin64, ↓binInt, ↓shVC, ↓unVC, ↓cvVC, ↓rdVC, ↓loadVC, ↓pickC, ↓fillVC, ↓bndVC, ↓sliceVC, ↓bltVC, ↓storeVC, ↓appVC, ↓apzVC, ↓markVC, ↓copyVC, ↓callVC, ↓argsVC, ↓argVC, ↓bindR, ↓bindR1, ↓bindRs, ↓memVC, ↓delAll, ↓keepM, ↓extE, ↓extM, ↓leS, ↓leA, ↓retVC, ↓retR, ↓resVC, ↓resV1, ↓ressVC, ↓strU, ↓xAdd64, ↓xSub64, ↓pickA, frz, frzs, ev, absC, getA, setA, delA, tt, AV.good, AV.plain, AV.isSl, AV.cells, AV.one, Cells.len, Cells.get, Cells.sub, Cells.part, Cells.agg, Cells.upd, Cells.set, Cells.cat, Cells.rep, Cells.ones, TDsc.agg, zOf, putE, dstB, letGo, quietOp, slotOp, AV.isRp, rpVC, whoOf, mthOf, nilVC, TDsc.isP, storeGVC, pickA, ↓reduceIte, Nat.reduceEqDiff, Nat.reduceLT, Nat.reduceLeDiff, Nat.reduceAdd, Nat.reduceSub, Nat.reduceMul, Nat.reduceBEq, Int.reduceLE, Int.reduceLT, Int.reduceToNat, Int.reduceNeg, BitVec.reduceToNat, forall_const, reduceCtorEq, implies_true, ne_eq, memK2, memR2, g5, cStart1, H7.cStart, H8.cStart, H8.V8.l_length, hR.get, hR.del, hR.set, hR.keep, hR.ext, hR.exts, List.cons_append, List.nil_append, List.all_cons, List.all_nil, Bool.and_true, decide_true, List.getD_cons_zero, List.getD_cons_succ, Nat.reduceLT]
    repeat (refine And.intro (by first | omega | (simp only [intIn]; omega) | (simp only [intIn]; done) | (simp; done) | (simp; omega) | decide) ?_)
    intro g4
    repeat (refine And.intro (by first | omega | (simp only [intIn]; omega) | (simp only [intIn]; done) | (simp; done) | (simp; omega) | decide) ?_)
    intro g
    exact FinK.mk (.ifc 75 (.ptr 1 g 0)) (Ew8 1 g (H8.startF large) [] 0#64 none 0 (some ⟨g4, 0, none⟩) 1 many) [some 101, none, some 100] rfl rfl hR (by simp only [extM, hR.exts, hR.ext, Nat.reduceLT]) rfl rfl (.cons _ rfl (ME.eqv_own rfl rfl) (.void rfl (.cons _ rfl (ME.eqv_froz (cs := .cv [.int many]) rfl (by simp [Cells.len])) srcOk.nil))) (by simp [pairOk, pairOk1, Ew8]) (h g _ _)
  · exact hc.elim
end Go.Proofs.Ytlcaobnojbkmbaa
