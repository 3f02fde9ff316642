/- The hashes' engines: another one like it. -/
import Derived.Test.YtlcaobnojbkmbaaG2
namespace Go.Proofs.Ytlcaobnojbkmbaa
open Go Go.RowKit
set_option linter.unusedVariables false
set_option linter.unusedSimpArgs false

def lAgaino5 : LT := fun args m K => match args with
  | [.ptr 0 g 0] => ∃ (v : V5) (rest : List U8) (cnt : U64) (A : Option Addr) (c : Nat), m = Eo5 0 g v rest cnt A c ∧ rest.length < 64 ∧
    ∀ g2 A1 c1, K (.ifc 62 (.ptr 10 g2 0)) (Eo5 0 g v rest cnt A c ++ Eo5 10 g2 v rest cnt A1 c1)
  | _ => False
def lAgains8 : LT := fun args m K => match args with
  | [.ptr 0 g 0] => ∃ (v : H7.V8) (rest : List U8) (cnt : U64) (A : Option Addr) (c : Nat) (A4 : Option Addr) (c4 : Nat) (many : Int), m = Es8 0 g v rest cnt A c A4 c4 many ∧ rest.length < 64 ∧
    ∀ g2 A1 c1, K (.ifc 70 (.ptr 10 g2 0)) (Es8 0 g v rest cnt A c A4 c4 many ++ Es8 10 g2 v rest cnt A1 c1 A4 c4 many)
  | _ => False
def lAgainw8 : LT := fun args m K => match args with
  | [.ptr 0 g 0] => ∃ (v : H8.V8) (rest : List U8) (cnt : U64) (A : Option Addr) (c : Nat) (A4 : Option Addr) (c4 : Nat) (many : Int), m = Ew8 0 g v rest cnt A c A4 c4 many ∧ rest.length < 128 ∧
    ∀ g2 A1 c1, K (.ifc 75 (.ptr 10 g2 0)) (Ew8 0 g v rest cnt A c A4 c4 many ++ Ew8 10 g2 v rest cnt A1 c1 A4 c4 many)
  | _ => False
set_option maxRecDepth 100000 in
set_option maxHeartbeats 4000000 in
theorem sAgaino5 : LSound Try.prog 75 lAgaino5 := by
  refine lsound_of ?_
  refine msound_vc (tt := tt) (ct := g2) ttok g2_ok mixed Try.func75 rfl (by decide) (rs := [.tmp 2]) rfl ?_
  rintro args mem nx K' ⟨m, R, K, rfl, rfl, hR, hc, rfl⟩
  unfold lAgaino5 at hc
  split at hc
  · rename_i g
    obtain ⟨v, rest, cnt, A, c, rfl, hr, h⟩ := hc
    unfold Eo5
    rw [Try.ntmps75]
    refine ⟨⟨rfl, by simp⟩, ?_⟩
    have hx : extM R R := hR.ext
    simp (maxSteps := 10000000) (implicitDefEqProofs := false) only [↓qaa, ↓qab, ↓qac, ↓qad, ↓qae, ↓qaf, ↓qag, qah, qai, qaj, qak, qal, qam, qan, qao, qap, qaq, qar, qas, qat, ↓entryVC, ↓condVC, ↓listVC, ↓memK, ↓memR, ↓envOf, ↓guardVC, ↓opVC, ↓pureVC, ↓binT, ↓wrapT, ↓TDsc.isW, ↓binW, ↓binVC, ↓bin8, ↓bin32, ↓bin64, ↓binInt, ↓shVC, ↓unVC, ↓cvVC, ↓rdVC, ↓loadVC, ↓pickC, ↓fillVC, ↓bndVC, ↓sliceVC, ↓bltVC, ↓storeVC, ↓appVC, ↓apzVC, ↓markVC, ↓copyVC, ↓callVC, ↓argsVC, ↓argVC, ↓bindR, ↓bindR1, ↓bindRs, ↓memVC, ↓delAll, ↓keepM, ↓extE, ↓extM, ↓leS, ↓leA, ↓retVC, ↓retR, ↓resVC, ↓resV1, ↓ressVC, ↓strU, ↓xAdd64, ↓xSub64, ↓pickA, frz, frzs, ev, absC, getA, setA, delA, tt, AV.good, AV.plain, AV.isSl, AV.cells, AV.one, Cells.len, Cells.get, Cells.sub, Cells.part, Cells.agg, Cells.upd, Cells.set, Cells.cat, Cells.rep, Cells.ones, TDsc.agg, zOf, putE, dstB, letGo, quietOp, slotOp, AV.isRp, rpVC, whoOf, mthOf, nilVC, TDsc.isP, storeGVC, pickA, ↓reduceIte, Nat.reduceEqDiff, Nat.reduceLT, Nat.reduceLeDiff, Nat.reduceAdd, Nat.reduceSub, Nat.reduceMul, Nat.reduceBEq, Int.reduceLE, Int.reduceLT, Int.reduceToNat, Int.reduceNeg, BitVec.reduceToNat, forall_const, reduceCtorEq, implies_true, ne_eq, memK2, memR2, g2, cTko5, cTlo5, V5.l_length, hR.get, hR.del, hR.set, hR.keep, hR.ext, hR.exts, List.cons_append, List.nil_append, List.all_cons, List.all_nil, Bool.and_true, decide_true, List.getD_cons_zero, List.getD_cons_succ, Nat.reduceLT]
    intro g2
    repeat (refine And.intro (by first | omega | (simp only [intIn]; omega) | decide) ?_)
    intro A1 c1 hc1
    exact FinK.mk (.ifc 62 (.ptr 10 g2 0)) (Eo5 0 g v rest cnt A c ++ Eo5 10 g2 v rest cnt A1 c1) [some 0, some 1, some 100, some 102] rfl rfl hR (by simp only [extM, hR.exts, hR.ext, Nat.reduceLT]) rfl rfl (.cons _ rfl (ME.eqv_own rfl rfl) (.cons _ rfl (ME.eqv_refl _) (.cons _ rfl (ME.eqv_own rfl rfl) (.cons _ rfl (ME.eqv_refl _) srcOk.nil)))) (by simp [pairOk, pairOk1, Eo5, ME.mine]) (h g2 A1 c1)
  · exact hc.elim
set_option maxRecDepth 100000 in
set_option maxHeartbeats 4000000 in
theorem sAgains8 : LSound Try.prog 79 lAgains8 := by
  refine lsound_of ?_
  refine msound_vc (tt := tt) (ct := g2) ttok g2_ok mixed Try.func79 rfl (by decide) (rs := [.tmp 2]) rfl ?_
  rintro args mem nx K' ⟨m, R, K, rfl, rfl, hR, hc, rfl⟩
  unfold lAgains8 at hc
  split at hc
  · rename_i g
    obtain ⟨v, rest, cnt, A, c, A4, c4, many, rfl, hr, h⟩ := hc
    unfold Es8
    rw [Try.ntmps79]
    refine ⟨⟨rfl, by simp⟩, ?_⟩
    have hx : extM R R := hR.ext
    simp (maxSteps := 10000000) (implicitDefEqProofs := false) only [↓qaa, ↓qab, ↓qac, ↓qad, ↓qae, ↓qaf, ↓qag, qah, qai, qaj, qak, qal, qam, qan, qao, qap, qaq, qar, qas, qat, ↓entryVC, ↓condVC, ↓listVC, ↓memK, ↓memR, ↓envOf, ↓guardVC, ↓opVC, ↓pureVC, ↓binT, ↓wrapT, ↓TDsc.isW, ↓binW, ↓binVC, ↓bin8, ↓bin32, ↓bin64, ↓binInt, ↓shVC, ↓unVC, ↓cvVC, ↓rdVC, ↓loadVC, ↓pickC, ↓fillVC, ↓bndVC, ↓sliceVC, ↓bltVC, ↓storeVC, ↓appVC, ↓apzVC, ↓markVC, ↓copyVC, ↓callVC, ↓argsVC, ↓argVC, ↓bindR, ↓bindR1, ↓bindRs, ↓memVC, ↓delAll, ↓keepM, ↓extE, ↓extM, ↓leS, ↓leA, ↓retVC, ↓retR, ↓resVC, ↓resV1, ↓ressVC, ↓strU, ↓xAdd64, ↓xSub64, ↓pickA, frz, frzs, ev, absC, getA, setA, delA, tt, AV.good, AV.plain, AV.isSl, AV.cells, AV.one, Cells.len, Cells.get, Cells.sub, Cells.part, Cells.agg, Cells.upd, Cells.set, Cells.cat, Cells.rep, Cells.ones, TDsc.agg, zOf, putE, dstB, letGo, quietOp, slotOp, AV.isRp, rpVC, whoOf, mthOf, nilVC, TDsc.isP, storeGVC, pickA, ↓reduceIte, Nat.reduceEqDiff, Nat.reduceLT, Nat.reduceLeDiff, Nat.reduceAdd, Nat.reduceSub, Nat.reduceMul, Nat.reduceBEq, Int.reduceLE, Int.reduceLT, Int.reduceToNat, Int.reduceNeg, BitVec.reduceToNat, forall_const, reduceCtorEq, implies_true, ne_eq, memK2, memR2, g2, cTks8, cTls8, H7.V8.l_length, hR.get, hR.del, hR.set, hR.keep, hR.ext, hR.exts, List.cons_append, List.nil_append, List.all_cons, List.all_nil, Bool.and_true, decide_true, List.getD_cons_zero, List.getD_cons_succ, Nat.reduceLT]
    intro g2
    repeat (refine And.intro (by first | omega | (simp only [intIn]; omega) | decide) ?_)
    intro A1 c1 hc1
    exact FinK.mk (.ifc 70 (.ptr 10 g2 0)) (Es8 0 g v rest cnt A c A4 c4 many ++ Es8 10 g2 v rest cnt A1 c1 A4 c4 many) [some 0, some 1, some 2, some 100, some 102, some 2] rfl rfl hR (by simp only [extM, hR.exts, hR.ext, Nat.reduceLT]) rfl rfl (.cons _ rfl (ME.eqv_own rfl rfl) (.cons _ rfl (ME.eqv_refl _) (.cons _ rfl (ME.eqv_refl _) (.cons _ rfl (ME.eqv_own rfl rfl) (.cons _ rfl (ME.eqv_refl _) (.cons _ rfl (ME.eqv_refl _) srcOk.nil)))))) (by simp [pairOk, pairOk1, Es8, ME.mine]) (h g2 A1 c1)
  · exact hc.elim
set_option maxRecDepth 100000 in
set_option maxHeartbeats 4000000 in
theorem sAgainw8 : LSound Try.prog 83 lAgainw8 := by
  refine lsound_of ?_
  refine msound_vc (tt := tt) (ct := g2) ttok g2_ok mixed Try.func83 rfl (by decide) (rs := [.tmp 2]) rfl ?_
  rintro args mem nx K' ⟨m, R, K, rfl, rfl, hR, hc, rfl⟩
  unfold lAgainw8 at hc
  split at hc
  · rename_i g
    obtain ⟨v, rest, cnt, A, c, A4, c4, many, rfl, hr, h⟩ := hc
    unfold Ew8
    rw [Try.ntmps83]
    refine ⟨⟨rfl, by simp⟩, ?_⟩
    have hx : extM R R := hR.ext
    simp (maxSteps := 10000000) (implicitDefEqProofs := false) only [↓qaa, ↓qab, ↓qac, ↓qad, ↓qae, ↓qaf, ↓qag, qah, qai, qaj, qak, qal, qam, qan, qao, qap, qaq, qar, qas, qat, ↓entryVC, ↓condVC, ↓listVC, ↓memK, ↓memR, ↓envOf, ↓guardVC, ↓opVC, ↓pureVC, ↓binT, ↓wrapT, ↓TDsc.isW, ↓binW, ↓binVC, ↓bin8, ↓bin32, ↓bin64, ↓binInt, ↓shVC, ↓unVC, ↓cvVC, ↓rdVC, ↓loadVC, ↓pickC, ↓fillVC, ↓bndVC, ↓sliceVC, ↓bltVC, ↓storeVC, ↓appVC, ↓apzVC, ↓markVC, ↓copyVC, ↓callVC, ↓argsVC, ↓argVC, ↓bindR, ↓bindR1, ↓bindRs, ↓memVC, ↓delAll, ↓keepM, ↓extE, ↓extM, ↓leS, ↓leA, ↓retVC, ↓retR, ↓resVC, ↓resV1, ↓ressVC, ↓strU, ↓xAdd64, ↓xSub64, ↓pickA, frz, frzs, ev, absC, getA, setA, delA, tt, AV.good, AV.plain, AV.isSl, AV.cells, AV.one, Cells.len, Cells.get, Cells.sub, Cells.part, Cells.agg, Cells.upd, Cells.set, Cells.cat, Cells.rep, Cells.ones, TDsc.agg, zOf, putE, dstB, letGo, quietOp, slotOp, AV.isRp, rpVC, whoOf, mthOf, nilVC, TDsc.isP, storeGVC, pickA, ↓reduceIte, Nat.reduceEqDiff, Nat.reduceLT, Nat.reduceLeDiff, Nat.reduceAdd, Nat.reduceSub, Nat.reduceMul, Nat.reduceBEq, Int.reduceLE, Int.reduceLT, Int.reduceToNat, Int.reduceNeg, BitVec.reduceToNat, forall_const, reduceCtorEq, implies_true, ne_eq, memK2, memR2, g2, cTkw8, cTlw8, H8.V8.l_length, hR.get, hR.del, hR.set, hR.keep, hR.ext, hR.exts, List.cons_append, List.nil_append, List.all_cons, List.all_nil, Bool.and_true, decide_true, List.getD_cons_zero, List.getD_cons_succ, Nat.reduceLT]
    intro g2
    repeat (refine And.intro (by first | omega | (simp only [intIn]; omega) | decide) ?_)
    intro A1 c1 hc1
    exact FinK.mk (.ifc 75 (.ptr 10 g2 0)) (Ew8 0 g v rest cnt A c A4 c4 many ++ Ew8 10 g2 v rest cnt A1 c1 A4 c4 many) [some 0, some 1, some 2, some 100, some 102, some 2] rfl rfl hR (by simp only [extM, hR.exts, hR.ext, Nat.reduceLT]) rfl rfl (.cons _ rfl (ME.eqv_own rfl rfl) (.cons _ rfl (ME.eqv_refl _) (.cons _ rfl (ME.eqv_refl _) (.cons _ rfl (ME.eqv_own rfl rfl) (.cons _ rfl (ME.eqv_refl _) (.cons _ rfl (ME.eqv_refl _) srcOk.nil)))))) (by simp [pairOk, pairOk1, Ew8, ME.mine]) (h g2 A1 c1)
  · exact hc.elim
end Go.Proofs.Ytlcaobnojbkmbaa
