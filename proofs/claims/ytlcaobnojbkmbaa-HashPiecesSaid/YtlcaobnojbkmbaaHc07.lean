/- What the document's Sha256 computes of a block, by the engine; it is the same. -/
import Derived.Test.YtlcaobnojbkmbaaHb07
namespace Go.Proofs.Ytlcaobnojbkmbaa.H7
open Go Go.RowKit
set_option linter.unusedVariables false
set_option linter.unusedSimpArgs false

def beW (bs : List U8) (t : Nat) : U32 := (g8 bs (4 * t + 0)).setWidth 32 <<< 24 ||| (g8 bs (4 * t + 1)).setWidth 32 <<< 16 ||| (g8 bs (4 * t + 2)).setWidth 32 <<< 8 ||| (g8 bs (4 * t + 3)).setWidth 32
def wNext (ws : List U32) (k : Nat) : U32 := s1F (g32 ws (k + 14)) + g32 ws (k + 9) + s0F (g32 ws (k + 1)) + g32 ws k
def wR (bs : List U8) : Nat → List U32
  | 0 => []
  | t + 1 => wR bs t ++ [if t < 16 then beW bs t else wNext (wR bs t) (t - 16)]
theorem wR_length (bs : List U8) (t : Nat) : (wR bs t).length = t := by
  induction t with
  | zero => rfl
  | succ t ih => simp [wR, ih]
theorem wR_low (bs : List U8) (t : Nat) (h : t < 16) : wR bs (t + 1) = wR bs t ++ [beW bs t] := by simp [wR, h]
theorem wR_high (bs : List U8) (k : Nat) : wR bs (k + 16 + 1) = wR bs (k + 16) ++ [wNext (wR bs (k + 16)) k] := by
  rw [wR, if_neg (by omega), Nat.add_sub_cancel]
def t1R (ws : List U32) (t : Nat) (v : V8) : U32 := v.h + big1 v.e + (v.e &&& v.f ^^^ (v.e ^^^ 4294967295#32) &&& v.g) + g32 ks t + g32 ws t
def t2R (v : V8) : U32 := big0 v.a + (v.a &&& v.b ^^^ v.a &&& v.c ^^^ v.b &&& v.c)
def stepR (ws : List U32) (t : Nat) (v : V8) : V8 := ⟨t1R ws t v + t2R v, v.a, v.b, v.c, v.d + t1R ws t v, v.e, v.f, v.g⟩
def roundsR (ws : List U32) (v : V8) : Nat → V8
  | 0 => v
  | k + 1 => stepR ws k (roundsR ws v k)
def blockR (h : V8) (bs : List U8) : V8 := addF (roundsR (wR bs 64) h 64) h
/-! ### The same -/
theorem t1_eq (ws : List U32) (t : Nat) (v : V8) : t1R ws t v = t1F ws t v := by
  unfold t1R t1F
  have e : (4294967295#32 : U32) = BitVec.allOnes 32 := rfl
  rw [e, BitVec.xor_allOnes]
theorem t2_eq (v : V8) : t2R v = t2F v := by
  unfold t2R t2F
  congr 1
  apply BitVec.eq_of_getLsbD_eq
  intro i hi
  simp only [BitVec.getLsbD_xor, BitVec.getLsbD_and, BitVec.getLsbD_or]
  cases v.a.getLsbD i <;> cases v.b.getLsbD i <;> cases v.c.getLsbD i <;> rfl
theorem rounds_eq (ws : List U32) (v : V8) (k : Nat) : roundsR ws v k = roundsF ws v k := by
  induction k with
  | zero => rfl
  | succ k ih => rw [roundsR, roundsF, ih, stepR, stepF, t1_eq, t2_eq]
theorem gW_set (xs : List U32) (i j : Nat) (x : U32) (hi : i < xs.length) : g32 (xs.set i x) j = if i = j then x else g32 xs j := by
  unfold g32
  rw [List.getD_eq_getElem?_getD, List.getD_eq_getElem?_getD, List.getElem?_set]
  by_cases h : i = j
  · subst h; simp [hi]
  · simp [h]
theorem gW_snoc (xs : List U32) (j : Nat) (x : U32) : g32 (xs ++ [x]) j = if j < xs.length then g32 xs j else if j = xs.length then x else 0 := by
  unfold g32
  rw [List.getD_eq_getElem?_getD, List.getD_eq_getElem?_getD]
  by_cases h : j < xs.length
  · rw [if_pos h, List.getElem?_append_left h]
  · rw [if_neg h, List.getElem?_append_right (by omega)]
    by_cases h2 : j = xs.length
    · subst h2; simp
    · rw [if_neg h2]
      rw [List.getElem?_eq_none (by simp; omega)]; rfl
theorem gW_z (n i : Nat) : g32 (z32 n) i = 0 := by
  unfold g32 z32
  rw [List.getD_eq_getElem?_getD, List.getElem?_replicate]
  split <;> rfl
theorem listW_ext {xs ys : List U32} (hl : xs.length = ys.length) (h : ∀ i, i < xs.length → g32 xs i = g32 ys i) : xs = ys := by
  apply List.ext_getElem hl
  intro i h1 h2
  have := h i h1
  simpa [g32, h1, h2] using this
/-- A word, so many of its bytes taken. -/
def accW (bs : List U8) (i : Nat) : Nat → U32
  | 0 => 0
  | m + 1 => accW bs i m <<< 8 ||| (g8 bs (4 * i + m)).setWidth 32
theorem accW_all (bs : List U8) (i : Nat) : accW bs i 4 = beW bs i := by
  simp only [accW, beW, Nat.add_zero, BitVec.shiftLeft_or_distrib, ← BitVec.shiftLeft_add]
  simp only [Nat.reduceAdd]
  rw [show (0 : U32) <<< 32 = 0#32 from by decide, BitVec.zero_or]
theorem sp1_get (bs : List U8) (k i : Nat) (hk : k ≤ 64) (_hi : i < 64) : g32 (sp1 bs k) i = accW bs i (min 4 (k - 4 * i)) := by
  induction k with
  | zero => rw [Nat.zero_sub, Nat.min_zero]; exact gW_z 64 i
  | succ k ih =>
    rw [sp1, gW_set _ _ _ _ (by rw [sp1_length]; omega)]
    by_cases h : k / 4 = i
    · rw [if_pos h, h, ih (by omega)]
      have e1 : min 4 (k - 4 * i) = k - 4 * i := by omega
      have e2 : min 4 (k + 1 - 4 * i) = k - 4 * i + 1 := by omega
      rw [e1, e2, accW, show 4 * i + (k - 4 * i) = k from by omega]
    · rw [if_neg h, ih (by omega)]
      congr 1
      omega
theorem wR_get_low (bs : List U8) (n i : Nat) (hn : n ≤ 16) (hi : i < n) : g32 (wR bs n) i = beW bs i := by
  induction n with
  | zero => omega
  | succ n ih =>
    rw [wR_low bs n (by omega), gW_snoc, wR_length]
    by_cases h : i < n
    · rw [if_pos h]; exact ih (by omega) h
    · rw [if_neg h, if_pos (by omega)]
      congr 1; omega
theorem sum4 (a b c d : U32) : a + b + c + d = d + c + b + a := by
  rw [BitVec.add_comm _ d, BitVec.add_comm (a + b) c, BitVec.add_comm a b, BitVec.add_assoc, BitVec.add_assoc]
theorem sp2_get (bs : List U8) (k i : Nat) (hk : k ≤ 48) (hi : i < k + 16) : g32 (sp2 bs k) i = g32 (wR bs (k + 16)) i := by
  induction k generalizing i with
  | zero =>
    rw [wR_get_low bs _ i (by omega) hi]
    show g32 (sp1 bs 64) i = _
    rw [sp1_get bs 64 i (by omega) (by omega), show min 4 (64 - 4 * i) = 4 from by omega, accW_all]
  | succ k ih =>
    rw [sp2, gW_set _ _ _ _ (by rw [sp2_length]; omega), show k + 1 + 16 = k + 16 + 1 from by omega, wR_high, gW_snoc, wR_length]
    by_cases h : k + 16 = i
    · rw [if_pos h, if_neg (by omega), if_pos h.symm]
      unfold wNext
      rw [ih _ (by omega) (by omega), ih _ (by omega) (by omega), ih _ (by omega) (by omega), ih _ (by omega) (by omega)]
      generalize s1F (g32 (wR bs (k + 16)) (k + 14)) = x3
      generalize s0F (g32 (wR bs (k + 16)) (k + 1)) = x1
      generalize g32 (wR bs (k + 16)) (k + 9) = x2
      generalize g32 (wR bs (k + 16)) k = x0
      exact sum4 x0 x1 x2 x3
    · rw [if_neg h, if_pos (by omega)]
      exact ih i (by omega) (by omega)
theorem spread_eq (bs : List U8) : wR bs 64 = spreadF bs := by
  apply listW_ext (by rw [spreadF_length, wR_length])
  intro i hi
  rw [wR_length] at hi
  exact (sp2_get bs 48 i (by omega) (by omega)).symm
theorem block_eq (h : V8) (bs : List U8) : blockR h bs = blockF h bs := by
  rw [blockF, blockR, spread_eq, rounds_eq]
def cBlockR : CT := fun cas K => match cas with
  | [.v (.a32 hs), .s (.c8 bs)] => (hs.length = 8 ∧ bs.length = 64) ∧ K (.one (.v (.a32 (blockF (toV8 hs) bs).l)))
  | _ => False
def h3 : CTab := fun F => match F with
  | 48 => .fn cTurn
  | 49 => .fn cStepsR
  | _ => .fn noCT
theorem h3_ok : CTok Try.prog h3 := by
  intro F
  unfold h3
  split
  · exact sTurn
  · exact sStepsR
  · exact sound_none _ _
set_option maxRecDepth 100000 in
set_option maxHeartbeats 1000000 in
theorem sBlockR : Sound Try.prog 29 cBlockR := by
  refine sound_vc (tt := tt) (ct := h3) ttok h3_ok mixed Try.func29 rfl (by decide) (rs := [.cell 4 56]) rfl (ts := [56]) (k := 0) ?_
  intro cas K h
  unfold cBlockR at h
  split at h
  · rename_i hs bs
    rw [Try.ntmps29]
    refine ⟨by simp, ?_⟩
    obtain ⟨⟨hh, hl⟩, h⟩ := h
    obtain ⟨v, rfl⟩ := eight hh
    rw [toV8_l, ← block_eq, blockR] at h
    simp (maxSteps := 10000000) (implicitDefEqProofs := false) only [↓qaa, ↓qab, ↓qac, ↓qad, ↓qae, ↓qaf, ↓qag, qah, qai, qaj, qak, qal, qam, qan, qao, qap, qaq, qar, qas, qat, ↓entryVC, ↓condVC, ↓listVC, ↓memK, ↓memR, ↓envOf, ↓guardVC, ↓opVC, ↓pureVC, ↓binT, ↓wrapT, ↓TDsc.isW, ↓binW, ↓binVC, ↓bin8, ↓bin32, ↓bin64, ↓binInt, ↓shVC, ↓unVC, ↓cvVC, ↓rdVC, ↓loadVC, ↓pickC, ↓fillVC, ↓bndVC, ↓sliceVC, ↓bltVC, ↓storeVC, ↓appVC, ↓apzVC, ↓markVC, ↓copyVC, ↓callVC, ↓argsVC, ↓argVC, ↓bindR, ↓bindR1, ↓bindRs, ↓memVC, ↓delAll, ↓keepM, ↓extE, ↓extM, ↓leS, ↓leA, ↓retVC, ↓retR, ↓resVC, ↓resV1, ↓ressVC, ↓strU, ↓xAdd64, ↓xSub64, ↓pickA, frz, frzs, ev, absC, getA, setA, delA, tt, AV.good, AV.plain, AV.isSl, AV.cells, AV.one, Cells.len, Cells.get, Cells.sub, Cells.part, Cells.agg, Cells.upd, Cells.set, Cells.cat, Cells.rep, Cells.ones, TDsc.agg, zOf, putE, dstB, letGo, quietOp, slotOp, AV.isRp, rpVC, whoOf, mthOf, nilVC, TDsc.isP, storeGVC, pickA, ↓reduceIte, Nat.reduceEqDiff, Nat.reduceLT, Nat.reduceLeDiff, Nat.reduceAdd, Nat.reduceSub, Nat.reduceMul, Nat.reduceBEq, Int.reduceLE, Int.reduceLT, Int.reduceToNat, Int.reduceNeg, BitVec.reduceToNat, forall_const, reduceCtorEq, implies_true, ne_eq, memK2, memR2, h3, cTurn, cStepsR, hl, V8.l_length, ks_length, wR_length, addK_length, turn_2, turn_6, turn_7, turn_11, turn_13, turn_17, turn_18, turn_19, turn_22, turn_25]
    intro A ca hca g1 g2 g3
    refine loopU _ _ _ [1, 2, 4] [1, 2, 3] 7 (ι := {s : Nat × Value // s.1 ≤ 64}) (fun s => [(6, .int (s.1.1 : Int)), (5, .grow 6 s.1.2 s.1.1)]) (fun s => [(6, .row s.1.2 50 (.c32 (wR bs s.1.1)))]) (fun s => 64 - s.1.1) ?_ ?_
    · refine LeJ.slc 5 6 rfl rfl (by decide) fun v0 => ?_
      refine LeJ.mk ⟨(0, v0), by dsimp only; omega⟩ trivial ?_
      simp (maxSteps := 1000000) only [leS, leA, stU_env, stU_mem, pickA, getA, delA, setA, Cells.part, Cells.len, List.take_nil, List.drop_nil, List.length_nil, Nat.zero_add, ↓reduceIte, Nat.reduceEqDiff, Option.some.injEq, List.nil_append, List.cons_append, true_and, and_true, and_self, reduceCtorEq, AV.int.injEq, ME.own.injEq, ME.row.injEq, Cells.c32.injEq, Cells.c64.injEq, Cells.c8.injEq, AV.ptr.injEq, AV.ros.injEq, AV.grow.injEq, AV.u64.injEq, AV.u32.injEq]
      exact ⟨rfl, rfl⟩
    · rintro ⟨⟨k, v1⟩, hk⟩
      dsimp only at hk
      simp (maxSteps := 10000000) (implicitDefEqProofs := false) only [↓qaa, ↓qab, ↓qac, ↓qad, ↓qae, ↓qaf, ↓qag, qah, qai, qaj, qak, qal, qam, qan, qao, qap, qaq, qar, qas, qat, ↓entryVC, ↓condVC, ↓listVC, ↓memK, ↓memR, ↓envOf, ↓guardVC, ↓opVC, ↓pureVC, ↓binT, ↓wrapT, ↓TDsc.isW, ↓binW, ↓binVC, ↓bin8, ↓bin32, ↓bin64, ↓binInt, ↓shVC, ↓unVC, ↓cvVC, ↓rdVC, ↓loadVC, ↓pickC, ↓fillVC, ↓bndVC, ↓sliceVC, ↓bltVC, ↓storeVC, ↓appVC, ↓apzVC, ↓markVC, ↓copyVC, ↓callVC, ↓argsVC, ↓argVC, ↓bindR, ↓bindR1, ↓bindRs, ↓memVC, ↓delAll, ↓keepM, ↓extE, ↓extM, ↓leS, ↓leA, ↓retVC, ↓retR, ↓resVC, ↓resV1, ↓ressVC, ↓strU, ↓xAdd64, ↓xSub64, ↓pickA, frz, frzs, ev, absC, getA, setA, delA, tt, AV.good, AV.plain, AV.isSl, AV.cells, AV.one, Cells.len, Cells.get, Cells.sub, Cells.part, Cells.agg, Cells.upd, Cells.set, Cells.cat, Cells.rep, Cells.ones, TDsc.agg, zOf, putE, dstB, letGo, quietOp, slotOp, AV.isRp, rpVC, whoOf, mthOf, nilVC, TDsc.isP, storeGVC, pickA, ↓reduceIte, Nat.reduceEqDiff, Nat.reduceLT, Nat.reduceLeDiff, Nat.reduceAdd, Nat.reduceSub, Nat.reduceMul, Nat.reduceBEq, Int.reduceLE, Int.reduceLT, Int.reduceToNat, Int.reduceNeg, BitVec.reduceToNat, forall_const, reduceCtorEq, implies_true, ne_eq, memK2, memR2, h3, cTurn, cStepsR, hl, V8.l_length, ks_length, wR_length, addK_length, turn_2, turn_6, turn_7, turn_11, turn_13, turn_17, turn_18, turn_19, turn_22, turn_25]
      refine ⟨fun hlt => ⟨fun h16 => ?_, fun h16 => ?_⟩, fun hge => ?_⟩
      · refine draw_ _ _ _ [(.fz, 0), (.fz, 1), (.fz, 2), (.fz, 3), (.fz, 4), (.fz, 9), (.fz, 10), (.fz, 11), (.fz, 12), (.fz, 18), (.fz, 19), (.fz, 20), (.fz, 21), (.fz, 27), (.fz, 28), (.fz, 29), (.fz, 30), (.tk, 5), (.tk, 6), (.tk, 7), (.fz, 8), (.tk, 13), (.tk, 14), (.tk, 15), (.fz, 16), (.fz, 17), (.tk, 22), (.tk, 23), (.tk, 24), (.fz, 25), (.fz, 26), (.tk, 31), (.tk, 32), (.tk, 33), (.fz, 34), (.ld, 35), (.ld, 36), (.fz, 37)] [] [1] (by kernel_rfl) ?_
        simp (maxSteps := 10000000) (implicitDefEqProofs := false) only [↓qaa, ↓qab, ↓qac, ↓qad, ↓qae, ↓qaf, ↓qag, qah, qai, qaj, qak, qal, qam, qan, qao, qap, qaq, qar, qas, qat, ↓entryVC, ↓condVC, ↓listVC, ↓memK, ↓memR, ↓envOf, ↓guardVC, ↓opVC, ↓pureVC, ↓binT, ↓wrapT, ↓TDsc.isW, ↓binW, ↓binVC, ↓bin8, ↓bin32, ↓bin64, ↓binInt, ↓shVC, ↓unVC, ↓cvVC, ↓rdVC, ↓loadVC, ↓pickC, ↓fillVC, ↓bndVC, ↓sliceVC, ↓bltVC, ↓storeVC, ↓appVC, ↓apzVC, ↓markVC, ↓copyVC, ↓callVC, ↓argsVC, ↓argVC, ↓bindR, ↓bindR1, ↓bindRs, ↓memVC, ↓delAll, ↓keepM, ↓extE, ↓extM, ↓leS, ↓leA, ↓retVC, ↓retR, ↓resVC, ↓resV1, ↓ressVC, ↓strU, ↓xAdd64, ↓xSub64, ↓pickA, frz, frzs, ev, absC, getA, setA, delA, tt, AV.good, AV.plain, AV.isSl, AV.cells, AV.one, Cells.len, Cells.get, Cells.sub, Cells.part, Cells.agg, Cells.upd, Cells.set, Cells.cat, Cells.rep, Cells.ones, TDsc.agg, zOf, putE, dstB, letGo, quietOp, slotOp, AV.isRp, rpVC, whoOf, mthOf, nilVC, TDsc.isP, storeGVC, pickA, ↓reduceIte, Nat.reduceEqDiff, Nat.reduceLT, Nat.reduceLeDiff, Nat.reduceAdd, Nat.reduceSub, Nat.reduceMul, Nat.reduceBEq, Int.reduceLE, Int.reduceLT, Int.reduceToNat, Int.reduceNeg, BitVec.reduceToNat, forall_const, reduceCtorEq, implies_true, ne_eq, memK2, memR2, h3, cTurn, cStepsR, hl, V8.l_length, ks_length, wR_length, addK_length, turn_2, turn_6, turn_7, turn_11, turn_13, turn_17, turn_18, turn_19, turn_22, turn_25]
        have e0 : (4 * (k : Int) + 0).toNat = 4 * k := by omega
        have e1 : (4 * (k : Int) + 1).toNat = 4 * k + 1 := by omega
        have e2 : (4 * (k : Int) + 2).toNat = 4 * k + 2 := by omega
        have e3 : (4 * (k : Int) + 3).toNat = 4 * k + 3 := by omega
        simp only [e0, e1, e2, e3]
        repeat (refine And.intro (by first | omega | (simp only [intIn, wR_length, List.length_append, List.length_cons, List.length_nil]; omega)) ?_)
        intro g4
        repeat (refine And.intro (by first | omega | (simp only [intIn, wR_length, List.length_append, List.length_cons, List.length_nil]; omega)) ?_)
        intro v2
        repeat (refine And.intro (by first | omega | (simp only [intIn]; omega)) ?_)
        refine LeJ.mk ⟨(k + 1, v2), by dsimp only; omega⟩ (by dsimp only; omega) ?_
        simp (maxSteps := 1000000) only [leS, leA, stU_env, stU_mem, pickA, getA, delA, setA, Cells.part, Cells.len, List.take_nil, List.drop_nil, List.length_nil, Nat.zero_add, ↓reduceIte, Nat.reduceEqDiff, Option.some.injEq, List.nil_append, List.cons_append, true_and, and_true, and_self, reduceCtorEq, AV.int.injEq, ME.own.injEq, ME.row.injEq, Cells.c32.injEq, Cells.c64.injEq, Cells.c8.injEq, AV.ptr.injEq, AV.ros.injEq, AV.grow.injEq, AV.u64.injEq, AV.u32.injEq, List.length_append, wR_length, List.length_cons]
        exact ⟨by omega, (wR_low bs k (by omega)).symm⟩
      · obtain ⟨j, rfl⟩ : ∃ j, k = j + 16 := ⟨k - 16, by omega⟩
        refine draw_ _ _ _ [(.fz, 0), (.fz, 1), (.fz, 2), (.fz, 5), (.fz, 6), (.fz, 7), (.tk, 3), (.tk, 4), (.fz, 10), (.tk, 8), (.tk, 9), (.fz, 11)] [] [6] (by kernel_rfl) ?_
        simp (maxSteps := 10000000) (implicitDefEqProofs := false) only [↓qaa, ↓qab, ↓qac, ↓qad, ↓qae, ↓qaf, ↓qag, qah, qai, qaj, qak, qal, qam, qan, qao, qap, qaq, qar, qas, qat, ↓entryVC, ↓condVC, ↓listVC, ↓memK, ↓memR, ↓envOf, ↓guardVC, ↓opVC, ↓pureVC, ↓binT, ↓wrapT, ↓TDsc.isW, ↓binW, ↓binVC, ↓bin8, ↓bin32, ↓bin64, ↓binInt, ↓shVC, ↓unVC, ↓cvVC, ↓rdVC, ↓loadVC, ↓pickC, ↓fillVC, ↓bndVC, ↓sliceVC, ↓bltVC, ↓storeVC, ↓appVC, ↓apzVC, ↓markVC, ↓copyVC, ↓callVC, ↓argsVC, ↓argVC, ↓bindR, ↓bindR1, ↓bindRs, ↓memVC, ↓delAll, ↓keepM, ↓extE, ↓extM, ↓leS, ↓leA, ↓retVC, ↓retR, ↓resVC, ↓resV1, ↓ressVC, ↓strU, ↓xAdd64, ↓xSub64, ↓pickA, frz, frzs, ev, absC, getA, setA, delA, tt, AV.good, AV.plain, AV.isSl, AV.cells, AV.one, Cells.len, Cells.get, Cells.sub, Cells.part, Cells.agg, Cells.upd, Cells.set, Cells.cat, Cells.rep, Cells.ones, TDsc.agg, zOf, putE, dstB, letGo, quietOp, slotOp, AV.isRp, rpVC, whoOf, mthOf, nilVC, TDsc.isP, storeGVC, pickA, ↓reduceIte, Nat.reduceEqDiff, Nat.reduceLT, Nat.reduceLeDiff, Nat.reduceAdd, Nat.reduceSub, Nat.reduceMul, Nat.reduceBEq, Int.reduceLE, Int.reduceLT, Int.reduceToNat, Int.reduceNeg, BitVec.reduceToNat, forall_const, reduceCtorEq, implies_true, ne_eq, memK2, memR2, h3, cTurn, cStepsR, hl, V8.l_length, ks_length, wR_length, addK_length, turn_2, turn_6, turn_7, turn_11, turn_13, turn_17, turn_18, turn_19, turn_22, turn_25]
        have e15 : (((j + 16 : Nat) : Int) - 15).toNat = j + 1 := by omega
        have e2 : (((j + 16 : Nat) : Int) - 2).toNat = j + 14 := by omega
        have e7 : (((j + 16 : Nat) : Int) - 7).toNat = j + 9 := by omega
        have e16 : (((j + 16 : Nat) : Int) - 16).toNat = j := by omega
        simp only [e15, e2]
        repeat (refine And.intro (by first | omega | (simp only [intIn, wR_length]; omega)) ?_)
        refine draw_ _ _ _ [(.fz, 0), (.fz, 1), (.fz, 2), (.fz, 3), (.fz, 4), (.fz, 8), (.fz, 10), (.fz, 11), (.fz, 12), (.tk, 5), (.tk, 6), (.fz, 7), (.fz, 9), (.tk, 13), (.tk, 14), (.fz, 15), (.ld, 16), (.ld, 17), (.fz, 18)] [] [] (by kernel_rfl) ?_
        simp (maxSteps := 10000000) (implicitDefEqProofs := false) only [↓qaa, ↓qab, ↓qac, ↓qad, ↓qae, ↓qaf, ↓qag, qah, qai, qaj, qak, qal, qam, qan, qao, qap, qaq, qar, qas, qat, ↓entryVC, ↓condVC, ↓listVC, ↓memK, ↓memR, ↓envOf, ↓guardVC, ↓opVC, ↓pureVC, ↓binT, ↓wrapT, ↓TDsc.isW, ↓binW, ↓binVC, ↓bin8, ↓bin32, ↓bin64, ↓binInt, ↓shVC, ↓unVC, ↓cvVC, ↓rdVC, ↓loadVC, ↓pickC, ↓fillVC, ↓bndVC, ↓sliceVC, ↓bltVC, ↓storeVC, ↓appVC, ↓apzVC, ↓markVC, ↓copyVC, ↓callVC, ↓argsVC, ↓argVC, ↓bindR, ↓bindR1, ↓bindRs, ↓memVC, ↓delAll, ↓keepM, ↓extE, ↓extM, ↓leS, ↓leA, ↓retVC, ↓retR, ↓resVC, ↓resV1, ↓ressVC, ↓strU, ↓xAdd64, ↓xSub64, ↓pickA, frz, frzs, ev, absC, getA, setA, delA, tt, AV.good, AV.plain, AV.isSl, AV.cells, AV.one, Cells.len, Cells.get, Cells.sub, Cells.part, Cells.agg, Cells.upd, Cells.set, Cells.cat, Cells.rep, Cells.ones, TDsc.agg, zOf, putE, dstB, letGo, quietOp, slotOp, AV.isRp, rpVC, whoOf, mthOf, nilVC, TDsc.isP, storeGVC, pickA, ↓reduceIte, Nat.reduceEqDiff, Nat.reduceLT, Nat.reduceLeDiff, Nat.reduceAdd, Nat.reduceSub, Nat.reduceMul, Nat.reduceBEq, Int.reduceLE, Int.reduceLT, Int.reduceToNat, Int.reduceNeg, BitVec.reduceToNat, forall_const, reduceCtorEq, implies_true, ne_eq, memK2, memR2, h3, cTurn, cStepsR, hl, V8.l_length, ks_length, wR_length, addK_length, turn_2, turn_6, turn_7, turn_11, turn_13, turn_17, turn_18, turn_19, turn_22, turn_25]
        simp only [e7, e16]
        repeat (refine And.intro (by first | omega | (simp only [intIn, wR_length, List.length_append, List.length_cons, List.length_nil]; omega)) ?_)
        intro g4
        repeat (refine And.intro (by first | omega | (simp only [intIn, wR_length, List.length_append, List.length_cons, List.length_nil]; omega)) ?_)
        intro v2
        repeat (refine And.intro (by first | omega | (simp only [intIn]; omega)) ?_)
        refine LeJ.mk ⟨(j + 16 + 1, v2), by dsimp only; omega⟩ (by dsimp only; omega) ?_
        simp (maxSteps := 1000000) only [leS, leA, stU_env, stU_mem, pickA, getA, delA, setA, Cells.part, Cells.len, List.take_nil, List.drop_nil, List.length_nil, Nat.zero_add, ↓reduceIte, Nat.reduceEqDiff, Option.some.injEq, List.nil_append, List.cons_append, true_and, and_true, and_self, reduceCtorEq, AV.int.injEq, ME.own.injEq, ME.row.injEq, Cells.c32.injEq, Cells.c64.injEq, Cells.c8.injEq, AV.ptr.injEq, AV.ros.injEq, AV.grow.injEq, AV.u64.injEq, AV.u32.injEq, List.length_append, wR_length, List.length_cons]
        exact ⟨by omega, (wR_high bs j).symm⟩
      · obtain rfl : k = 64 := by omega
        intro A2 c2 hc2 g4
        obtain ⟨ws, hws⟩ : ∃ ws, wR bs 64 = ws := ⟨_, rfl⟩
        have hwl : ws.length = 64 := by rw [← hws, wR_length]
        rw [hws] at h ⊢
        refine loopU _ _ _ [2, 4, 5, 11, 12] [2, 3, 6, 7] 9 (ι := {k : Nat // k ≤ 64}) (fun s => [(13, .int (s.1 : Int))]) (fun s => [(8, .own g4 56 (.c32 (roundsR ws v s.1).l))]) (fun s => 64 - s.1) ?_ ?_
        · refine LeJ.mk ⟨0, by omega⟩ trivial ?_
          simp (maxSteps := 1000000) only [leS, leA, stU_env, stU_mem, pickA, getA, delA, setA, Cells.part, Cells.len, List.take_nil, List.drop_nil, List.length_nil, Nat.zero_add, ↓reduceIte, Nat.reduceEqDiff, Option.some.injEq, List.nil_append, List.cons_append, true_and, and_true, and_self, reduceCtorEq, AV.int.injEq, ME.own.injEq, ME.row.injEq, Cells.c32.injEq, Cells.c64.injEq, Cells.c8.injEq, AV.ptr.injEq, AV.ros.injEq, AV.grow.injEq, AV.u64.injEq, AV.u32.injEq]
          exact ⟨rfl, rfl⟩
        · rintro ⟨k, hk⟩
          simp (maxSteps := 10000000) (implicitDefEqProofs := false) only [↓qaa, ↓qab, ↓qac, ↓qad, ↓qae, ↓qaf, ↓qag, qah, qai, qaj, qak, qal, qam, qan, qao, qap, qaq, qar, qas, qat, ↓entryVC, ↓condVC, ↓listVC, ↓memK, ↓memR, ↓envOf, ↓guardVC, ↓opVC, ↓pureVC, ↓binT, ↓wrapT, ↓TDsc.isW, ↓binW, ↓binVC, ↓bin8, ↓bin32, ↓bin64, ↓binInt, ↓shVC, ↓unVC, ↓cvVC, ↓rdVC, ↓loadVC, ↓pickC, ↓fillVC, ↓bndVC, ↓sliceVC, ↓bltVC, ↓storeVC, ↓appVC, ↓apzVC, ↓markVC, ↓copyVC, ↓callVC, ↓argsVC, ↓argVC, ↓bindR, ↓bindR1, ↓bindRs, ↓memVC, ↓delAll, ↓keepM, ↓extE, ↓extM, ↓leS, ↓leA, ↓retVC, ↓retR, ↓resVC, ↓resV1, ↓ressVC, ↓strU, ↓xAdd64, ↓xSub64, ↓pickA, frz, frzs, ev, absC, getA, setA, delA, tt, AV.good, AV.plain, AV.isSl, AV.cells, AV.one, Cells.len, Cells.get, Cells.sub, Cells.part, Cells.agg, Cells.upd, Cells.set, Cells.cat, Cells.rep, Cells.ones, TDsc.agg, zOf, putE, dstB, letGo, quietOp, slotOp, AV.isRp, rpVC, whoOf, mthOf, nilVC, TDsc.isP, storeGVC, pickA, ↓reduceIte, Nat.reduceEqDiff, Nat.reduceLT, Nat.reduceLeDiff, Nat.reduceAdd, Nat.reduceSub, Nat.reduceMul, Nat.reduceBEq, Int.reduceLE, Int.reduceLT, Int.reduceToNat, Int.reduceNeg, BitVec.reduceToNat, forall_const, reduceCtorEq, implies_true, ne_eq, memK2, memR2, h3, cTurn, cStepsR, hl, V8.l_length, ks_length, wR_length, addK_length, turn_2, turn_6, turn_7, turn_11, turn_13, turn_17, turn_18, turn_19, turn_22, turn_25, hwl]
          refine ⟨fun hlt => ?_, fun hge => ?_⟩
          · refine draw_ _ _ _ [(.tk, 0), (.tk, 1), (.fz, 4), (.tk, 2), (.tk, 3), (.fz, 5)] [] [8] (by kernel_rfl) ?_
            simp (maxSteps := 10000000) (implicitDefEqProofs := false) only [↓qaa, ↓qab, ↓qac, ↓qad, ↓qae, ↓qaf, ↓qag, qah, qai, qaj, qak, qal, qam, qan, qao, qap, qaq, qar, qas, qat, ↓entryVC, ↓condVC, ↓listVC, ↓memK, ↓memR, ↓envOf, ↓guardVC, ↓opVC, ↓pureVC, ↓binT, ↓wrapT, ↓TDsc.isW, ↓binW, ↓binVC, ↓bin8, ↓bin32, ↓bin64, ↓binInt, ↓shVC, ↓unVC, ↓cvVC, ↓rdVC, ↓loadVC, ↓pickC, ↓fillVC, ↓bndVC, ↓sliceVC, ↓bltVC, ↓storeVC, ↓appVC, ↓apzVC, ↓markVC, ↓copyVC, ↓callVC, ↓argsVC, ↓argVC, ↓bindR, ↓bindR1, ↓bindRs, ↓memVC, ↓delAll, ↓keepM, ↓extE, ↓extM, ↓leS, ↓leA, ↓retVC, ↓retR, ↓resVC, ↓resV1, ↓ressVC, ↓strU, ↓xAdd64, ↓xSub64, ↓pickA, frz, frzs, ev, absC, getA, setA, delA, tt, AV.good, AV.plain, AV.isSl, AV.cells, AV.one, Cells.len, Cells.get, Cells.sub, Cells.part, Cells.agg, Cells.upd, Cells.set, Cells.cat, Cells.rep, Cells.ones, TDsc.agg, zOf, putE, dstB, letGo, quietOp, slotOp, AV.isRp, rpVC, whoOf, mthOf, nilVC, TDsc.isP, storeGVC, pickA, ↓reduceIte, Nat.reduceEqDiff, Nat.reduceLT, Nat.reduceLeDiff, Nat.reduceAdd, Nat.reduceSub, Nat.reduceMul, Nat.reduceBEq, Int.reduceLE, Int.reduceLT, Int.reduceToNat, Int.reduceNeg, BitVec.reduceToNat, forall_const, reduceCtorEq, implies_true, ne_eq, memK2, memR2, h3, cTurn, cStepsR, hl, V8.l_length, ks_length, wR_length, addK_length, turn_2, turn_6, turn_7, turn_11, turn_13, turn_17, turn_18, turn_19, turn_22, turn_25, hwl]
            repeat (refine And.intro (by first | omega | (simp only [intIn]; omega)) ?_)
            refine draw_ _ _ _ [(.fz, 2), (.fz, 4), (.fz, 7), (.fz, 11), (.fz, 15), (.fz, 16), (.fz, 22), (.fz, 23), (.fz, 27), (.fz, 28), (.tk, 0), (.tk, 1), (.tk, 12), (.tk, 13), (.fz, 14), (.tk, 17), (.tk, 18), (.fz, 19), (.fz, 20), (.tk, 24), (.tk, 25), (.tk, 29), (.tk, 30), (.ld, 3), (.ld, 5), (.fz, 6), (.ld, 8), (.fz, 9), (.fz, 10), (.fz, 21), (.fz, 26), (.fz, 31), (.fz, 32)] [] [6, 7, 8] (by kernel_rfl) ?_
            simp (maxSteps := 10000000) (implicitDefEqProofs := false) only [↓qaa, ↓qab, ↓qac, ↓qad, ↓qae, ↓qaf, ↓qag, qah, qai, qaj, qak, qal, qam, qan, qao, qap, qaq, qar, qas, qat, ↓entryVC, ↓condVC, ↓listVC, ↓memK, ↓memR, ↓envOf, ↓guardVC, ↓opVC, ↓pureVC, ↓binT, ↓wrapT, ↓TDsc.isW, ↓binW, ↓binVC, ↓bin8, ↓bin32, ↓bin64, ↓binInt, ↓shVC, ↓unVC, ↓cvVC, ↓rdVC, ↓loadVC, ↓pickC, ↓fillVC, ↓bndVC, ↓sliceVC, ↓bltVC, ↓storeVC, ↓appVC, ↓apzVC, ↓markVC, ↓copyVC, ↓callVC, ↓argsVC, ↓argVC, ↓bindR, ↓bindR1, ↓bindRs, ↓memVC, ↓delAll, ↓keepM, ↓extE, ↓extM, ↓leS, ↓leA, ↓retVC, ↓retR, ↓resVC, ↓resV1, ↓ressVC, ↓strU, ↓xAdd64, ↓xSub64, ↓pickA, frz, frzs, ev, absC, getA, setA, delA, tt, AV.good, AV.plain, AV.isSl, AV.cells, AV.one, Cells.len, Cells.get, Cells.sub, Cells.part, Cells.agg, Cells.upd, Cells.set, Cells.cat, Cells.rep, Cells.ones, TDsc.agg, zOf, putE, dstB, letGo, quietOp, slotOp, AV.isRp, rpVC, whoOf, mthOf, nilVC, TDsc.isP, storeGVC, pickA, ↓reduceIte, Nat.reduceEqDiff, Nat.reduceLT, Nat.reduceLeDiff, Nat.reduceAdd, Nat.reduceSub, Nat.reduceMul, Nat.reduceBEq, Int.reduceLE, Int.reduceLT, Int.reduceToNat, Int.reduceNeg, BitVec.reduceToNat, forall_const, reduceCtorEq, implies_true, ne_eq, memK2, memR2, h3, cTurn, cStepsR, hl, V8.l_length, ks_length, wR_length, addK_length, turn_2, turn_6, turn_7, turn_11, turn_13, turn_17, turn_18, turn_19, turn_22, turn_25, hwl]
            repeat (refine And.intro (by first | omega | (simp only [intIn]; omega)) ?_)
            refine draw_ _ _ _ [(.fz, 0), (.fz, 2), (.fz, 5), (.fz, 8), (.fz, 12), (.tk, 9), (.tk, 10), (.fz, 11), (.tk, 13), (.tk, 14), (.fz, 15), (.fz, 16), (.tk, 17), (.tk, 18), (.tk, 19), (.tk, 20), (.fz, 21), (.fz, 22), (.ld, 1), (.ld, 3), (.fz, 4), (.ld, 6), (.fz, 7), (.fz, 23), (.fz, 24)] [] [8] (by kernel_rfl) ?_
            simp (maxSteps := 10000000) (implicitDefEqProofs := false) only [↓qaa, ↓qab, ↓qac, ↓qad, ↓qae, ↓qaf, ↓qag, qah, qai, qaj, qak, qal, qam, qan, qao, qap, qaq, qar, qas, qat, ↓entryVC, ↓condVC, ↓listVC, ↓memK, ↓memR, ↓envOf, ↓guardVC, ↓opVC, ↓pureVC, ↓binT, ↓wrapT, ↓TDsc.isW, ↓binW, ↓binVC, ↓bin8, ↓bin32, ↓bin64, ↓binInt, ↓shVC, ↓unVC, ↓cvVC, ↓rdVC, ↓loadVC, ↓pickC, ↓fillVC, ↓bndVC, ↓sliceVC, ↓bltVC, ↓storeVC, ↓appVC, ↓apzVC, ↓markVC, ↓copyVC, ↓callVC, ↓argsVC, ↓argVC, ↓bindR, ↓bindR1, ↓bindRs, ↓memVC, ↓delAll, ↓keepM, ↓extE, ↓extM, ↓leS, ↓leA, ↓retVC, ↓retR, ↓resVC, ↓resV1, ↓ressVC, ↓strU, ↓xAdd64, ↓xSub64, ↓pickA, frz, frzs, ev, absC, getA, setA, delA, tt, AV.good, AV.plain, AV.isSl, AV.cells, AV.one, Cells.len, Cells.get, Cells.sub, Cells.part, Cells.agg, Cells.upd, Cells.set, Cells.cat, Cells.rep, Cells.ones, TDsc.agg, zOf, putE, dstB, letGo, quietOp, slotOp, AV.isRp, rpVC, whoOf, mthOf, nilVC, TDsc.isP, storeGVC, pickA, ↓reduceIte, Nat.reduceEqDiff, Nat.reduceLT, Nat.reduceLeDiff, Nat.reduceAdd, Nat.reduceSub, Nat.reduceMul, Nat.reduceBEq, Int.reduceLE, Int.reduceLT, Int.reduceToNat, Int.reduceNeg, BitVec.reduceToNat, forall_const, reduceCtorEq, implies_true, ne_eq, memK2, memR2, h3, cTurn, cStepsR, hl, V8.l_length, ks_length, wR_length, addK_length, turn_2, turn_6, turn_7, turn_11, turn_13, turn_17, turn_18, turn_19, turn_22, turn_25, hwl]
            repeat (refine And.intro (by first | omega | (simp only [intIn]; omega)) ?_)
            refine LeJ.mk ⟨k + 1, by omega⟩ (by dsimp only; omega) ?_
            simp (maxSteps := 1000000) only [leS, leA, stU_env, stU_mem, pickA, getA, delA, setA, Cells.part, Cells.len, List.take_nil, List.drop_nil, List.length_nil, Nat.zero_add, ↓reduceIte, Nat.reduceEqDiff, Option.some.injEq, List.nil_append, List.cons_append, true_and, and_true, and_self, reduceCtorEq, AV.int.injEq, ME.own.injEq, ME.row.injEq, Cells.c32.injEq, Cells.c64.injEq, Cells.c8.injEq, AV.ptr.injEq, AV.ros.injEq, AV.grow.injEq, AV.u64.injEq, AV.u32.injEq]
            exact ⟨by omega, rfl⟩
          · obtain rfl : k = 64 := by omega
            generalize roundsR ws v 64 = r at *
            refine loopU _ _ _ [2, 4, 12] [2, 3] 9 (ι := {k : Nat // k ≤ 8}) (fun s => [(18, .int (s.1 : Int))]) (fun s => [(8, .own g4 56 (.c32 (addK r.l v.l s.1)))]) (fun s => 8 - s.1) ?_ ?_
            · refine LeJ.mk ⟨0, by omega⟩ trivial ?_
              simp (maxSteps := 1000000) only [leS, leA, stU_env, stU_mem, pickA, getA, delA, setA, Cells.part, Cells.len, List.take_nil, List.drop_nil, List.length_nil, Nat.zero_add, ↓reduceIte, Nat.reduceEqDiff, Option.some.injEq, List.nil_append, List.cons_append, true_and, and_true, and_self, reduceCtorEq, AV.int.injEq, ME.own.injEq, ME.row.injEq, Cells.c32.injEq, Cells.c64.injEq, Cells.c8.injEq, AV.ptr.injEq, AV.ros.injEq, AV.grow.injEq, AV.u64.injEq, AV.u32.injEq]
              exact ⟨rfl, rfl⟩
            · rintro ⟨k, hk⟩
              simp (maxSteps := 10000000) (implicitDefEqProofs := false) only [↓qaa, ↓qab, ↓qac, ↓qad, ↓qae, ↓qaf, ↓qag, qah, qai, qaj, qak, qal, qam, qan, qao, qap, qaq, qar, qas, qat, ↓entryVC, ↓condVC, ↓listVC, ↓memK, ↓memR, ↓envOf, ↓guardVC, ↓opVC, ↓pureVC, ↓binT, ↓wrapT, ↓TDsc.isW, ↓binW, ↓binVC, ↓bin8, ↓bin32, ↓bin64, ↓binInt, ↓shVC, ↓unVC, ↓cvVC, ↓rdVC, ↓loadVC, ↓pickC, ↓fillVC, ↓bndVC, ↓sliceVC, ↓bltVC, ↓storeVC, ↓appVC, ↓apzVC, ↓markVC, ↓copyVC, ↓callVC, ↓argsVC, ↓argVC, ↓bindR, ↓bindR1, ↓bindRs, ↓memVC, ↓delAll, ↓keepM, ↓extE, ↓extM, ↓leS, ↓leA, ↓retVC, ↓retR, ↓resVC, ↓resV1, ↓ressVC, ↓strU, ↓xAdd64, ↓xSub64, ↓pickA, frz, frzs, ev, absC, getA, setA, delA, tt, AV.good, AV.plain, AV.isSl, AV.cells, AV.one, Cells.len, Cells.get, Cells.sub, Cells.part, Cells.agg, Cells.upd, Cells.set, Cells.cat, Cells.rep, Cells.ones, TDsc.agg, zOf, putE, dstB, letGo, quietOp, slotOp, AV.isRp, rpVC, whoOf, mthOf, nilVC, TDsc.isP, storeGVC, pickA, ↓reduceIte, Nat.reduceEqDiff, Nat.reduceLT, Nat.reduceLeDiff, Nat.reduceAdd, Nat.reduceSub, Nat.reduceMul, Nat.reduceBEq, Int.reduceLE, Int.reduceLT, Int.reduceToNat, Int.reduceNeg, BitVec.reduceToNat, forall_const, reduceCtorEq, implies_true, ne_eq, memK2, memR2, h3, cTurn, cStepsR, hl, V8.l_length, ks_length, wR_length, addK_length, turn_2, turn_6, turn_7, turn_11, turn_13, turn_17, turn_18, turn_19, turn_22, turn_25, hwl]
              refine ⟨fun hlt => ?_, fun hge => ?_⟩
              · refine draw_ _ _ _ [(.fz, 0), (.fz, 1), (.fz, 4), (.tk, 2), (.tk, 3), (.tk, 5), (.tk, 6), (.fz, 7), (.tk, 8), (.ld, 9)] [] [2] (by kernel_rfl) ?_
                simp (maxSteps := 10000000) (implicitDefEqProofs := false) only [↓qaa, ↓qab, ↓qac, ↓qad, ↓qae, ↓qaf, ↓qag, qah, qai, qaj, qak, qal, qam, qan, qao, qap, qaq, qar, qas, qat, ↓entryVC, ↓condVC, ↓listVC, ↓memK, ↓memR, ↓envOf, ↓guardVC, ↓opVC, ↓pureVC, ↓binT, ↓wrapT, ↓TDsc.isW, ↓binW, ↓binVC, ↓bin8, ↓bin32, ↓bin64, ↓binInt, ↓shVC, ↓unVC, ↓cvVC, ↓rdVC, ↓loadVC, ↓pickC, ↓fillVC, ↓bndVC, ↓sliceVC, ↓bltVC, ↓storeVC, ↓appVC, ↓apzVC, ↓markVC, ↓copyVC, ↓callVC, ↓argsVC, ↓argVC, ↓bindR, ↓bindR1, ↓bindRs, ↓memVC, ↓delAll, ↓keepM, ↓extE, ↓extM, ↓leS, ↓leA, ↓retVC, ↓retR, ↓resVC, ↓resV1, ↓ressVC, ↓strU, ↓xAdd64, ↓xSub64, ↓pickA, frz, frzs, ev, absC, getA, setA, delA, tt, AV.good, AV.plain, AV.isSl, AV.cells, AV.one, Cells.len, Cells.get, Cells.sub, Cells.part, Cells.agg, Cells.upd, Cells.set, Cells.cat, Cells.rep, Cells.ones, TDsc.agg, zOf, putE, dstB, letGo, quietOp, slotOp, AV.isRp, rpVC, whoOf, mthOf, nilVC, TDsc.isP, storeGVC, pickA, ↓reduceIte, Nat.reduceEqDiff, Nat.reduceLT, Nat.reduceLeDiff, Nat.reduceAdd, Nat.reduceSub, Nat.reduceMul, Nat.reduceBEq, Int.reduceLE, Int.reduceLT, Int.reduceToNat, Int.reduceNeg, BitVec.reduceToNat, forall_const, reduceCtorEq, implies_true, ne_eq, memK2, memR2, h3, cTurn, cStepsR, hl, V8.l_length, ks_length, wR_length, addK_length, turn_2, turn_6, turn_7, turn_11, turn_13, turn_17, turn_18, turn_19, turn_22, turn_25, hwl]
                repeat (refine And.intro (by first | omega | (simp only [intIn]; omega)) ?_)
                refine LeJ.mk ⟨k + 1, by omega⟩ (by dsimp only; omega) ?_
                simp (maxSteps := 1000000) only [leS, leA, stU_env, stU_mem, pickA, getA, delA, setA, Cells.part, Cells.len, List.take_nil, List.drop_nil, List.length_nil, Nat.zero_add, ↓reduceIte, Nat.reduceEqDiff, Option.some.injEq, List.nil_append, List.cons_append, true_and, and_true, and_self, reduceCtorEq, AV.int.injEq, ME.own.injEq, ME.row.injEq, Cells.c32.injEq, Cells.c64.injEq, Cells.c8.injEq, AV.ptr.injEq, AV.ros.injEq, AV.grow.injEq, AV.u64.injEq, AV.u32.injEq]
                exact ⟨by omega, rfl⟩
              · obtain rfl : k = 8 := by omega
                rw [addK_all]
                exact h
  · exact h.elim
end Go.Proofs.Ytlcaobnojbkmbaa.H7
