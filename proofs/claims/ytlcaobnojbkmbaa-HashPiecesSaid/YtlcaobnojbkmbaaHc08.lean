/- What the document's Sha512 computes of a block, by the engine; it is the same. -/
import Derived.Test.YtlcaobnojbkmbaaHb08
namespace Go.Proofs.Ytlcaobnojbkmbaa.H8
open Go Go.RowKit
set_option linter.unusedVariables false
set_option linter.unusedSimpArgs false

def beW (bs : List U8) (t : Nat) : U64 := (g8 bs (8 * t + 0)).setWidth 64 <<< 56 ||| (g8 bs (8 * t + 1)).setWidth 64 <<< 48 ||| (g8 bs (8 * t + 2)).setWidth 64 <<< 40 ||| (g8 bs (8 * t + 3)).setWidth 64 <<< 32 ||| (g8 bs (8 * t + 4)).setWidth 64 <<< 24 ||| (g8 bs (8 * t + 5)).setWidth 64 <<< 16 ||| (g8 bs (8 * t + 6)).setWidth 64 <<< 8 ||| (g8 bs (8 * t + 7)).setWidth 64
def wNext (ws : List U64) (k : Nat) : U64 := s1F (g64 ws (k + 14)) + g64 ws (k + 9) + s0F (g64 ws (k + 1)) + g64 ws k
def wR (bs : List U8) : Nat → List U64
  | 0 => []
  | t + 1 => wR bs t ++ [if t < 16 then beW bs t else wNext (wR bs t) (t - 16)]
theorem wR_length (bs : List U8) (t : Nat) : (wR bs t).length = t := by
  induction t with
  | zero => rfl
  | succ t ih => simp [wR, ih]
theorem wR_low (bs : List U8) (t : Nat) (h : t < 16) : wR bs (t + 1) = wR bs t ++ [beW bs t] := by simp [wR, h]
theorem wR_high (bs : List U8) (k : Nat) : wR bs (k + 16 + 1) = wR bs (k + 16) ++ [wNext (wR bs (k + 16)) k] := by
  rw [wR, if_neg (by omega), Nat.add_sub_cancel]
def t1R (ws : List U64) (t : Nat) (v : V8) : U64 := v.h + big1 v.e + (v.e &&& v.f ^^^ (v.e ^^^ 18446744073709551615#64) &&& v.g) + g64 ks t + g64 ws t
def t2R (v : V8) : U64 := big0 v.a + (v.a &&& v.b ^^^ v.a &&& v.c ^^^ v.b &&& v.c)
def stepR (ws : List U64) (t : Nat) (v : V8) : V8 := ⟨t1R ws t v + t2R v, v.a, v.b, v.c, v.d + t1R ws t v, v.e, v.f, v.g⟩
def roundsR (ws : List U64) (v : V8) : Nat → V8
  | 0 => v
  | k + 1 => stepR ws k (roundsR ws v k)
def blockR (h : V8) (bs : List U8) : V8 := addF (roundsR (wR bs 80) h 80) h
/-! ### The same -/
theorem t1_eq (ws : List U64) (t : Nat) (v : V8) : t1R ws t v = t1F ws t v := by
  unfold t1R t1F
  have e : (18446744073709551615#64 : U64) = BitVec.allOnes 64 := rfl
  rw [e, BitVec.xor_allOnes]
theorem t2_eq (v : V8) : t2R v = t2F v := by
  unfold t2R t2F
  congr 1
  apply BitVec.eq_of_getLsbD_eq
  intro i hi
  simp only [BitVec.getLsbD_xor, BitVec.getLsbD_and, BitVec.getLsbD_or]
  cases v.a.getLsbD i <;> cases v.b.getLsbD i <;> cases v.c.getLsbD i <;> rfl
theorem rounds_eq (ws : List U64) (v : V8) (k : Nat) : roundsR ws v k = roundsF ws v k := by
  induction k with
  | zero => rfl
  | succ k ih => rw [roundsR, roundsF, ih, stepR, stepF, t1_eq, t2_eq]
theorem gW_set (xs : List U64) (i j : Nat) (x : U64) (hi : i < xs.length) : g64 (xs.set i x) j = if i = j then x else g64 xs j := by
  unfold g64
  rw [List.getD_eq_getElem?_getD, List.getD_eq_getElem?_getD, List.getElem?_set]
  by_cases h : i = j
  · subst h; simp [hi]
  · simp [h]
theorem gW_snoc (xs : List U64) (j : Nat) (x : U64) : g64 (xs ++ [x]) j = if j < xs.length then g64 xs j else if j = xs.length then x else 0 := by
  unfold g64
  rw [List.getD_eq_getElem?_getD, List.getD_eq_getElem?_getD]
  by_cases h : j < xs.length
  · rw [if_pos h, List.getElem?_append_left h]
  · rw [if_neg h, List.getElem?_append_right (by omega)]
    by_cases h2 : j = xs.length
    · subst h2; simp
    · rw [if_neg h2]
      rw [List.getElem?_eq_none (by simp; omega)]; rfl
theorem gW_z (n i : Nat) : g64 (z64 n) i = 0 := by
  unfold g64 z64
  rw [List.getD_eq_getElem?_getD, List.getElem?_replicate]
  split <;> rfl
theorem listW_ext {xs ys : List U64} (hl : xs.length = ys.length) (h : ∀ i, i < xs.length → g64 xs i = g64 ys i) : xs = ys := by
  apply List.ext_getElem hl
  intro i h1 h2
  have := h i h1
  simpa [g64, h1, h2] using this
/-- A word, so many of its bytes taken. -/
def accW (bs : List U8) (i : Nat) : Nat → U64
  | 0 => 0
  | m + 1 => accW bs i m <<< 8 ||| (g8 bs (8 * i + m)).setWidth 64
theorem accW_all (bs : List U8) (i : Nat) : accW bs i 8 = beW bs i := by
  simp only [accW, beW, Nat.add_zero, BitVec.shiftLeft_or_distrib, ← BitVec.shiftLeft_add]
  simp only [Nat.reduceAdd]
  rw [show (0 : U64) <<< 64 = 0#64 from by decide, BitVec.zero_or]
theorem sp1_get (bs : List U8) (k i : Nat) (hk : k ≤ 128) (_hi : i < 80) : g64 (sp1 bs k) i = accW bs i (min 8 (k - 8 * i)) := by
  induction k with
  | zero => rw [Nat.zero_sub, Nat.min_zero]; exact gW_z 80 i
  | succ k ih =>
    rw [sp1, gW_set _ _ _ _ (by rw [sp1_length]; omega)]
    by_cases h : k / 8 = i
    · rw [if_pos h, h, ih (by omega)]
      have e1 : min 8 (k - 8 * i) = k - 8 * i := by omega
      have e2 : min 8 (k + 1 - 8 * i) = k - 8 * i + 1 := by omega
      rw [e1, e2, accW, show 8 * i + (k - 8 * i) = k from by omega]
    · rw [if_neg h, ih (by omega)]
      congr 1
      omega
theorem wR_get_low (bs : List U8) (n i : Nat) (hn : n ≤ 16) (hi : i < n) : g64 (wR bs n) i = beW bs i := by
  induction n with
  | zero => omega
  | succ n ih =>
    rw [wR_low bs n (by omega), gW_snoc, wR_length]
    by_cases h : i < n
    · rw [if_pos h]; exact ih (by omega) h
    · rw [if_neg h, if_pos (by omega)]
      congr 1; omega
theorem sum4 (a b c d : U64) : a + b + c + d = d + c + b + a := by
  rw [BitVec.add_comm _ d, BitVec.add_comm (a + b) c, BitVec.add_comm a b, BitVec.add_assoc, BitVec.add_assoc]
theorem sp2_get (bs : List U8) (k i : Nat) (hk : k ≤ 64) (hi : i < k + 16) : g64 (sp2 bs k) i = g64 (wR bs (k + 16)) i := by
  induction k generalizing i with
  | zero =>
    rw [wR_get_low bs _ i (by omega) hi]
    show g64 (sp1 bs 128) i = _
    rw [sp1_get bs 128 i (by omega) (by omega), show min 8 (128 - 8 * i) = 8 from by omega, accW_all]
  | succ k ih =>
    rw [sp2, gW_set _ _ _ _ (by rw [sp2_length]; omega), show k + 1 + 16 = k + 16 + 1 from by omega, wR_high, gW_snoc, wR_length]
    by_cases h : k + 16 = i
    · rw [if_pos h, if_neg (by omega), if_pos h.symm]
      unfold wNext
      rw [ih _ (by omega) (by omega), ih _ (by omega) (by omega), ih _ (by omega) (by omega), ih _ (by omega) (by omega)]
      generalize s1F (g64 (wR bs (k + 16)) (k + 14)) = x3
      generalize s0F (g64 (wR bs (k + 16)) (k + 1)) = x1
      generalize g64 (wR bs (k + 16)) (k + 9) = x2
      generalize g64 (wR bs (k + 16)) k = x0
      exact sum4 x0 x1 x2 x3
    · rw [if_neg h, if_pos (by omega)]
      exact ih i (by omega) (by omega)
theorem spread_eq (bs : List U8) : wR bs 80 = spreadF bs := by
  apply listW_ext (by rw [spreadF_length, wR_length])
  intro i hi
  rw [wR_length] at hi
  exact (sp2_get bs 64 i (by omega) (by omega)).symm
theorem block_eq (h : V8) (bs : List U8) : blockR h bs = blockF h bs := by
  rw [blockF, blockR, spread_eq, rounds_eq]
def cBlockR : CT := fun cas K => match cas with
  | [.v (.a64 hs), .s (.c8 bs)] => (hs.length = 8 ∧ bs.length = 128) ∧ K (.one (.v (.a64 (blockF (toV8 hs) bs).l)))
  | _ => False
def h3 : CTab := fun F => match F with
  | 50 => .fn cTurn
  | 51 => .fn cStepsR
  | _ => .fn noCT
theorem h3_ok : CTok Try.prog h3 := by
  intro F
  unfold h3
  split
  · exact sTurn
  · exact sStepsR
  · exact sound_none _ _
set_option maxRecDepth 100000 in
set_option maxHeartbeats 1000000 in
theorem sBlockR : Sound Try.prog 31 cBlockR := by
  refine sound_vc (tt := tt) (ct := h3) ttok h3_ok mixed Try.func31 rfl (by decide) (rs := [.cell 4 59]) rfl (ts := [59]) (k := 0) ?_
  intro cas K h
  unfold cBlockR at h
  split at h
  · rename_i hs bs
    rw [Try.ntmps31]
    refine ⟨by simp, ?_⟩
    obtain ⟨⟨hh, hl⟩, h⟩ := h
    obtain ⟨v, rfl⟩ := eight hh
    rw [toV8_l, ← block_eq, blockR] at h
    simp (maxSteps := 10000000) (implicitDefEqProofs := false) only [↓qaa, ↓qab, ↓qac, ↓qad, ↓qae, ↓qaf, ↓qag, qah, qai, qaj, qak, qal, qam, qan, qao, qap, qaq, qar, qas, qat, ↓entryVC, ↓condVC, ↓listVC, ↓memK, ↓memR, ↓envOf, ↓guardVC, ↓opVC, ↓pureVC, ↓binT, ↓wrapT, ↓TDsc.isW, ↓binW, ↓binVC, ↓bin8, ↓bin32, ↓bin64, ↓binInt, ↓shVC, ↓unVC, ↓cvVC, ↓rdVC, ↓loadVC, ↓pickC, ↓fillVC, ↓bndVC, ↓sliceVC, ↓bltVC, ↓storeVC, ↓appVC, ↓apzVC, ↓markVC, ↓copyVC, ↓callVC, ↓argsVC, ↓argVC, ↓bindR, ↓bindR1, ↓bindRs, ↓memVC, ↓delAll, ↓keepM, ↓extE, ↓extM, ↓leS, ↓leA, ↓retVC, ↓retR, ↓resVC, ↓resV1, ↓ressVC, ↓strU, ↓xAdd64, ↓xSub64, ↓pickA, frz, frzs, ev, absC, getA, setA, delA, tt, AV.good, AV.plain, AV.isSl, AV.cells, AV.one, Cells.len, Cells.get, Cells.sub, Cells.part, Cells.agg, Cells.upd, Cells.set, Cells.cat, Cells.rep, Cells.ones, TDsc.agg, zOf, putE, dstB, letGo, quietOp, slotOp, AV.isRp, rpVC, whoOf, mthOf, nilVC, TDsc.isP, storeGVC, pickA, ↓reduceIte, Nat.reduceEqDiff, Nat.reduceLT, Nat.reduceLeDiff, Nat.reduceAdd, Nat.reduceSub, Nat.reduceMul, Nat.reduceBEq, Int.reduceLE, Int.reduceLT, Int.reduceToNat, Int.reduceNeg, BitVec.reduceToNat, forall_const, reduceCtorEq, implies_true, ne_eq, memK2, memR2, h3, cTurn, cStepsR, hl, V8.l_length, ks_length, wR_length, addK_length, turn_1, turn_8, turn_14, turn_18, turn_19, turn_28, turn_34, turn_39, turn_41, turn_61]
    intro A ca hca g1 g2 g3
    refine loopU _ _ _ [1, 2, 4] [1, 2, 3] 7 (ι := {s : Nat × Value // s.1 ≤ 80}) (fun s => [(6, .int (s.1.1 : Int)), (5, .grow 6 s.1.2 s.1.1)]) (fun s => [(6, .row s.1.2 34 (.c64 (wR bs s.1.1)))]) (fun s => 80 - s.1.1) ?_ ?_
    · refine LeJ.slc 5 6 rfl rfl (by decide) fun v0 => ?_
      refine LeJ.mk ⟨(0, v0), by dsimp only; omega⟩ trivial ?_
      simp (maxSteps := 1000000) only [leS, leA, stU_env, stU_mem, pickA, getA, delA, setA, Cells.part, Cells.len, List.take_nil, List.drop_nil, List.length_nil, Nat.zero_add, ↓reduceIte, Nat.reduceEqDiff, Option.some.injEq, List.nil_append, List.cons_append, true_and, and_true, and_self, reduceCtorEq, AV.int.injEq, ME.own.injEq, ME.row.injEq, Cells.c32.injEq, Cells.c64.injEq, Cells.c8.injEq, AV.ptr.injEq, AV.ros.injEq, AV.grow.injEq, AV.u64.injEq, AV.u32.injEq]
      exact ⟨rfl, rfl⟩
    · rintro ⟨⟨k, v1⟩, hk⟩
      dsimp only at hk
      simp (maxSteps := 10000000) (implicitDefEqProofs := false) only [↓qaa, ↓qab, ↓qac, ↓qad, ↓qae, ↓qaf, ↓qag, qah, qai, qaj, qak, qal, qam, qan, qao, qap, qaq, qar, qas, qat, ↓entryVC, ↓condVC, ↓listVC, ↓memK, ↓memR, ↓envOf, ↓guardVC, ↓opVC, ↓pureVC, ↓binT, ↓wrapT, ↓TDsc.isW, ↓binW, ↓binVC, ↓bin8, ↓bin32, ↓bin64, ↓binInt, ↓shVC, ↓unVC, ↓cvVC, ↓rdVC, ↓loadVC, ↓pickC, ↓fillVC, ↓bndVC, ↓sliceVC, ↓bltVC, ↓storeVC, ↓appVC, ↓apzVC, ↓markVC, ↓copyVC, ↓callVC, ↓argsVC, ↓argVC, ↓bindR, ↓bindR1, ↓bindRs, ↓memVC, ↓delAll, ↓keepM, ↓extE, ↓extM, ↓leS, ↓leA, ↓retVC, ↓retR, ↓resVC, ↓resV1, ↓ressVC, ↓strU, ↓xAdd64, ↓xSub64, ↓pickA, frz, frzs, ev, absC, getA, setA, delA, tt, AV.good, AV.plain, AV.isSl, AV.cells, AV.one, Cells.len, Cells.get, Cells.sub, Cells.part, Cells.agg, Cells.upd, Cells.set, Cells.cat, Cells.rep, Cells.ones, TDsc.agg, zOf, putE, dstB, letGo, quietOp, slotOp, AV.isRp, rpVC, whoOf, mthOf, nilVC, TDsc.isP, storeGVC, pickA, ↓reduceIte, Nat.reduceEqDiff, Nat.reduceLT, Nat.reduceLeDiff, Nat.reduceAdd, Nat.reduceSub, Nat.reduceMul, Nat.reduceBEq, Int.reduceLE, Int.reduceLT, Int.reduceToNat, Int.reduceNeg, BitVec.reduceToNat, forall_const, reduceCtorEq, implies_true, ne_eq, memK2, memR2, h3, cTurn, cStepsR, hl, V8.l_length, ks_length, wR_length, addK_length, turn_1, turn_8, turn_14, turn_18, turn_19, turn_28, turn_34, turn_39, turn_41, turn_61]
      refine ⟨fun hlt => ⟨fun h16 => ?_, fun h16 => ?_⟩, fun hge => ?_⟩
      · refine draw_ _ _ _ [(.fz, 0), (.fz, 1), (.fz, 2), (.fz, 3), (.fz, 4), (.fz, 9), (.fz, 10), (.fz, 11), (.fz, 12), (.fz, 18), (.fz, 19), (.fz, 20), (.fz, 21), (.fz, 27), (.fz, 28), (.fz, 29), (.fz, 30), (.fz, 36), (.fz, 37), (.fz, 38), (.fz, 39), (.fz, 45), (.fz, 46), (.fz, 47), (.fz, 48), (.fz, 54), (.fz, 55), (.fz, 56), (.fz, 57), (.fz, 63), (.fz, 64), (.fz, 65), (.fz, 66), (.tk, 5), (.tk, 6), (.tk, 7), (.fz, 8), (.tk, 13), (.tk, 14), (.tk, 15), (.fz, 16), (.fz, 17), (.tk, 22), (.tk, 23), (.tk, 24), (.fz, 25), (.fz, 26), (.tk, 31), (.tk, 32), (.tk, 33), (.fz, 34), (.fz, 35), (.tk, 40), (.tk, 41), (.tk, 42), (.fz, 43), (.fz, 44), (.tk, 49), (.tk, 50), (.tk, 51), (.fz, 52), (.fz, 53), (.tk, 58), (.tk, 59), (.tk, 60), (.fz, 61), (.fz, 62), (.tk, 67), (.tk, 68), (.tk, 69), (.fz, 70), (.ld, 71), (.ld, 72), (.fz, 73)] [] [1] (by kernel_rfl) ?_
        simp (maxSteps := 10000000) (implicitDefEqProofs := false) only [↓qaa, ↓qab, ↓qac, ↓qad, ↓qae, ↓qaf, ↓qag, qah, qai, qaj, qak, qal, qam, qan, qao, qap, qaq, qar, qas, qat, ↓entryVC, ↓condVC, ↓listVC, ↓memK, ↓memR, ↓envOf, ↓guardVC, ↓opVC, ↓pureVC, ↓binT, ↓wrapT, ↓TDsc.isW, ↓binW, ↓binVC, ↓bin8, ↓bin32, ↓bin64, ↓binInt, ↓shVC, ↓unVC, ↓cvVC, ↓rdVC, ↓loadVC, ↓pickC, ↓fillVC, ↓bndVC, ↓sliceVC, ↓bltVC, ↓storeVC, ↓appVC, ↓apzVC, ↓markVC, ↓copyVC, ↓callVC, ↓argsVC, ↓argVC, ↓bindR, ↓bindR1, ↓bindRs, ↓memVC, ↓delAll, ↓keepM, ↓extE, ↓extM, ↓leS, ↓leA, ↓retVC, ↓retR, ↓resVC, ↓resV1, ↓ressVC, ↓strU, ↓xAdd64, ↓xSub64, ↓pickA, frz, frzs, ev, absC, getA, setA, delA, tt, AV.good, AV.plain, AV.isSl, AV.cells, AV.one, Cells.len, Cells.get, Cells.sub, Cells.part, Cells.agg, Cells.upd, Cells.set, Cells.cat, Cells.rep, Cells.ones, TDsc.agg, zOf, putE, dstB, letGo, quietOp, slotOp, AV.isRp, rpVC, whoOf, mthOf, nilVC, TDsc.isP, storeGVC, pickA, ↓reduceIte, Nat.reduceEqDiff, Nat.reduceLT, Nat.reduceLeDiff, Nat.reduceAdd, Nat.reduceSub, Nat.reduceMul, Nat.reduceBEq, Int.reduceLE, Int.reduceLT, Int.reduceToNat, Int.reduceNeg, BitVec.reduceToNat, forall_const, reduceCtorEq, implies_true, ne_eq, memK2, memR2, h3, cTurn, cStepsR, hl, V8.l_length, ks_length, wR_length, addK_length, turn_1, turn_8, turn_14, turn_18, turn_19, turn_28, turn_34, turn_39, turn_41, turn_61]
        have e0 : (8 * (k : Int) + 0).toNat = 8 * k := by omega
        have e1 : (8 * (k : Int) + 1).toNat = 8 * k + 1 := by omega
        have e2 : (8 * (k : Int) + 2).toNat = 8 * k + 2 := by omega
        have e3 : (8 * (k : Int) + 3).toNat = 8 * k + 3 := by omega
        have e4 : (8 * (k : Int) + 4).toNat = 8 * k + 4 := by omega
        have e5 : (8 * (k : Int) + 5).toNat = 8 * k + 5 := by omega
        have e6 : (8 * (k : Int) + 6).toNat = 8 * k + 6 := by omega
        have e7 : (8 * (k : Int) + 7).toNat = 8 * k + 7 := by omega
        simp only [e0, e1, e2, e3, e4, e5, e6, e7]
        repeat (refine And.intro (by first | omega | (simp only [intIn, wR_length, List.length_append, List.length_cons, List.length_nil]; omega)) ?_)
        intro g4
        repeat (refine And.intro (by first | omega | (simp only [intIn, wR_length, List.length_append, List.length_cons, List.length_nil]; omega)) ?_)
        intro v2
        repeat (refine And.intro (by first | omega | (simp only [intIn]; omega)) ?_)
        refine LeJ.mk ⟨(k + 1, v2), by dsimp only; omega⟩ (by dsimp only; omega) ?_
        simp (maxSteps := 1000000) only [leS, leA, stU_env, stU_mem, pickA, getA, delA, setA, Cells.part, Cells.len, List.take_nil, List.drop_nil, List.length_nil, Nat.zero_add, ↓reduceIte, Nat.reduceEqDiff, Option.some.injEq, List.nil_append, List.cons_append, true_and, and_true, and_self, reduceCtorEq, AV.int.injEq, ME.own.injEq, ME.row.injEq, Cells.c32.injEq, Cells.c64.injEq, Cells.c8.injEq, AV.ptr.injEq, AV.ros.injEq, AV.grow.injEq, AV.u64.injEq, AV.u32.injEq, List.length_append, wR_length, List.length_cons]
        exact ⟨by omega, (wR_low bs k (by omega)).symm⟩
      · obtain ⟨j, rfl⟩ : ∃ j, k = j + 16 := ⟨k - 16, by omega⟩
        refine draw_ _ _ _ [(.fz, 0), (.fz, 1), (.fz, 2), (.fz, 5), (.fz, 6), (.fz, 7), (.tk, 3), (.tk, 4), (.fz, 10), (.tk, 8), (.tk, 9), (.fz, 11)] [] [6] (by kernel_rfl) ?_
        simp (maxSteps := 10000000) (implicitDefEqProofs := false) only [↓qaa, ↓qab, ↓qac, ↓qad, ↓qae, ↓qaf, ↓qag, qah, qai, qaj, qak, qal, qam, qan, qao, qap, qaq, qar, qas, qat, ↓entryVC, ↓condVC, ↓listVC, ↓memK, ↓memR, ↓envOf, ↓guardVC, ↓opVC, ↓pureVC, ↓binT, ↓wrapT, ↓TDsc.isW, ↓binW, ↓binVC, ↓bin8, ↓bin32, ↓bin64, ↓binInt, ↓shVC, ↓unVC, ↓cvVC, ↓rdVC, ↓loadVC, ↓pickC, ↓fillVC, ↓bndVC, ↓sliceVC, ↓bltVC, ↓storeVC, ↓appVC, ↓apzVC, ↓markVC, ↓copyVC, ↓callVC, ↓argsVC, ↓argVC, ↓bindR, ↓bindR1, ↓bindRs, ↓memVC, ↓delAll, ↓keepM, ↓extE, ↓extM, ↓leS, ↓leA, ↓retVC, ↓retR, ↓resVC, ↓resV1, ↓ressVC, ↓strU, ↓xAdd64, ↓xSub64, ↓pickA, frz, frzs, ev, absC, getA, setA, delA, tt, AV.good, AV.plain, AV.isSl, AV.cells, AV.one, Cells.len, Cells.get, Cells.sub, Cells.part, Cells.agg, Cells.upd, Cells.set, Cells.cat, Cells.rep, Cells.ones, TDsc.agg, zOf, putE, dstB, letGo, quietOp, slotOp, AV.isRp, rpVC, whoOf, mthOf, nilVC, TDsc.isP, storeGVC, pickA, ↓reduceIte, Nat.reduceEqDiff, Nat.reduceLT, Nat.reduceLeDiff, Nat.reduceAdd, Nat.reduceSub, Nat.reduceMul, Nat.reduceBEq, Int.reduceLE, Int.reduceLT, Int.reduceToNat, Int.reduceNeg, BitVec.reduceToNat, forall_const, reduceCtorEq, implies_true, ne_eq, memK2, memR2, h3, cTurn, cStepsR, hl, V8.l_length, ks_length, wR_length, addK_length, turn_1, turn_8, turn_14, turn_18, turn_19, turn_28, turn_34, turn_39, turn_41, turn_61]
        have e15 : (((j + 16 : Nat) : Int) - 15).toNat = j + 1 := by omega
        have e2 : (((j + 16 : Nat) : Int) - 2).toNat = j + 14 := by omega
        have e7 : (((j + 16 : Nat) : Int) - 7).toNat = j + 9 := by omega
        have e16 : (((j + 16 : Nat) : Int) - 16).toNat = j := by omega
        simp only [e15, e2]
        repeat (refine And.intro (by first | omega | (simp only [intIn, wR_length]; omega)) ?_)
        refine draw_ _ _ _ [(.fz, 0), (.fz, 1), (.fz, 2), (.fz, 3), (.fz, 4), (.fz, 8), (.fz, 10), (.fz, 11), (.fz, 12), (.tk, 5), (.tk, 6), (.fz, 7), (.fz, 9), (.tk, 13), (.tk, 14), (.fz, 15), (.ld, 16), (.ld, 17), (.fz, 18)] [] [] (by kernel_rfl) ?_
        simp (maxSteps := 10000000) (implicitDefEqProofs := false) only [↓qaa, ↓qab, ↓qac, ↓qad, ↓qae, ↓qaf, ↓qag, qah, qai, qaj, qak, qal, qam, qan, qao, qap, qaq, qar, qas, qat, ↓entryVC, ↓condVC, ↓listVC, ↓memK, ↓memR, ↓envOf, ↓guardVC, ↓opVC, ↓pureVC, ↓binT, ↓wrapT, ↓TDsc.isW, ↓binW, ↓binVC, ↓bin8, ↓bin32, ↓bin64, ↓binInt, ↓shVC, ↓unVC, ↓cvVC, ↓rdVC, ↓loadVC, ↓pickC, ↓fillVC, ↓bndVC, ↓sliceVC, ↓bltVC, ↓storeVC, ↓appVC, ↓apzVC, ↓markVC, ↓copyVC, ↓callVC, ↓argsVC, ↓argVC, ↓bindR, ↓bindR1, ↓bindRs, ↓memVC, ↓delAll, ↓keepM, ↓extE, ↓extM, ↓leS, ↓leA, ↓retVC, ↓retR, ↓resVC, ↓resV1, ↓ressVC, ↓strU, ↓xAdd64, ↓xSub64, ↓pickA, frz, frzs, ev, absC, getA, setA, delA, tt, AV.good, AV.plain, AV.isSl, AV.cells, AV.one, Cells.len, Cells.get, Cells.sub, Cells.part, Cells.agg, Cells.upd, Cells.set, Cells.cat, Cells.rep, Cells.ones, TDsc.agg, zOf, putE, dstB, letGo, quietOp, slotOp, AV.isRp, rpVC, whoOf, mthOf, nilVC, TDsc.isP, storeGVC, pickA, ↓reduceIte, Nat.reduceEqDiff, Nat.reduceLT, Nat.reduceLeDiff, Nat.reduceAdd, Nat.reduceSub, Nat.reduceMul, Nat.reduceBEq, Int.reduceLE, Int.reduceLT, Int.reduceToNat, Int.reduceNeg, BitVec.reduceToNat, forall_const, reduceCtorEq, implies_true, ne_eq, memK2, memR2, h3, cTurn, cStepsR, hl, V8.l_length, ks_length, wR_length, addK_length, turn_1, turn_8, turn_14, turn_18, turn_19, turn_28, turn_34, turn_39, turn_41, turn_61]
        simp only [e7, e16]
        repeat (refine And.intro (by first | omega | (simp only [intIn, wR_length, List.length_append, List.length_cons, List.length_nil]; omega)) ?_)
        intro g4
        repeat (refine And.intro (by first | omega | (simp only [intIn, wR_length, List.length_append, List.length_cons, List.length_nil]; omega)) ?_)
        intro v2
        repeat (refine And.intro (by first | omega | (simp only [intIn]; omega)) ?_)
        refine LeJ.mk ⟨(j + 16 + 1, v2), by dsimp only; omega⟩ (by dsimp only; omega) ?_
        simp (maxSteps := 1000000) only [leS, leA, stU_env, stU_mem, pickA, getA, delA, setA, Cells.part, Cells.len, List.take_nil, List.drop_nil, List.length_nil, Nat.zero_add, ↓reduceIte, Nat.reduceEqDiff, Option.some.injEq, List.nil_append, List.cons_append, true_and, and_true, and_self, reduceCtorEq, AV.int.injEq, ME.own.injEq, ME.row.injEq, Cells.c32.injEq, Cells.c64.injEq, Cells.c8.injEq, AV.ptr.injEq, AV.ros.injEq, AV.grow.injEq, AV.u64.injEq, AV.u32.injEq, List.length_append, wR_length, List.length_cons]
        exact ⟨by omega, (wR_high bs j).symm⟩
      · obtain rfl : k = 80 := by omega
        intro A2 c2 hc2 g4
        obtain ⟨ws, hws⟩ : ∃ ws, wR bs 80 = ws := ⟨_, rfl⟩
        have hwl : ws.length = 80 := by rw [← hws, wR_length]
        rw [hws] at h ⊢
        refine loopU _ _ _ [2, 4, 5, 11, 12] [2, 3, 6, 7] 9 (ι := {k : Nat // k ≤ 80}) (fun s => [(13, .int (s.1 : Int))]) (fun s => [(8, .own g4 59 (.c64 (roundsR ws v s.1).l))]) (fun s => 80 - s.1) ?_ ?_
        · refine LeJ.mk ⟨0, by omega⟩ trivial ?_
          simp (maxSteps := 1000000) only [leS, leA, stU_env, stU_mem, pickA, getA, delA, setA, Cells.part, Cells.len, List.take_nil, List.drop_nil, List.length_nil, Nat.zero_add, ↓reduceIte, Nat.reduceEqDiff, Option.some.injEq, List.nil_append, List.cons_append, true_and, and_true, and_self, reduceCtorEq, AV.int.injEq, ME.own.injEq, ME.row.injEq, Cells.c32.injEq, Cells.c64.injEq, Cells.c8.injEq, AV.ptr.injEq, AV.ros.injEq, AV.grow.injEq, AV.u64.injEq, AV.u32.injEq]
          exact ⟨rfl, rfl⟩
        · rintro ⟨k, hk⟩
          simp (maxSteps := 10000000) (implicitDefEqProofs := false) only [↓qaa, ↓qab, ↓qac, ↓qad, ↓qae, ↓qaf, ↓qag, qah, qai, qaj, qak, qal, qam, qan, qao, qap, qaq, qar, qas, qat, ↓entryVC, ↓condVC, ↓listVC, ↓memK, ↓memR, ↓envOf, ↓guardVC, ↓opVC, ↓pureVC, ↓binT, ↓wrapT, ↓TDsc.isW, ↓binW, ↓binVC, ↓bin8, ↓bin32, ↓bin64, ↓binInt, ↓shVC, ↓unVC, ↓cvVC, ↓rdVC, ↓loadVC, ↓pickC, ↓fillVC, ↓bndVC, ↓sliceVC, ↓bltVC, ↓storeVC, ↓appVC, ↓apzVC, ↓markVC, ↓copyVC, ↓callVC, ↓argsVC, ↓argVC, ↓bindR, ↓bindR1, ↓bindRs, ↓memVC, ↓delAll, ↓keepM, ↓extE, ↓extM, ↓leS, ↓leA, ↓retVC, ↓retR, ↓resVC, ↓resV1, ↓ressVC, ↓strU, ↓xAdd64, ↓xSub64, ↓pickA, frz, frzs, ev, absC, getA, setA, delA, tt, AV.good, AV.plain, AV.isSl, AV.cells, AV.one, Cells.len, Cells.get, Cells.sub, Cells.part, Cells.agg, Cells.upd, Cells.set, Cells.cat, Cells.rep, Cells.ones, TDsc.agg, zOf, putE, dstB, letGo, quietOp, slotOp, AV.isRp, rpVC, whoOf, mthOf, nilVC, TDsc.isP, storeGVC, pickA, ↓reduceIte, Nat.reduceEqDiff, Nat.reduceLT, Nat.reduceLeDiff, Nat.reduceAdd, Nat.reduceSub, Nat.reduceMul, Nat.reduceBEq, Int.reduceLE, Int.reduceLT, Int.reduceToNat, Int.reduceNeg, BitVec.reduceToNat, forall_const, reduceCtorEq, implies_true, ne_eq, memK2, memR2, h3, cTurn, cStepsR, hl, V8.l_length, ks_length, wR_length, addK_length, turn_1, turn_8, turn_14, turn_18, turn_19, turn_28, turn_34, turn_39, turn_41, turn_61, hwl]
          refine ⟨fun hlt => ?_, fun hge => ?_⟩
          · refine draw_ _ _ _ [(.tk, 0), (.tk, 1), (.fz, 4), (.tk, 2), (.tk, 3), (.fz, 5)] [] [8] (by kernel_rfl) ?_
            simp (maxSteps := 10000000) (implicitDefEqProofs := false) only [↓qaa, ↓qab, ↓qac, ↓qad, ↓qae, ↓qaf, ↓qag, qah, qai, qaj, qak, qal, qam, qan, qao, qap, qaq, qar, qas, qat, ↓entryVC, ↓condVC, ↓listVC, ↓memK, ↓memR, ↓envOf, ↓guardVC, ↓opVC, ↓pureVC, ↓binT, ↓wrapT, ↓TDsc.isW, ↓binW, ↓binVC, ↓bin8, ↓bin32, ↓bin64, ↓binInt, ↓shVC, ↓unVC, ↓cvVC, ↓rdVC, ↓loadVC, ↓pickC, ↓fillVC, ↓bndVC, ↓sliceVC, ↓bltVC, ↓storeVC, ↓appVC, ↓apzVC, ↓markVC, ↓copyVC, ↓callVC, ↓argsVC, ↓argVC, ↓bindR, ↓bindR1, ↓bindRs, ↓memVC, ↓delAll, ↓keepM, ↓extE, ↓extM, ↓leS, ↓leA, ↓retVC, ↓retR, ↓resVC, ↓resV1, ↓ressVC, ↓strU, ↓xAdd64, ↓xSub64, ↓pickA, frz, frzs, ev, absC, getA, setA, delA, tt, AV.good, AV.plain, AV.isSl, AV.cells, AV.one, Cells.len, Cells.get, Cells.sub, Cells.part, Cells.agg, Cells.upd, Cells.set, Cells.cat, Cells.rep, Cells.ones, TDsc.agg, zOf, putE, dstB, letGo, quietOp, slotOp, AV.isRp, rpVC, whoOf, mthOf, nilVC, TDsc.isP, storeGVC, pickA, ↓reduceIte, Nat.reduceEqDiff, Nat.reduceLT, Nat.reduceLeDiff, Nat.reduceAdd, Nat.reduceSub, Nat.reduceMul, Nat.reduceBEq, Int.reduceLE, Int.reduceLT, Int.reduceToNat, Int.reduceNeg, BitVec.reduceToNat, forall_const, reduceCtorEq, implies_true, ne_eq, memK2, memR2, h3, cTurn, cStepsR, hl, V8.l_length, ks_length, wR_length, addK_length, turn_1, turn_8, turn_14, turn_18, turn_19, turn_28, turn_34, turn_39, turn_41, turn_61, hwl]
            repeat (refine And.intro (by first | omega | (simp only [intIn]; omega)) ?_)
            refine draw_ _ _ _ [(.fz, 2), (.fz, 4), (.fz, 7), (.fz, 11), (.fz, 15), (.fz, 16), (.fz, 22), (.fz, 23), (.fz, 27), (.fz, 28), (.tk, 0), (.tk, 1), (.tk, 12), (.tk, 13), (.fz, 14), (.tk, 17), (.tk, 18), (.fz, 19), (.fz, 20), (.tk, 24), (.tk, 25), (.tk, 29), (.tk, 30), (.ld, 3), (.ld, 5), (.fz, 6), (.ld, 8), (.fz, 9), (.fz, 10), (.fz, 21), (.fz, 26), (.fz, 31), (.fz, 32)] [] [6, 7, 8] (by kernel_rfl) ?_
            simp (maxSteps := 10000000) (implicitDefEqProofs := false) only [↓qaa, ↓qab, ↓qac, ↓qad, ↓qae, ↓qaf, ↓qag, qah, qai, qaj, qak, qal, qam, qan, qao, qap, qaq, qar, qas, qat, ↓entryVC, ↓condVC, ↓listVC, ↓memK, ↓memR, ↓envOf, ↓guardVC, ↓opVC, ↓pureVC, ↓binT, ↓wrapT, ↓TDsc.isW, ↓binW, ↓binVC, ↓bin8, ↓bin32, ↓bin64, ↓binInt, ↓shVC, ↓unVC, ↓cvVC, ↓rdVC, ↓loadVC, ↓pickC, ↓fillVC, ↓bndVC, ↓sliceVC, ↓bltVC, ↓storeVC, ↓appVC, ↓apzVC, ↓markVC, ↓copyVC, ↓callVC, ↓argsVC, ↓argVC, ↓bindR, ↓bindR1, ↓bindRs, ↓memVC, ↓delAll, ↓keepM, ↓extE, ↓extM, ↓leS, ↓leA, ↓retVC, ↓retR, ↓resVC, ↓resV1, ↓ressVC, ↓strU, ↓xAdd64, ↓xSub64, ↓pickA, frz, frzs, ev, absC, getA, setA, delA, tt, AV.good, AV.plain, AV.isSl, AV.cells, AV.one, Cells.len, Cells.get, Cells.sub, Cells.part, Cells.agg, Cells.upd, Cells.set, Cells.cat, Cells.rep, Cells.ones, TDsc.agg, zOf, putE, dstB, letGo, quietOp, slotOp, AV.isRp, rpVC, whoOf, mthOf, nilVC, TDsc.isP, storeGVC, pickA, ↓reduceIte, Nat.reduceEqDiff, Nat.reduceLT, Nat.reduceLeDiff, Nat.reduceAdd, Nat.reduceSub, Nat.reduceMul, Nat.reduceBEq, Int.reduceLE, Int.reduceLT, Int.reduceToNat, Int.reduceNeg, BitVec.reduceToNat, forall_const, reduceCtorEq, implies_true, ne_eq, memK2, memR2, h3, cTurn, cStepsR, hl, V8.l_length, ks_length, wR_length, addK_length, turn_1, turn_8, turn_14, turn_18, turn_19, turn_28, turn_34, turn_39, turn_41, turn_61, hwl]
            repeat (refine And.intro (by first | omega | (simp only [intIn]; omega)) ?_)
            refine draw_ _ _ _ [(.fz, 0), (.fz, 2), (.fz, 5), (.fz, 8), (.fz, 12), (.tk, 9), (.tk, 10), (.fz, 11), (.tk, 13), (.tk, 14), (.fz, 15), (.fz, 16), (.tk, 17), (.tk, 18), (.tk, 19), (.tk, 20), (.fz, 21), (.fz, 22), (.ld, 1), (.ld, 3), (.fz, 4), (.ld, 6), (.fz, 7), (.fz, 23), (.fz, 24)] [] [8] (by kernel_rfl) ?_
            simp (maxSteps := 10000000) (implicitDefEqProofs := false) only [↓qaa, ↓qab, ↓qac, ↓qad, ↓qae, ↓qaf, ↓qag, qah, qai, qaj, qak, qal, qam, qan, qao, qap, qaq, qar, qas, qat, ↓entryVC, ↓condVC, ↓listVC, ↓memK, ↓memR, ↓envOf, ↓guardVC, ↓opVC, ↓pureVC, ↓binT, ↓wrapT, ↓TDsc.isW, ↓binW, ↓binVC, ↓bin8, ↓bin32, ↓bin64, ↓binInt, ↓shVC, ↓unVC, ↓cvVC, ↓rdVC, ↓loadVC, ↓pickC, ↓fillVC, ↓bndVC, ↓sliceVC, ↓bltVC, ↓storeVC, ↓appVC, ↓apzVC, ↓markVC, ↓copyVC, ↓callVC, ↓argsVC, ↓argVC, ↓bindR, ↓bindR1, ↓bindRs, ↓memVC, ↓delAll, ↓keepM, ↓extE, ↓extM, ↓leS, ↓leA, ↓retVC, ↓retR, ↓resVC, ↓resV1, ↓ressVC, ↓strU, ↓xAdd64, ↓xSub64, ↓pickA, frz, frzs, ev, absC, getA, setA, delA, tt, AV.good, AV.plain, AV.isSl, AV.cells, AV.one, Cells.len, Cells.get, Cells.sub, Cells.part, Cells.agg, Cells.upd, Cells.set, Cells.cat, Cells.rep, Cells.ones, TDsc.agg, zOf, putE, dstB, letGo, quietOp, slotOp, AV.isRp, rpVC, whoOf, mthOf, nilVC, TDsc.isP, storeGVC, pickA, ↓reduceIte, Nat.reduceEqDiff, Nat.reduceLT, Nat.reduceLeDiff, Nat.reduceAdd, Nat.reduceSub, Nat.reduceMul, Nat.reduceBEq, Int.reduceLE, Int.reduceLT, Int.reduceToNat, Int.reduceNeg, BitVec.reduceToNat, forall_const, reduceCtorEq, implies_true, ne_eq, memK2, memR2, h3, cTurn, cStepsR, hl, V8.l_length, ks_length, wR_length, addK_length, turn_1, turn_8, turn_14, turn_18, turn_19, turn_28, turn_34, turn_39, turn_41, turn_61, hwl]
            repeat (refine And.intro (by first | omega | (simp only [intIn]; omega)) ?_)
            refine LeJ.mk ⟨k + 1, by omega⟩ (by dsimp only; omega) ?_
            simp (maxSteps := 1000000) only [leS, leA, stU_env, stU_mem, pickA, getA, delA, setA, Cells.part, Cells.len, List.take_nil, List.drop_nil, List.length_nil, Nat.zero_add, ↓reduceIte, Nat.reduceEqDiff, Option.some.injEq, List.nil_append, List.cons_append, true_and, and_true, and_self, reduceCtorEq, AV.int.injEq, ME.own.injEq, ME.row.injEq, Cells.c32.injEq, Cells.c64.injEq, Cells.c8.injEq, AV.ptr.injEq, AV.ros.injEq, AV.grow.injEq, AV.u64.injEq, AV.u32.injEq]
            exact ⟨by omega, rfl⟩
          · obtain rfl : k = 80 := by omega
            generalize roundsR ws v 80 = r at *
            refine loopU _ _ _ [2, 4, 12] [2, 3] 9 (ι := {k : Nat // k ≤ 8}) (fun s => [(18, .int (s.1 : Int))]) (fun s => [(8, .own g4 59 (.c64 (addK r.l v.l s.1)))]) (fun s => 8 - s.1) ?_ ?_
            · refine LeJ.mk ⟨0, by omega⟩ trivial ?_
              simp (maxSteps := 1000000) only [leS, leA, stU_env, stU_mem, pickA, getA, delA, setA, Cells.part, Cells.len, List.take_nil, List.drop_nil, List.length_nil, Nat.zero_add, ↓reduceIte, Nat.reduceEqDiff, Option.some.injEq, List.nil_append, List.cons_append, true_and, and_true, and_self, reduceCtorEq, AV.int.injEq, ME.own.injEq, ME.row.injEq, Cells.c32.injEq, Cells.c64.injEq, Cells.c8.injEq, AV.ptr.injEq, AV.ros.injEq, AV.grow.injEq, AV.u64.injEq, AV.u32.injEq]
              exact ⟨rfl, rfl⟩
            · rintro ⟨k, hk⟩
              simp (maxSteps := 10000000) (implicitDefEqProofs := false) only [↓qaa, ↓qab, ↓qac, ↓qad, ↓qae, ↓qaf, ↓qag, qah, qai, qaj, qak, qal, qam, qan, qao, qap, qaq, qar, qas, qat, ↓entryVC, ↓condVC, ↓listVC, ↓memK, ↓memR, ↓envOf, ↓guardVC, ↓opVC, ↓pureVC, ↓binT, ↓wrapT, ↓TDsc.isW, ↓binW, ↓binVC, ↓bin8, ↓bin32, ↓bin64, ↓binInt, ↓shVC, ↓unVC, ↓cvVC, ↓rdVC, ↓loadVC, ↓pickC, ↓fillVC, ↓bndVC, ↓sliceVC, ↓bltVC, ↓storeVC, ↓appVC, ↓apzVC, ↓markVC, ↓copyVC, ↓callVC, ↓argsVC, ↓argVC, ↓bindR, ↓bindR1, ↓bindRs, ↓memVC, ↓delAll, ↓keepM, ↓extE, ↓extM, ↓leS, ↓leA, ↓retVC, ↓retR, ↓resVC, ↓resV1, ↓ressVC, ↓strU, ↓xAdd64, ↓xSub64, ↓pickA, frz, frzs, ev, absC, getA, setA, delA, tt, AV.good, AV.plain, AV.isSl, AV.cells, AV.one, Cells.len, Cells.get, Cells.sub, Cells.part, Cells.agg, Cells.upd, Cells.set, Cells.cat, Cells.rep, Cells.ones, TDsc.agg, zOf, putE, dstB, letGo, quietOp, slotOp, AV.isRp, rpVC, whoOf, mthOf, nilVC, TDsc.isP, storeGVC, pickA, ↓reduceIte, Nat.reduceEqDiff, Nat.reduceLT, Nat.reduceLeDiff, Nat.reduceAdd, Nat.reduceSub, Nat.reduceMul, Nat.reduceBEq, Int.reduceLE, Int.reduceLT, Int.reduceToNat, Int.reduceNeg, BitVec.reduceToNat, forall_const, reduceCtorEq, implies_true, ne_eq, memK2, memR2, h3, cTurn, cStepsR, hl, V8.l_length, ks_length, wR_length, addK_length, turn_1, turn_8, turn_14, turn_18, turn_19, turn_28, turn_34, turn_39, turn_41, turn_61, hwl]
              refine ⟨fun hlt => ?_, fun hge => ?_⟩
              · refine draw_ _ _ _ [(.fz, 0), (.fz, 1), (.fz, 4), (.tk, 2), (.tk, 3), (.tk, 5), (.tk, 6), (.fz, 7), (.tk, 8), (.ld, 9)] [] [2] (by kernel_rfl) ?_
                simp (maxSteps := 10000000) (implicitDefEqProofs := false) only [↓qaa, ↓qab, ↓qac, ↓qad, ↓qae, ↓qaf, ↓qag, qah, qai, qaj, qak, qal, qam, qan, qao, qap, qaq, qar, qas, qat, ↓entryVC, ↓condVC, ↓listVC, ↓memK, ↓memR, ↓envOf, ↓guardVC, ↓opVC, ↓pureVC, ↓binT, ↓wrapT, ↓TDsc.isW, ↓binW, ↓binVC, ↓bin8, ↓bin32, ↓bin64, ↓binInt, ↓shVC, ↓unVC, ↓cvVC, ↓rdVC, ↓loadVC, ↓pickC, ↓fillVC, ↓bndVC, ↓sliceVC, ↓bltVC, ↓storeVC, ↓appVC, ↓apzVC, ↓markVC, ↓copyVC, ↓callVC, ↓argsVC, ↓argVC, ↓bindR, ↓bindR1, ↓bindRs, ↓memVC, ↓delAll, ↓keepM, ↓extE, ↓extM, ↓leS, ↓leA, ↓retVC, ↓retR, ↓resVC, ↓resV1, ↓ressVC, ↓strU, ↓xAdd64, ↓xSub64, ↓pickA, frz, frzs, ev, absC, getA, setA, delA, tt, AV.good, AV.plain, AV.isSl, AV.cells, AV.one, Cells.len, Cells.get, Cells.sub, Cells.part, Cells.agg, Cells.upd, Cells.set, Cells.cat, Cells.rep, Cells.ones, TDsc.agg, zOf, putE, dstB, letGo, quietOp, slotOp, AV.isRp, rpVC, whoOf, mthOf, nilVC, TDsc.isP, storeGVC, pickA, ↓reduceIte, Nat.reduceEqDiff, Nat.reduceLT, Nat.reduceLeDiff, Nat.reduceAdd, Nat.reduceSub, Nat.reduceMul, Nat.reduceBEq, Int.reduceLE, Int.reduceLT, Int.reduceToNat, Int.reduceNeg, BitVec.reduceToNat, forall_const, reduceCtorEq, implies_true, ne_eq, memK2, memR2, h3, cTurn, cStepsR, hl, V8.l_length, ks_length, wR_length, addK_length, turn_1, turn_8, turn_14, turn_18, turn_19, turn_28, turn_34, turn_39, turn_41, turn_61, hwl]
                repeat (refine And.intro (by first | omega | (simp only [intIn]; omega)) ?_)
                refine LeJ.mk ⟨k + 1, by omega⟩ (by dsimp only; omega) ?_
                simp (maxSteps := 1000000) only [leS, leA, stU_env, stU_mem, pickA, getA, delA, setA, Cells.part, Cells.len, List.take_nil, List.drop_nil, List.length_nil, Nat.zero_add, ↓reduceIte, Nat.reduceEqDiff, Option.some.injEq, List.nil_append, List.cons_append, true_and, and_true, and_self, reduceCtorEq, AV.int.injEq, ME.own.injEq, ME.row.injEq, Cells.c32.injEq, Cells.c64.injEq, Cells.c8.injEq, AV.ptr.injEq, AV.ros.injEq, AV.grow.injEq, AV.u64.injEq, AV.u32.injEq]
                exact ⟨by omega, rfl⟩
              · obtain rfl : k = 8 := by omega
                rw [addK_all]
                exact h
  · exact h.elim
end Go.Proofs.Ytlcaobnojbkmbaa.H8
