/- The hashes as they are asked for, the steps, and the document's, by the engine. -/
import Derived.Test.YtlcaobnojbkmbaaHd07
namespace Go.Proofs.Ytlcaobnojbkmbaa.H7
open Go Go.RowKit
set_option linter.unusedVariables false
set_option linter.unusedSimpArgs false

def cSumL : CT := fun cas K => match cas with
  | [.s (.c8 bs)] => bs.length ≤ 1000000 ∧ K (.one (.v (.a8 (sumF true bs))))
  | _ => False
def cSumS : CT := fun cas K => match cas with
  | [.s (.c8 bs)] => bs.length ≤ 1000000 ∧ K (.one (.v (.a8 ((sumF false bs).take 28))))
  | _ => False
def cStep : CT := fun cas K => match cas with
  | [.v (.int t)] => if 0 ≤ t ∧ t < 64 then K (.tup [.v (.u32 (g32 ks t.toNat)), .v (.int 0)]) else K (.tup [.v (.u32 0#32), .v (.int 1)])
  | _ => False
def h6 : CTab := fun F => match F with
  | 55 => .fn cSteps
  | 49 => .fn cStepsR
  | _ => .fn noCT
theorem h6_ok : CTok Try.prog h6 := by
  intro F
  unfold h6
  split
  · exact sSteps
  · exact sStepsR
  · exact sound_none _ _

theorem ofInt_tn {x : Int} {m : Nat} (h : x = (m : Int)) (hm : m < 18446744073709551616) : (BitVec.ofInt 64 x).toNat = m := by
  rw [h, BitVec.ofInt_natCast, BitVec.toNat_ofNat]
  exact Nat.mod_eq_of_lt hm
def lenR (M : U64) (k : Nat) : List U8 := (List.range k).map fun t => if 7 - t < 8 then (M >>> (8 * (7 - t))).setWidth 8 else 0
theorem lenR_length (M : U64) (k : Nat) : (lenR M k).length = k := by simp [lenR]
theorem lenR_succ (M : U64) (k : Nat) : lenR M (k + 1) = lenR M k ++ [if 7 - k < 8 then (M >>> (8 * (7 - k))).setWidth 8 else 0] := by simp [lenR, List.range_succ]
theorem lenR_all (M : U64) : lenR M 8 = z8 0 ++ lenB M 8 := rfl
def cPaddedR : CT := fun cas K => match cas with
  | [.s (.c8 bs), .v (.int x), .v (.int y)] => (x = 64 ∧ y = 8 ∧ bs.length ≤ 1000000) ∧ K (.one (.s (.c8 (padF bs))))
  | _ => False
def h7 : CTab := fun F => match F with
  | _ => .fn noCT
theorem h7_ok : CTok Try.prog h7 := by
  intro F
  unfold h7
  split
  · exact sound_none _ _
set_option maxRecDepth 100000 in
set_option maxHeartbeats 1000000 in
theorem sPaddedR : Sound Try.prog 26 cPaddedR := by
  refine sound_vc (tt := tt) (ct := h7) ttok h7_ok mixed Try.func26 rfl (by decide) (rs := [.tmp 6]) rfl (ts := [22]) (k := 0) ?_
  intro cas K h
  unfold cPaddedR at h
  split at h
  · rename_i bs x y
    rw [Try.ntmps26]
    refine ⟨by simp, ?_⟩
    obtain ⟨⟨rfl, rfl, hl⟩, h⟩ := h
    simp (maxSteps := 10000000) (implicitDefEqProofs := false) only [↓qaa, ↓qab, ↓qac, ↓qad, ↓qae, ↓qaf, ↓qag, qah, qai, qaj, qak, qal, qam, qan, qao, qap, qaq, qar, qas, qat, ↓entryVC, ↓condVC, ↓listVC, ↓memK, ↓memR, ↓envOf, ↓guardVC, ↓opVC, ↓pureVC, ↓binT, ↓wrapT, ↓TDsc.isW, ↓binW, ↓binVC, ↓bin8, ↓bin32, ↓bin64, ↓binInt, ↓shVC, ↓unVC, ↓cvVC, ↓rdVC, ↓loadVC, ↓pickC, ↓fillVC, ↓bndVC, ↓sliceVC, ↓bltVC, ↓storeVC, ↓appVC, ↓apzVC, ↓markVC, ↓copyVC, ↓callVC, ↓argsVC, ↓argVC, ↓bindR, ↓bindR1, ↓bindRs, ↓memVC, ↓delAll, ↓keepM, ↓extE, ↓extM, ↓leS, ↓leA, ↓retVC, ↓retR, ↓resVC, ↓resV1, ↓ressVC, ↓strU, ↓xAdd64, ↓xSub64, ↓pickA, frz, frzs, ev, absC, getA, setA, delA, tt, AV.good, AV.plain, AV.isSl, AV.cells, AV.one, Cells.len, Cells.get, Cells.sub, Cells.part, Cells.agg, Cells.upd, Cells.set, Cells.cat, Cells.rep, Cells.ones, TDsc.agg, zOf, putE, dstB, letGo, quietOp, slotOp, AV.isRp, rpVC, whoOf, mthOf, nilVC, TDsc.isP, storeGVC, pickA, ↓reduceIte, Nat.reduceEqDiff, Nat.reduceLT, Nat.reduceLeDiff, Nat.reduceAdd, Nat.reduceSub, Nat.reduceMul, Nat.reduceBEq, Int.reduceLE, Int.reduceLT, Int.reduceToNat, Int.reduceNeg, BitVec.reduceToNat, forall_const, reduceCtorEq, implies_true, ne_eq, memK2, memR2, h7, List.length_append, List.length_replicate]
    intro A ca hca g1
    repeat (refine And.intro (by first | omega | (simp only [intIn, List.length_append, List.length_replicate, List.length_cons, List.length_nil, lenR_length]; omega)) ?_)
    intro v1 g2
    repeat (refine And.intro (by first | omega | (simp only [intIn, List.length_append, List.length_replicate, List.length_cons, List.length_nil, lenR_length]; omega)) ?_)
    intro v2
    refine loopU _ _ _ [0, 1, 2] [0] 6 (ι := {s : Nat × Value // s.1 ≤ zc (bs.length + 1)}) (fun s => [(7, .grow 4 s.1.2 (bs.length + 1 + s.1.1))]) (fun s => [(4, .row s.1.2 5 (.c8 (bs ++ [128] ++ List.replicate s.1.1 0)))]) (fun s => zc (bs.length + 1) - s.1.1) ?_ ?_
    · refine LeJ.mk ⟨(0, v2), by dsimp only; omega⟩ trivial ?_
      simp (maxSteps := 1000000) only [leS, leA, stU_env, stU_mem, pickA, getA, delA, setA, Cells.part, Cells.len, List.take_nil, List.drop_nil, List.length_nil, Nat.zero_add, ↓reduceIte, Nat.reduceEqDiff, Option.some.injEq, List.nil_append, List.cons_append, true_and, and_true, and_self, reduceCtorEq, AV.int.injEq, ME.own.injEq, ME.row.injEq, Cells.c32.injEq, Cells.c64.injEq, Cells.c8.injEq, AV.ptr.injEq, AV.ros.injEq, AV.grow.injEq, AV.u64.injEq, AV.u32.injEq]
      simp
    · rintro ⟨⟨j, v3⟩, hj⟩
      dsimp only at hj
      have hzl := zc_lt (bs.length + 1)
      simp (maxSteps := 10000000) (implicitDefEqProofs := false) only [↓qaa, ↓qab, ↓qac, ↓qad, ↓qae, ↓qaf, ↓qag, qah, qai, qaj, qak, qal, qam, qan, qao, qap, qaq, qar, qas, qat, ↓entryVC, ↓condVC, ↓listVC, ↓memK, ↓memR, ↓envOf, ↓guardVC, ↓opVC, ↓pureVC, ↓binT, ↓wrapT, ↓TDsc.isW, ↓binW, ↓binVC, ↓bin8, ↓bin32, ↓bin64, ↓binInt, ↓shVC, ↓unVC, ↓cvVC, ↓rdVC, ↓loadVC, ↓pickC, ↓fillVC, ↓bndVC, ↓sliceVC, ↓bltVC, ↓storeVC, ↓appVC, ↓apzVC, ↓markVC, ↓copyVC, ↓callVC, ↓argsVC, ↓argVC, ↓bindR, ↓bindR1, ↓bindRs, ↓memVC, ↓delAll, ↓keepM, ↓extE, ↓extM, ↓leS, ↓leA, ↓retVC, ↓retR, ↓resVC, ↓resV1, ↓ressVC, ↓strU, ↓xAdd64, ↓xSub64, ↓pickA, frz, frzs, ev, absC, getA, setA, delA, tt, AV.good, AV.plain, AV.isSl, AV.cells, AV.one, Cells.len, Cells.get, Cells.sub, Cells.part, Cells.agg, Cells.upd, Cells.set, Cells.cat, Cells.rep, Cells.ones, TDsc.agg, zOf, putE, dstB, letGo, quietOp, slotOp, AV.isRp, rpVC, whoOf, mthOf, nilVC, TDsc.isP, storeGVC, pickA, ↓reduceIte, Nat.reduceEqDiff, Nat.reduceLT, Nat.reduceLeDiff, Nat.reduceAdd, Nat.reduceSub, Nat.reduceMul, Nat.reduceBEq, Int.reduceLE, Int.reduceLT, Int.reduceToNat, Int.reduceNeg, BitVec.reduceToNat, forall_const, reduceCtorEq, implies_true, ne_eq, memK2, memR2, h7, List.length_append, List.length_replicate]
      repeat (refine And.intro (by first | omega | (simp only [intIn]; omega)) ?_)
      have ez : (((bs.length + 1 + j : Nat) : Int) % 64 = 64 - 8) = (j = zc (bs.length + 1)) := by
        rw [← zc_step (bs.length + 1) j hj]
        apply propext
        omega
      refine ⟨fun hne => ?_, fun hz => ?_⟩
      · rw [ez] at hne
        intro g3
        repeat (refine And.intro (by first | omega | (simp only [intIn]; omega)) ?_)
        intro v4
        refine LeJ.mk ⟨(j + 1, v4), by dsimp only; omega⟩ (by dsimp only; omega) ?_
        simp (maxSteps := 1000000) only [leS, leA, stU_env, stU_mem, pickA, getA, delA, setA, Cells.part, Cells.len, List.take_nil, List.drop_nil, List.length_nil, Nat.zero_add, ↓reduceIte, Nat.reduceEqDiff, Option.some.injEq, List.nil_append, List.cons_append, true_and, and_true, and_self, reduceCtorEq, AV.int.injEq, ME.own.injEq, ME.row.injEq, Cells.c32.injEq, Cells.c64.injEq, Cells.c8.injEq, AV.ptr.injEq, AV.ros.injEq, AV.grow.injEq, AV.u64.injEq, AV.u32.injEq]
        first | exact ⟨by omega, by omega, by rw [List.replicate_succ', ← List.append_assoc]⟩ | exact ⟨by omega, by rw [List.replicate_succ', ← List.append_assoc]⟩ | exact (by rw [List.replicate_succ', ← List.append_assoc])
      · rw [ez] at hz
        subst hz
        repeat (refine And.intro (by first | omega | (simp only [intIn]; omega)) ?_)
        rw [mlen]
        obtain ⟨M, hM⟩ : ∃ M, BitVec.ofNat 64 (bs.length * 8) = M := ⟨_, rfl⟩
        rw [hM]
        refine loopU _ _ _ [] [] 6 (ι := {s : Nat × Value // s.1 ≤ 8}) (fun s => [(9, .int (7 - (s.1.1 : Int))), (8, .u64 M), (7, .grow 4 s.1.2 (bs.length + 1 + zc (bs.length + 1) + s.1.1))]) (fun s => [(4, .row s.1.2 5 (.c8 (bs ++ [128] ++ List.replicate (zc (bs.length + 1)) 0 ++ lenR M s.1.1)))]) (fun s => 8 - s.1.1) ?_ ?_
        · refine LeJ.mk ⟨(0, v3), by dsimp only; omega⟩ trivial ?_
          simp (maxSteps := 1000000) only [leS, leA, stU_env, stU_mem, pickA, getA, delA, setA, Cells.part, Cells.len, List.take_nil, List.drop_nil, List.length_nil, Nat.zero_add, ↓reduceIte, Nat.reduceEqDiff, Option.some.injEq, List.nil_append, List.cons_append, true_and, and_true, and_self, reduceCtorEq, AV.int.injEq, ME.own.injEq, ME.row.injEq, Cells.c32.injEq, Cells.c64.injEq, Cells.c8.injEq, AV.ptr.injEq, AV.ros.injEq, AV.grow.injEq, AV.u64.injEq, AV.u32.injEq]
          simp [lenR]
        · rintro ⟨⟨k, v5⟩, hk⟩
          dsimp only at hk
          simp (maxSteps := 10000000) (implicitDefEqProofs := false) only [↓qaa, ↓qab, ↓qac, ↓qad, ↓qae, ↓qaf, ↓qag, qah, qai, qaj, qak, qal, qam, qan, qao, qap, qaq, qar, qas, qat, ↓entryVC, ↓condVC, ↓listVC, ↓memK, ↓memR, ↓envOf, ↓guardVC, ↓opVC, ↓pureVC, ↓binT, ↓wrapT, ↓TDsc.isW, ↓binW, ↓binVC, ↓bin8, ↓bin32, ↓bin64, ↓binInt, ↓shVC, ↓unVC, ↓cvVC, ↓rdVC, ↓loadVC, ↓pickC, ↓fillVC, ↓bndVC, ↓sliceVC, ↓bltVC, ↓storeVC, ↓appVC, ↓apzVC, ↓markVC, ↓copyVC, ↓callVC, ↓argsVC, ↓argVC, ↓bindR, ↓bindR1, ↓bindRs, ↓memVC, ↓delAll, ↓keepM, ↓extE, ↓extM, ↓leS, ↓leA, ↓retVC, ↓retR, ↓resVC, ↓resV1, ↓ressVC, ↓strU, ↓xAdd64, ↓xSub64, ↓pickA, frz, frzs, ev, absC, getA, setA, delA, tt, AV.good, AV.plain, AV.isSl, AV.cells, AV.one, Cells.len, Cells.get, Cells.sub, Cells.part, Cells.agg, Cells.upd, Cells.set, Cells.cat, Cells.rep, Cells.ones, TDsc.agg, zOf, putE, dstB, letGo, quietOp, slotOp, AV.isRp, rpVC, whoOf, mthOf, nilVC, TDsc.isP, storeGVC, pickA, ↓reduceIte, Nat.reduceEqDiff, Nat.reduceLT, Nat.reduceLeDiff, Nat.reduceAdd, Nat.reduceSub, Nat.reduceMul, Nat.reduceBEq, Int.reduceLE, Int.reduceLT, Int.reduceToNat, Int.reduceNeg, BitVec.reduceToNat, forall_const, reduceCtorEq, implies_true, ne_eq, memK2, memR2, h7, List.length_append, List.length_replicate, lenR_length]
          refine ⟨fun h0 => ⟨fun h8 => ?_, fun h8 => ?_⟩, fun h0 => ?_⟩
          · have ek : (BitVec.ofInt 64 (8 * (7 - (k : Int)))).toNat = 8 * (7 - k) := ofInt_tn (by omega) (by omega)
            rw [ek]
            repeat (refine And.intro (by first | omega | (simp only [intIn]; omega)) ?_)
            intro g3
            repeat (refine And.intro (by first | omega | (simp only [intIn]; omega)) ?_)
            intro v6
            repeat (refine And.intro (by first | omega | (simp only [intIn]; omega)) ?_)
            refine LeJ.mk ⟨(k + 1, v6), by dsimp only; omega⟩ (by dsimp only; omega) ?_
            simp (maxSteps := 1000000) only [leS, leA, stU_env, stU_mem, pickA, getA, delA, setA, Cells.part, Cells.len, List.take_nil, List.drop_nil, List.length_nil, Nat.zero_add, ↓reduceIte, Nat.reduceEqDiff, Option.some.injEq, List.nil_append, List.cons_append, true_and, and_true, and_self, reduceCtorEq, AV.int.injEq, ME.own.injEq, ME.row.injEq, Cells.c32.injEq, Cells.c64.injEq, Cells.c8.injEq, AV.ptr.injEq, AV.ros.injEq, AV.grow.injEq, AV.u64.injEq, AV.u32.injEq]
            have hx : lenR M (k + 1) = lenR M k ++ [(M >>> (8 * (7 - k))).setWidth 8] := by rw [lenR_succ, if_pos (by omega)]
            first | exact ⟨by omega, by omega, by rw [hx, ← List.append_assoc]⟩ | exact ⟨by omega, by rw [hx, ← List.append_assoc]⟩ | exact (by rw [hx, ← List.append_assoc])
          · intro g3
            repeat (refine And.intro (by first | omega | (simp only [intIn]; omega)) ?_)
            intro v6
            repeat (refine And.intro (by first | omega | (simp only [intIn]; omega)) ?_)
            refine LeJ.mk ⟨(k + 1, v6), by dsimp only; omega⟩ (by dsimp only; omega) ?_
            simp (maxSteps := 1000000) only [leS, leA, stU_env, stU_mem, pickA, getA, delA, setA, Cells.part, Cells.len, List.take_nil, List.drop_nil, List.length_nil, Nat.zero_add, ↓reduceIte, Nat.reduceEqDiff, Option.some.injEq, List.nil_append, List.cons_append, true_and, and_true, and_self, reduceCtorEq, AV.int.injEq, ME.own.injEq, ME.row.injEq, Cells.c32.injEq, Cells.c64.injEq, Cells.c8.injEq, AV.ptr.injEq, AV.ros.injEq, AV.grow.injEq, AV.u64.injEq, AV.u32.injEq]
            have hx : lenR M (k + 1) = lenR M k ++ [0] := by rw [lenR_succ, if_neg (by omega)]
            first | exact ⟨by omega, by omega, by rw [hx, ← List.append_assoc]; rfl⟩ | exact ⟨by omega, by rw [hx, ← List.append_assoc]; rfl⟩ | exact (by rw [hx, ← List.append_assoc]; rfl)
          · obtain rfl : k = 8 := by omega
            unfold padF at h
            rw [hM] at h
            rw [lenR_all, ← List.append_assoc]
            exact h
  · exact h.elim

def outL (l : List U32) (n : Nat) : List U8 := (List.range n).map (outF l)
theorem outL_length (l : List U32) (n : Nat) : (outL l n).length = n := by simp [outL]
theorem outL_succ (l : List U32) (n : Nat) : outL l (n + 1) = outL l n ++ [outF l n] := by simp [outL, List.range_succ]
theorem outK_take (l : List U32) : ∀ n, n ≤ 32 → (outK l n).take n = outL l n
  | 0, _ => by simp [outL]
  | n + 1, h => by
    have ih := outK_take l n (by omega)
    rw [outL_succ, ← ih, outK]
    apply List.ext_getElem
    · simp [outK_length]; omega
    · intro i h1 h2
      simp only [List.getElem_take, List.getElem_set, List.getElem_append, List.length_take, outK_length]
      simp at h1
      by_cases hi : i < n
      · rw [if_neg (by omega), dif_pos (by omega)]
      · rw [if_pos (by omega), dif_neg (by omega)]; simp
theorem outK_all (l : List U32) : outL l 32 = outK l 32 := by
  rw [← outK_take l 32 (Nat.le_refl _)]
  exact List.take_of_length_le (by rw [outK_length]; exact Nat.le_refl _)
def cSumR : CT := fun cas K => match cas with
  | [.s (.c8 bs), .v (.bool true)] => bs.length ≤ 1000000 ∧ K (.one (.s (.c8 (sumF true bs))))
  | [.s (.c8 bs), .v (.bool false)] => bs.length ≤ 1000000 ∧ K (.one (.al (.c8 ((sumF false bs).take 28))))
  | _ => False
theorem blocks_step (n : Nat) (h : V8) (p : List U8) : blocksF (n + 1) h p = blocksF n (blockF h (p.take 64)) (p.drop 64) := rfl
def h8 : CTab := fun F => match F with
  | 28 => .fn cStart
  | 26 => .fn cPaddedR
  | 29 => .fn cBlockR
  | _ => .fn noCT
theorem h8_ok : CTok Try.prog h8 := by
  intro F
  unfold h8
  split
  · exact sRStart
  · exact sPaddedR
  · exact sBlockR
  · exact sound_none _ _
set_option maxRecDepth 100000 in
set_option maxHeartbeats 1000000 in
theorem sSumR : Sound Try.prog 20 cSumR := by
  refine sound_vc (tt := tt) (ct := h8) ttok h8_ok mixed Try.func20 rfl (by decide) (rs := [.tmp 4]) rfl (ts := [22]) (k := 0) ?_
  intro cas K h
  unfold cSumR at h
  split at h
  · rename_i bs
    rw [Try.ntmps20]
    refine ⟨by simp, ?_⟩
    obtain ⟨hl, h⟩ := h
    simp (maxSteps := 10000000) (implicitDefEqProofs := false) only [↓qaa, ↓qab, ↓qac, ↓qad, ↓qae, ↓qaf, ↓qag, qah, qai, qaj, qak, qal, qam, qan, qao, qap, qaq, qar, qas, qat, ↓entryVC, ↓condVC, ↓listVC, ↓memK, ↓memR, ↓envOf, ↓guardVC, ↓opVC, ↓pureVC, ↓binT, ↓wrapT, ↓TDsc.isW, ↓binW, ↓binVC, ↓bin8, ↓bin32, ↓bin64, ↓binInt, ↓shVC, ↓unVC, ↓cvVC, ↓rdVC, ↓loadVC, ↓pickC, ↓fillVC, ↓bndVC, ↓sliceVC, ↓bltVC, ↓storeVC, ↓appVC, ↓apzVC, ↓markVC, ↓copyVC, ↓callVC, ↓argsVC, ↓argVC, ↓bindR, ↓bindR1, ↓bindRs, ↓memVC, ↓delAll, ↓keepM, ↓extE, ↓extM, ↓leS, ↓leA, ↓retVC, ↓retR, ↓resVC, ↓resV1, ↓ressVC, ↓strU, ↓xAdd64, ↓xSub64, ↓pickA, frz, frzs, ev, absC, getA, setA, delA, tt, AV.good, AV.plain, AV.isSl, AV.cells, AV.one, Cells.len, Cells.get, Cells.sub, Cells.part, Cells.agg, Cells.upd, Cells.set, Cells.cat, Cells.rep, Cells.ones, TDsc.agg, zOf, putE, dstB, letGo, quietOp, slotOp, AV.isRp, rpVC, whoOf, mthOf, nilVC, TDsc.isP, storeGVC, pickA, ↓reduceIte, Nat.reduceEqDiff, Nat.reduceLT, Nat.reduceLeDiff, Nat.reduceAdd, Nat.reduceSub, Nat.reduceMul, Nat.reduceBEq, Int.reduceLE, Int.reduceLT, Int.reduceToNat, Int.reduceNeg, BitVec.reduceToNat, forall_const, reduceCtorEq, implies_true, ne_eq, memK2, memR2, h8, cStart, cPaddedR, cBlockR, V8.l_length, toV8_l, hl, outL_length]
    intro A ca hca g1 A2 c2 hc2
    have hpl := padF_length bs
    have hpm := padF_length_le bs
    obtain ⟨T, hT⟩ : ∃ T, hashF true bs = T := ⟨_, rfl⟩
    unfold sumF at h
    rw [hT, ← outK_all] at h
    unfold hashF at hT
    generalize hP : padF bs = P at *
    obtain ⟨n, hn⟩ : ∃ n, P.length / 64 = n := ⟨_, rfl⟩
    rw [hn] at hpl hT
    refine loopU _ _ _ [1, 5, 6] [3] 4 (ι := {s : Nat × V8 // s.1 ≤ n ∧ blocksF (n - s.1) s.2 (P.drop (64 * s.1)) = T}) (fun s => [(7, .int (64 * (s.1.1 : Int)))]) (fun s => [(2, .own g1 56 (.c32 s.1.2.l))]) (fun s => n - s.1.1) ?_ ?_
    · refine LeJ.mk ⟨(0, startF true), Nat.zero_le _, hT⟩ trivial ?_
      simp (maxSteps := 1000000) only [leS, leA, stU_env, stU_mem, pickA, getA, delA, setA, Cells.part, Cells.len, List.take_nil, List.drop_nil, List.length_nil, Nat.zero_add, ↓reduceIte, Nat.reduceEqDiff, Option.some.injEq, List.nil_append, List.cons_append, true_and, and_true, and_self, reduceCtorEq, AV.int.injEq, ME.own.injEq, ME.row.injEq, Cells.c32.injEq, Cells.c64.injEq, Cells.c8.injEq, AV.ptr.injEq, AV.ros.injEq, AV.grow.injEq, AV.u64.injEq, AV.u32.injEq]
      try rfl
    · rintro ⟨⟨k, hh⟩, hk, hI⟩
      dsimp only at hk hI
      simp (maxSteps := 10000000) (implicitDefEqProofs := false) only [↓qaa, ↓qab, ↓qac, ↓qad, ↓qae, ↓qaf, ↓qag, qah, qai, qaj, qak, qal, qam, qan, qao, qap, qaq, qar, qas, qat, ↓entryVC, ↓condVC, ↓listVC, ↓memK, ↓memR, ↓envOf, ↓guardVC, ↓opVC, ↓pureVC, ↓binT, ↓wrapT, ↓TDsc.isW, ↓binW, ↓binVC, ↓bin8, ↓bin32, ↓bin64, ↓binInt, ↓shVC, ↓unVC, ↓cvVC, ↓rdVC, ↓loadVC, ↓pickC, ↓fillVC, ↓bndVC, ↓sliceVC, ↓bltVC, ↓storeVC, ↓appVC, ↓apzVC, ↓markVC, ↓copyVC, ↓callVC, ↓argsVC, ↓argVC, ↓bindR, ↓bindR1, ↓bindRs, ↓memVC, ↓delAll, ↓keepM, ↓extE, ↓extM, ↓leS, ↓leA, ↓retVC, ↓retR, ↓resVC, ↓resV1, ↓ressVC, ↓strU, ↓xAdd64, ↓xSub64, ↓pickA, frz, frzs, ev, absC, getA, setA, delA, tt, AV.good, AV.plain, AV.isSl, AV.cells, AV.one, Cells.len, Cells.get, Cells.sub, Cells.part, Cells.agg, Cells.upd, Cells.set, Cells.cat, Cells.rep, Cells.ones, TDsc.agg, zOf, putE, dstB, letGo, quietOp, slotOp, AV.isRp, rpVC, whoOf, mthOf, nilVC, TDsc.isP, storeGVC, pickA, ↓reduceIte, Nat.reduceEqDiff, Nat.reduceLT, Nat.reduceLeDiff, Nat.reduceAdd, Nat.reduceSub, Nat.reduceMul, Nat.reduceBEq, Int.reduceLE, Int.reduceLT, Int.reduceToNat, Int.reduceNeg, BitVec.reduceToNat, forall_const, reduceCtorEq, implies_true, ne_eq, memK2, memR2, h8, cStart, cPaddedR, cBlockR, V8.l_length, toV8_l, hl, outL_length]
      refine ⟨fun hlt => ?_, fun hge => ?_⟩
      · have hk2 : k < n := by omega
        have ea : (64 * (k : Int)).toNat = 64 * k := by omega
        have eb : (64 * (k : Int) + 64).toNat = 64 * k + 64 := by omega
        have ec : 64 * k + 64 - 64 * k = 64 := by omega
        have hpt : (List.take 64 (List.drop (64 * k) P)).length = 64 := by rw [List.length_take, List.length_drop]; omega
        refine draw_ _ _ _ [(.fz, 1), (.fz, 2), (.fz, 3), (.fz, 4), (.tk, 0), (.tk, 5), (.ld, 6), (.ld, 7)] [] [3] (by kernel_rfl) ?_
        simp (maxSteps := 10000000) (implicitDefEqProofs := false) only [↓qaa, ↓qab, ↓qac, ↓qad, ↓qae, ↓qaf, ↓qag, qah, qai, qaj, qak, qal, qam, qan, qao, qap, qaq, qar, qas, qat, ↓entryVC, ↓condVC, ↓listVC, ↓memK, ↓memR, ↓envOf, ↓guardVC, ↓opVC, ↓pureVC, ↓binT, ↓wrapT, ↓TDsc.isW, ↓binW, ↓binVC, ↓bin8, ↓bin32, ↓bin64, ↓binInt, ↓shVC, ↓unVC, ↓cvVC, ↓rdVC, ↓loadVC, ↓pickC, ↓fillVC, ↓bndVC, ↓sliceVC, ↓bltVC, ↓storeVC, ↓appVC, ↓apzVC, ↓markVC, ↓copyVC, ↓callVC, ↓argsVC, ↓argVC, ↓bindR, ↓bindR1, ↓bindRs, ↓memVC, ↓delAll, ↓keepM, ↓extE, ↓extM, ↓leS, ↓leA, ↓retVC, ↓retR, ↓resVC, ↓resV1, ↓ressVC, ↓strU, ↓xAdd64, ↓xSub64, ↓pickA, frz, frzs, ev, absC, getA, setA, delA, tt, AV.good, AV.plain, AV.isSl, AV.cells, AV.one, Cells.len, Cells.get, Cells.sub, Cells.part, Cells.agg, Cells.upd, Cells.set, Cells.cat, Cells.rep, Cells.ones, TDsc.agg, zOf, putE, dstB, letGo, quietOp, slotOp, AV.isRp, rpVC, whoOf, mthOf, nilVC, TDsc.isP, storeGVC, pickA, ↓reduceIte, Nat.reduceEqDiff, Nat.reduceLT, Nat.reduceLeDiff, Nat.reduceAdd, Nat.reduceSub, Nat.reduceMul, Nat.reduceBEq, Int.reduceLE, Int.reduceLT, Int.reduceToNat, Int.reduceNeg, BitVec.reduceToNat, forall_const, reduceCtorEq, implies_true, ne_eq, memK2, memR2, h8, cStart, cPaddedR, cBlockR, V8.l_length, toV8_l, hl, outL_length, ea, eb, ec, hpt]
        repeat (refine And.intro (by first | omega | (simp only [intIn]; omega)) ?_)
        intro A1 c1
        repeat (refine And.intro (by first | omega | (simp only [intIn]; omega)) ?_)
        refine LeJ.mk ⟨(k + 1, blockF hh (List.take 64 (List.drop (64 * k) P))), by dsimp only; omega, ?_⟩ (by dsimp only; omega) ?_
        · dsimp only
          rw [show n - k = (n - (k + 1)) + 1 by omega, blocks_step, List.drop_drop] at hI
          exact hI
        · simp (maxSteps := 1000000) only [leS, leA, stU_env, stU_mem, pickA, getA, delA, setA, Cells.part, Cells.len, List.take_nil, List.drop_nil, List.length_nil, Nat.zero_add, ↓reduceIte, Nat.reduceEqDiff, Option.some.injEq, List.nil_append, List.cons_append, true_and, and_true, and_self, reduceCtorEq, AV.int.injEq, ME.own.injEq, ME.row.injEq, Cells.c32.injEq, Cells.c64.injEq, Cells.c8.injEq, AV.ptr.injEq, AV.ros.injEq, AV.grow.injEq, AV.u64.injEq, AV.u32.injEq]
          omega
      · obtain rfl : k = n := by omega
        rw [Nat.sub_self, blocks_zero] at hI
        subst hI
        intro g8
        refine loopU _ _ _ [1, 5] [2] 5 (ι := {s : Nat × Value // s.1 ≤ 8}) (fun s => [(9, .int (s.1.1 : Int)), (8, .grow 4 s.1.2 (4 * s.1.1))]) (fun s => [(4, .row s.1.2 5 (.c8 (outL hh.l (4 * s.1.1))))]) (fun s => 8 - s.1.1) ?_ ?_
        · refine LeJ.slc 8 4 rfl rfl (by decide) fun v0 => ?_
          refine LeJ.mk ⟨(0, v0), by dsimp only; omega⟩ trivial ?_
          simp (maxSteps := 1000000) only [leS, leA, stU_env, stU_mem, pickA, getA, delA, setA, Cells.part, Cells.len, List.take_nil, List.drop_nil, List.length_nil, Nat.zero_add, ↓reduceIte, Nat.reduceEqDiff, Option.some.injEq, List.nil_append, List.cons_append, true_and, and_true, and_self, reduceCtorEq, AV.int.injEq, ME.own.injEq, ME.row.injEq, Cells.c32.injEq, Cells.c64.injEq, Cells.c8.injEq, AV.ptr.injEq, AV.ros.injEq, AV.grow.injEq, AV.u64.injEq, AV.u32.injEq]
          exact ⟨rfl, rfl⟩
        · rintro ⟨⟨i, v1⟩, hi⟩
          dsimp only at hi
          simp (maxSteps := 10000000) (implicitDefEqProofs := false) only [↓qaa, ↓qab, ↓qac, ↓qad, ↓qae, ↓qaf, ↓qag, qah, qai, qaj, qak, qal, qam, qan, qao, qap, qaq, qar, qas, qat, ↓entryVC, ↓condVC, ↓listVC, ↓memK, ↓memR, ↓envOf, ↓guardVC, ↓opVC, ↓pureVC, ↓binT, ↓wrapT, ↓TDsc.isW, ↓binW, ↓binVC, ↓bin8, ↓bin32, ↓bin64, ↓binInt, ↓shVC, ↓unVC, ↓cvVC, ↓rdVC, ↓loadVC, ↓pickC, ↓fillVC, ↓bndVC, ↓sliceVC, ↓bltVC, ↓storeVC, ↓appVC, ↓apzVC, ↓markVC, ↓copyVC, ↓callVC, ↓argsVC, ↓argVC, ↓bindR, ↓bindR1, ↓bindRs, ↓memVC, ↓delAll, ↓keepM, ↓extE, ↓extM, ↓leS, ↓leA, ↓retVC, ↓retR, ↓resVC, ↓resV1, ↓ressVC, ↓strU, ↓xAdd64, ↓xSub64, ↓pickA, frz, frzs, ev, absC, getA, setA, delA, tt, AV.good, AV.plain, AV.isSl, AV.cells, AV.one, Cells.len, Cells.get, Cells.sub, Cells.part, Cells.agg, Cells.upd, Cells.set, Cells.cat, Cells.rep, Cells.ones, TDsc.agg, zOf, putE, dstB, letGo, quietOp, slotOp, AV.isRp, rpVC, whoOf, mthOf, nilVC, TDsc.isP, storeGVC, pickA, ↓reduceIte, Nat.reduceEqDiff, Nat.reduceLT, Nat.reduceLeDiff, Nat.reduceAdd, Nat.reduceSub, Nat.reduceMul, Nat.reduceBEq, Int.reduceLE, Int.reduceLT, Int.reduceToNat, Int.reduceNeg, BitVec.reduceToNat, forall_const, reduceCtorEq, implies_true, ne_eq, memK2, memR2, h8, cStart, cPaddedR, cBlockR, V8.l_length, toV8_l, hl, outL_length]
          refine ⟨fun hlt => ?_, fun hge2 => ?_⟩
          · refine loopU _ _ _ [1, 5, 9] [2] 5 (ι := {s : Nat × Value // s.1 ≤ 4}) (fun s => [(10, .int (3 - (s.1.1 : Int))), (8, .grow 4 s.1.2 (4 * i + s.1.1))]) (fun s => [(4, .row s.1.2 5 (.c8 (outL hh.l (4 * i + s.1.1))))]) (fun s => 4 - s.1.1) ?_ ?_
            · refine LeJ.mk ⟨(0, v1), by dsimp only; omega⟩ trivial ?_
              simp (maxSteps := 1000000) only [leS, leA, stU_env, stU_mem, pickA, getA, delA, setA, Cells.part, Cells.len, List.take_nil, List.drop_nil, List.length_nil, Nat.zero_add, ↓reduceIte, Nat.reduceEqDiff, Option.some.injEq, List.nil_append, List.cons_append, true_and, and_true, and_self, reduceCtorEq, AV.int.injEq, ME.own.injEq, ME.row.injEq, Cells.c32.injEq, Cells.c64.injEq, Cells.c8.injEq, AV.ptr.injEq, AV.ros.injEq, AV.grow.injEq, AV.u64.injEq, AV.u32.injEq]
              try simp
            · rintro ⟨⟨j, v2⟩, hj⟩
              dsimp only at hj
              simp (maxSteps := 10000000) (implicitDefEqProofs := false) only [↓qaa, ↓qab, ↓qac, ↓qad, ↓qae, ↓qaf, ↓qag, qah, qai, qaj, qak, qal, qam, qan, qao, qap, qaq, qar, qas, qat, ↓entryVC, ↓condVC, ↓listVC, ↓memK, ↓memR, ↓envOf, ↓guardVC, ↓opVC, ↓pureVC, ↓binT, ↓wrapT, ↓TDsc.isW, ↓binW, ↓binVC, ↓bin8, ↓bin32, ↓bin64, ↓binInt, ↓shVC, ↓unVC, ↓cvVC, ↓rdVC, ↓loadVC, ↓pickC, ↓fillVC, ↓bndVC, ↓sliceVC, ↓bltVC, ↓storeVC, ↓appVC, ↓apzVC, ↓markVC, ↓copyVC, ↓callVC, ↓argsVC, ↓argVC, ↓bindR, ↓bindR1, ↓bindRs, ↓memVC, ↓delAll, ↓keepM, ↓extE, ↓extM, ↓leS, ↓leA, ↓retVC, ↓retR, ↓resVC, ↓resV1, ↓ressVC, ↓strU, ↓xAdd64, ↓xSub64, ↓pickA, frz, frzs, ev, absC, getA, setA, delA, tt, AV.good, AV.plain, AV.isSl, AV.cells, AV.one, Cells.len, Cells.get, Cells.sub, Cells.part, Cells.agg, Cells.upd, Cells.set, Cells.cat, Cells.rep, Cells.ones, TDsc.agg, zOf, putE, dstB, letGo, quietOp, slotOp, AV.isRp, rpVC, whoOf, mthOf, nilVC, TDsc.isP, storeGVC, pickA, ↓reduceIte, Nat.reduceEqDiff, Nat.reduceLT, Nat.reduceLeDiff, Nat.reduceAdd, Nat.reduceSub, Nat.reduceMul, Nat.reduceBEq, Int.reduceLE, Int.reduceLT, Int.reduceToNat, Int.reduceNeg, BitVec.reduceToNat, forall_const, reduceCtorEq, implies_true, ne_eq, memK2, memR2, h8, cStart, cPaddedR, cBlockR, V8.l_length, toV8_l, hl, outL_length]
              refine ⟨fun hlt2 => ?_, fun hge3 => ?_⟩
              · have ek : (BitVec.ofInt 64 (8 * (3 - (j : Int)))).toNat = 8 * (3 - j) := ofInt_tn (by omega) (by omega)
                simp only [ek]
                have hx : outL hh.l (4 * i + (j + 1)) = outL hh.l (4 * i + j) ++ [(g32 hh.l i >>> (8 * (3 - j))).setWidth 8] := by
                  rw [← Nat.add_assoc, outL_succ, outF, show (4 * i + j) / 4 = i by omega, show (4 * i + j) % 4 = j by omega]
                have hol : (outL hh.l (4 * i + j)).length = 4 * i + j := outL_length _ _
                repeat (refine And.intro (by first | omega | (simp only [intIn]; omega)) ?_)
                intro g9
                repeat (refine And.intro (by first | omega | (simp only [intIn, List.length_append, outL_length, List.length_cons, List.length_nil]; omega)) ?_)
                intro v3
                repeat (refine And.intro (by first | omega | (simp only [intIn]; omega)) ?_)
                refine LeJ.mk ⟨(j + 1, v3), by dsimp only; omega⟩ (by dsimp only; omega) ?_
                simp (maxSteps := 1000000) only [leS, leA, stU_env, stU_mem, pickA, getA, delA, setA, Cells.part, Cells.len, List.take_nil, List.drop_nil, List.length_nil, Nat.zero_add, ↓reduceIte, Nat.reduceEqDiff, Option.some.injEq, List.nil_append, List.cons_append, true_and, and_true, and_self, reduceCtorEq, AV.int.injEq, ME.own.injEq, ME.row.injEq, Cells.c32.injEq, Cells.c64.injEq, Cells.c8.injEq, AV.ptr.injEq, AV.ros.injEq, AV.grow.injEq, AV.u64.injEq, AV.u32.injEq, List.length_append, outL_length, List.length_cons]
                first | exact ⟨by omega, by omega, hx.symm⟩ | exact ⟨by omega, hx.symm⟩ | exact (hx.symm)
              · obtain rfl : j = 4 := by omega
                repeat (refine And.intro (by first | omega | (simp only [intIn]; omega)) ?_)
                refine LeJ.mk ⟨(i + 1, v2), by dsimp only; omega⟩ (by dsimp only; omega) ?_
                simp (maxSteps := 1000000) only [leS, leA, stU_env, stU_mem, pickA, getA, delA, setA, Cells.part, Cells.len, List.take_nil, List.drop_nil, List.length_nil, Nat.zero_add, ↓reduceIte, Nat.reduceEqDiff, Option.some.injEq, List.nil_append, List.cons_append, true_and, and_true, and_self, reduceCtorEq, AV.int.injEq, ME.own.injEq, ME.row.injEq, Cells.c32.injEq, Cells.c64.injEq, Cells.c8.injEq, AV.ptr.injEq, AV.ros.injEq, AV.grow.injEq, AV.u64.injEq, AV.u32.injEq, Nat.mul_add, Nat.mul_one]
                first | exact ⟨by omega, by omega, rfl⟩ | exact ⟨by omega, rfl⟩ | exact (rfl)
          · obtain rfl : i = 8 := by omega
            repeat (refine And.intro (by first | omega | (simp only [intIn, List.length_take, outL_length]; omega)) ?_)
            exact h
  · rename_i bs
    rw [Try.ntmps20]
    refine ⟨by simp, ?_⟩
    obtain ⟨hl, h⟩ := h
    simp (maxSteps := 10000000) (implicitDefEqProofs := false) only [↓qaa, ↓qab, ↓qac, ↓qad, ↓qae, ↓qaf, ↓qag, qah, qai, qaj, qak, qal, qam, qan, qao, qap, qaq, qar, qas, qat, ↓entryVC, ↓condVC, ↓listVC, ↓memK, ↓memR, ↓envOf, ↓guardVC, ↓opVC, ↓pureVC, ↓binT, ↓wrapT, ↓TDsc.isW, ↓binW, ↓binVC, ↓bin8, ↓bin32, ↓bin64, ↓binInt, ↓shVC, ↓unVC, ↓cvVC, ↓rdVC, ↓loadVC, ↓pickC, ↓fillVC, ↓bndVC, ↓sliceVC, ↓bltVC, ↓storeVC, ↓appVC, ↓apzVC, ↓markVC, ↓copyVC, ↓callVC, ↓argsVC, ↓argVC, ↓bindR, ↓bindR1, ↓bindRs, ↓memVC, ↓delAll, ↓keepM, ↓extE, ↓extM, ↓leS, ↓leA, ↓retVC, ↓retR, ↓resVC, ↓resV1, ↓ressVC, ↓strU, ↓xAdd64, ↓xSub64, ↓pickA, frz, frzs, ev, absC, getA, setA, delA, tt, AV.good, AV.plain, AV.isSl, AV.cells, AV.one, Cells.len, Cells.get, Cells.sub, Cells.part, Cells.agg, Cells.upd, Cells.set, Cells.cat, Cells.rep, Cells.ones, TDsc.agg, zOf, putE, dstB, letGo, quietOp, slotOp, AV.isRp, rpVC, whoOf, mthOf, nilVC, TDsc.isP, storeGVC, pickA, ↓reduceIte, Nat.reduceEqDiff, Nat.reduceLT, Nat.reduceLeDiff, Nat.reduceAdd, Nat.reduceSub, Nat.reduceMul, Nat.reduceBEq, Int.reduceLE, Int.reduceLT, Int.reduceToNat, Int.reduceNeg, BitVec.reduceToNat, forall_const, reduceCtorEq, implies_true, ne_eq, memK2, memR2, h8, cStart, cPaddedR, cBlockR, V8.l_length, toV8_l, hl, outL_length]
    intro A ca hca g1 A2 c2 hc2
    have hpl := padF_length bs
    have hpm := padF_length_le bs
    obtain ⟨T, hT⟩ : ∃ T, hashF false bs = T := ⟨_, rfl⟩
    unfold sumF at h
    rw [hT, ← outK_all] at h
    unfold hashF at hT
    generalize hP : padF bs = P at *
    obtain ⟨n, hn⟩ : ∃ n, P.length / 64 = n := ⟨_, rfl⟩
    rw [hn] at hpl hT
    refine loopU _ _ _ [1, 5, 6] [3] 4 (ι := {s : Nat × V8 // s.1 ≤ n ∧ blocksF (n - s.1) s.2 (P.drop (64 * s.1)) = T}) (fun s => [(7, .int (64 * (s.1.1 : Int)))]) (fun s => [(2, .own g1 56 (.c32 s.1.2.l))]) (fun s => n - s.1.1) ?_ ?_
    · refine LeJ.mk ⟨(0, startF false), Nat.zero_le _, hT⟩ trivial ?_
      simp (maxSteps := 1000000) only [leS, leA, stU_env, stU_mem, pickA, getA, delA, setA, Cells.part, Cells.len, List.take_nil, List.drop_nil, List.length_nil, Nat.zero_add, ↓reduceIte, Nat.reduceEqDiff, Option.some.injEq, List.nil_append, List.cons_append, true_and, and_true, and_self, reduceCtorEq, AV.int.injEq, ME.own.injEq, ME.row.injEq, Cells.c32.injEq, Cells.c64.injEq, Cells.c8.injEq, AV.ptr.injEq, AV.ros.injEq, AV.grow.injEq, AV.u64.injEq, AV.u32.injEq]
      try rfl
    · rintro ⟨⟨k, hh⟩, hk, hI⟩
      dsimp only at hk hI
      simp (maxSteps := 10000000) (implicitDefEqProofs := false) only [↓qaa, ↓qab, ↓qac, ↓qad, ↓qae, ↓qaf, ↓qag, qah, qai, qaj, qak, qal, qam, qan, qao, qap, qaq, qar, qas, qat, ↓entryVC, ↓condVC, ↓listVC, ↓memK, ↓memR, ↓envOf, ↓guardVC, ↓opVC, ↓pureVC, ↓binT, ↓wrapT, ↓TDsc.isW, ↓binW, ↓binVC, ↓bin8, ↓bin32, ↓bin64, ↓binInt, ↓shVC, ↓unVC, ↓cvVC, ↓rdVC, ↓loadVC, ↓pickC, ↓fillVC, ↓bndVC, ↓sliceVC, ↓bltVC, ↓storeVC, ↓appVC, ↓apzVC, ↓markVC, ↓copyVC, ↓callVC, ↓argsVC, ↓argVC, ↓bindR, ↓bindR1, ↓bindRs, ↓memVC, ↓delAll, ↓keepM, ↓extE, ↓extM, ↓leS, ↓leA, ↓retVC, ↓retR, ↓resVC, ↓resV1, ↓ressVC, ↓strU, ↓xAdd64, ↓xSub64, ↓pickA, frz, frzs, ev, absC, getA, setA, delA, tt, AV.good, AV.plain, AV.isSl, AV.cells, AV.one, Cells.len, Cells.get, Cells.sub, Cells.part, Cells.agg, Cells.upd, Cells.set, Cells.cat, Cells.rep, Cells.ones, TDsc.agg, zOf, putE, dstB, letGo, quietOp, slotOp, AV.isRp, rpVC, whoOf, mthOf, nilVC, TDsc.isP, storeGVC, pickA, ↓reduceIte, Nat.reduceEqDiff, Nat.reduceLT, Nat.reduceLeDiff, Nat.reduceAdd, Nat.reduceSub, Nat.reduceMul, Nat.reduceBEq, Int.reduceLE, Int.reduceLT, Int.reduceToNat, Int.reduceNeg, BitVec.reduceToNat, forall_const, reduceCtorEq, implies_true, ne_eq, memK2, memR2, h8, cStart, cPaddedR, cBlockR, V8.l_length, toV8_l, hl, outL_length]
      refine ⟨fun hlt => ?_, fun hge => ?_⟩
      · have hk2 : k < n := by omega
        have ea : (64 * (k : Int)).toNat = 64 * k := by omega
        have eb : (64 * (k : Int) + 64).toNat = 64 * k + 64 := by omega
        have ec : 64 * k + 64 - 64 * k = 64 := by omega
        have hpt : (List.take 64 (List.drop (64 * k) P)).length = 64 := by rw [List.length_take, List.length_drop]; omega
        refine draw_ _ _ _ [(.fz, 1), (.fz, 2), (.fz, 3), (.fz, 4), (.tk, 0), (.tk, 5), (.ld, 6), (.ld, 7)] [] [3] (by kernel_rfl) ?_
        simp (maxSteps := 10000000) (implicitDefEqProofs := false) only [↓qaa, ↓qab, ↓qac, ↓qad, ↓qae, ↓qaf, ↓qag, qah, qai, qaj, qak, qal, qam, qan, qao, qap, qaq, qar, qas, qat, ↓entryVC, ↓condVC, ↓listVC, ↓memK, ↓memR, ↓envOf, ↓guardVC, ↓opVC, ↓pureVC, ↓binT, ↓wrapT, ↓TDsc.isW, ↓binW, ↓binVC, ↓bin8, ↓bin32, ↓bin64, ↓binInt, ↓shVC, ↓unVC, ↓cvVC, ↓rdVC, ↓loadVC, ↓pickC, ↓fillVC, ↓bndVC, ↓sliceVC, ↓bltVC, ↓storeVC, ↓appVC, ↓apzVC, ↓markVC, ↓copyVC, ↓callVC, ↓argsVC, ↓argVC, ↓bindR, ↓bindR1, ↓bindRs, ↓memVC, ↓delAll, ↓keepM, ↓extE, ↓extM, ↓leS, ↓leA, ↓retVC, ↓retR, ↓resVC, ↓resV1, ↓ressVC, ↓strU, ↓xAdd64, ↓xSub64, ↓pickA, frz, frzs, ev, absC, getA, setA, delA, tt, AV.good, AV.plain, AV.isSl, AV.cells, AV.one, Cells.len, Cells.get, Cells.sub, Cells.part, Cells.agg, Cells.upd, Cells.set, Cells.cat, Cells.rep, Cells.ones, TDsc.agg, zOf, putE, dstB, letGo, quietOp, slotOp, AV.isRp, rpVC, whoOf, mthOf, nilVC, TDsc.isP, storeGVC, pickA, ↓reduceIte, Nat.reduceEqDiff, Nat.reduceLT, Nat.reduceLeDiff, Nat.reduceAdd, Nat.reduceSub, Nat.reduceMul, Nat.reduceBEq, Int.reduceLE, Int.reduceLT, Int.reduceToNat, Int.reduceNeg, BitVec.reduceToNat, forall_const, reduceCtorEq, implies_true, ne_eq, memK2, memR2, h8, cStart, cPaddedR, cBlockR, V8.l_length, toV8_l, hl, outL_length, ea, eb, ec, hpt]
        repeat (refine And.intro (by first | omega | (simp only [intIn]; omega)) ?_)
        intro A1 c1
        repeat (refine And.intro (by first | omega | (simp only [intIn]; omega)) ?_)
        refine LeJ.mk ⟨(k + 1, blockF hh (List.take 64 (List.drop (64 * k) P))), by dsimp only; omega, ?_⟩ (by dsimp only; omega) ?_
        · dsimp only
          rw [show n - k = (n - (k + 1)) + 1 by omega, blocks_step, List.drop_drop] at hI
          exact hI
        · simp (maxSteps := 1000000) only [leS, leA, stU_env, stU_mem, pickA, getA, delA, setA, Cells.part, Cells.len, List.take_nil, List.drop_nil, List.length_nil, Nat.zero_add, ↓reduceIte, Nat.reduceEqDiff, Option.some.injEq, List.nil_append, List.cons_append, true_and, and_true, and_self, reduceCtorEq, AV.int.injEq, ME.own.injEq, ME.row.injEq, Cells.c32.injEq, Cells.c64.injEq, Cells.c8.injEq, AV.ptr.injEq, AV.ros.injEq, AV.grow.injEq, AV.u64.injEq, AV.u32.injEq]
          omega
      · obtain rfl : k = n := by omega
        rw [Nat.sub_self, blocks_zero] at hI
        subst hI
        intro g8
        refine loopU _ _ _ [1, 5] [2] 5 (ι := {s : Nat × Value // s.1 ≤ 8}) (fun s => [(9, .int (s.1.1 : Int)), (8, .grow 4 s.1.2 (4 * s.1.1))]) (fun s => [(4, .row s.1.2 5 (.c8 (outL hh.l (4 * s.1.1))))]) (fun s => 8 - s.1.1) ?_ ?_
        · refine LeJ.slc 8 4 rfl rfl (by decide) fun v0 => ?_
          refine LeJ.mk ⟨(0, v0), by dsimp only; omega⟩ trivial ?_
          simp (maxSteps := 1000000) only [leS, leA, stU_env, stU_mem, pickA, getA, delA, setA, Cells.part, Cells.len, List.take_nil, List.drop_nil, List.length_nil, Nat.zero_add, ↓reduceIte, Nat.reduceEqDiff, Option.some.injEq, List.nil_append, List.cons_append, true_and, and_true, and_self, reduceCtorEq, AV.int.injEq, ME.own.injEq, ME.row.injEq, Cells.c32.injEq, Cells.c64.injEq, Cells.c8.injEq, AV.ptr.injEq, AV.ros.injEq, AV.grow.injEq, AV.u64.injEq, AV.u32.injEq]
          exact ⟨rfl, rfl⟩
        · rintro ⟨⟨i, v1⟩, hi⟩
          dsimp only at hi
          simp (maxSteps := 10000000) (implicitDefEqProofs := false) only [↓qaa, ↓qab, ↓qac, ↓qad, ↓qae, ↓qaf, ↓qag, qah, qai, qaj, qak, qal, qam, qan, qao, qap, qaq, qar, qas, qat, ↓entryVC, ↓condVC, ↓listVC, ↓memK, ↓memR, ↓envOf, ↓guardVC, ↓opVC, ↓pureVC, ↓binT, ↓wrapT, ↓TDsc.isW, ↓binW, ↓binVC, ↓bin8, ↓bin32, ↓bin64, ↓binInt, ↓shVC, ↓unVC, ↓cvVC, ↓rdVC, ↓loadVC, ↓pickC, ↓fillVC, ↓bndVC, ↓sliceVC, ↓bltVC, ↓storeVC, ↓appVC, ↓apzVC, ↓markVC, ↓copyVC, ↓callVC, ↓argsVC, ↓argVC, ↓bindR, ↓bindR1, ↓bindRs, ↓memVC, ↓delAll, ↓keepM, ↓extE, ↓extM, ↓leS, ↓leA, ↓retVC, ↓retR, ↓resVC, ↓resV1, ↓ressVC, ↓strU, ↓xAdd64, ↓xSub64, ↓pickA, frz, frzs, ev, absC, getA, setA, delA, tt, AV.good, AV.plain, AV.isSl, AV.cells, AV.one, Cells.len, Cells.get, Cells.sub, Cells.part, Cells.agg, Cells.upd, Cells.set, Cells.cat, Cells.rep, Cells.ones, TDsc.agg, zOf, putE, dstB, letGo, quietOp, slotOp, AV.isRp, rpVC, whoOf, mthOf, nilVC, TDsc.isP, storeGVC, pickA, ↓reduceIte, Nat.reduceEqDiff, Nat.reduceLT, Nat.reduceLeDiff, Nat.reduceAdd, Nat.reduceSub, Nat.reduceMul, Nat.reduceBEq, Int.reduceLE, Int.reduceLT, Int.reduceToNat, Int.reduceNeg, BitVec.reduceToNat, forall_const, reduceCtorEq, implies_true, ne_eq, memK2, memR2, h8, cStart, cPaddedR, cBlockR, V8.l_length, toV8_l, hl, outL_length]
          refine ⟨fun hlt => ?_, fun hge2 => ?_⟩
          · refine loopU _ _ _ [1, 5, 9] [2] 5 (ι := {s : Nat × Value // s.1 ≤ 4}) (fun s => [(10, .int (3 - (s.1.1 : Int))), (8, .grow 4 s.1.2 (4 * i + s.1.1))]) (fun s => [(4, .row s.1.2 5 (.c8 (outL hh.l (4 * i + s.1.1))))]) (fun s => 4 - s.1.1) ?_ ?_
            · refine LeJ.mk ⟨(0, v1), by dsimp only; omega⟩ trivial ?_
              simp (maxSteps := 1000000) only [leS, leA, stU_env, stU_mem, pickA, getA, delA, setA, Cells.part, Cells.len, List.take_nil, List.drop_nil, List.length_nil, Nat.zero_add, ↓reduceIte, Nat.reduceEqDiff, Option.some.injEq, List.nil_append, List.cons_append, true_and, and_true, and_self, reduceCtorEq, AV.int.injEq, ME.own.injEq, ME.row.injEq, Cells.c32.injEq, Cells.c64.injEq, Cells.c8.injEq, AV.ptr.injEq, AV.ros.injEq, AV.grow.injEq, AV.u64.injEq, AV.u32.injEq]
              try simp
            · rintro ⟨⟨j, v2⟩, hj⟩
              dsimp only at hj
              simp (maxSteps := 10000000) (implicitDefEqProofs := false) only [↓qaa, ↓qab, ↓qac, ↓qad, ↓qae, ↓qaf, ↓qag, qah, qai, qaj, qak, qal, qam, qan, qao, qap, qaq, qar, qas, qat, ↓entryVC, ↓condVC, ↓listVC, ↓memK, ↓memR, ↓envOf, ↓guardVC, ↓opVC, ↓pureVC, ↓binT, ↓wrapT, ↓TDsc.isW, ↓binW, ↓binVC, ↓bin8, ↓bin32, ↓bin64, ↓binInt, ↓shVC, ↓unVC, ↓cvVC, ↓rdVC, ↓loadVC, ↓pickC, ↓fillVC, ↓bndVC, ↓sliceVC, ↓bltVC, ↓storeVC, ↓appVC, ↓apzVC, ↓markVC, ↓copyVC, ↓callVC, ↓argsVC, ↓argVC, ↓bindR, ↓bindR1, ↓bindRs, ↓memVC, ↓delAll, ↓keepM, ↓extE, ↓extM, ↓leS, ↓leA, ↓retVC, ↓retR, ↓resVC, ↓resV1, ↓ressVC, ↓strU, ↓xAdd64, ↓xSub64, ↓pickA, frz, frzs, ev, absC, getA, setA, delA, tt, AV.good, AV.plain, AV.isSl, AV.cells, AV.one, Cells.len, Cells.get, Cells.sub, Cells.part, Cells.agg, Cells.upd, Cells.set, Cells.cat, Cells.rep, Cells.ones, TDsc.agg, zOf, putE, dstB, letGo, quietOp, slotOp, AV.isRp, rpVC, whoOf, mthOf, nilVC, TDsc.isP, storeGVC, pickA, ↓reduceIte, Nat.reduceEqDiff, Nat.reduceLT, Nat.reduceLeDiff, Nat.reduceAdd, Nat.reduceSub, Nat.reduceMul, Nat.reduceBEq, Int.reduceLE, Int.reduceLT, Int.reduceToNat, Int.reduceNeg, BitVec.reduceToNat, forall_const, reduceCtorEq, implies_true, ne_eq, memK2, memR2, h8, cStart, cPaddedR, cBlockR, V8.l_length, toV8_l, hl, outL_length]
              refine ⟨fun hlt2 => ?_, fun hge3 => ?_⟩
              · have ek : (BitVec.ofInt 64 (8 * (3 - (j : Int)))).toNat = 8 * (3 - j) := ofInt_tn (by omega) (by omega)
                simp only [ek]
                have hx : outL hh.l (4 * i + (j + 1)) = outL hh.l (4 * i + j) ++ [(g32 hh.l i >>> (8 * (3 - j))).setWidth 8] := by
                  rw [← Nat.add_assoc, outL_succ, outF, show (4 * i + j) / 4 = i by omega, show (4 * i + j) % 4 = j by omega]
                have hol : (outL hh.l (4 * i + j)).length = 4 * i + j := outL_length _ _
                repeat (refine And.intro (by first | omega | (simp only [intIn]; omega)) ?_)
                intro g9
                repeat (refine And.intro (by first | omega | (simp only [intIn, List.length_append, outL_length, List.length_cons, List.length_nil]; omega)) ?_)
                intro v3
                repeat (refine And.intro (by first | omega | (simp only [intIn]; omega)) ?_)
                refine LeJ.mk ⟨(j + 1, v3), by dsimp only; omega⟩ (by dsimp only; omega) ?_
                simp (maxSteps := 1000000) only [leS, leA, stU_env, stU_mem, pickA, getA, delA, setA, Cells.part, Cells.len, List.take_nil, List.drop_nil, List.length_nil, Nat.zero_add, ↓reduceIte, Nat.reduceEqDiff, Option.some.injEq, List.nil_append, List.cons_append, true_and, and_true, and_self, reduceCtorEq, AV.int.injEq, ME.own.injEq, ME.row.injEq, Cells.c32.injEq, Cells.c64.injEq, Cells.c8.injEq, AV.ptr.injEq, AV.ros.injEq, AV.grow.injEq, AV.u64.injEq, AV.u32.injEq, List.length_append, outL_length, List.length_cons]
                first | exact ⟨by omega, by omega, hx.symm⟩ | exact ⟨by omega, hx.symm⟩ | exact (hx.symm)
              · obtain rfl : j = 4 := by omega
                repeat (refine And.intro (by first | omega | (simp only [intIn]; omega)) ?_)
                refine LeJ.mk ⟨(i + 1, v2), by dsimp only; omega⟩ (by dsimp only; omega) ?_
                simp (maxSteps := 1000000) only [leS, leA, stU_env, stU_mem, pickA, getA, delA, setA, Cells.part, Cells.len, List.take_nil, List.drop_nil, List.length_nil, Nat.zero_add, ↓reduceIte, Nat.reduceEqDiff, Option.some.injEq, List.nil_append, List.cons_append, true_and, and_true, and_self, reduceCtorEq, AV.int.injEq, ME.own.injEq, ME.row.injEq, Cells.c32.injEq, Cells.c64.injEq, Cells.c8.injEq, AV.ptr.injEq, AV.ros.injEq, AV.grow.injEq, AV.u64.injEq, AV.u32.injEq, Nat.mul_add, Nat.mul_one]
                first | exact ⟨by omega, by omega, rfl⟩ | exact ⟨by omega, rfl⟩ | exact (rfl)
          · obtain rfl : i = 8 := by omega
            repeat (refine And.intro (by first | omega | (simp only [intIn, List.length_take, outL_length]; omega)) ?_)
            exact h
  · exact h.elim
end Go.Proofs.Ytlcaobnojbkmbaa.H7
