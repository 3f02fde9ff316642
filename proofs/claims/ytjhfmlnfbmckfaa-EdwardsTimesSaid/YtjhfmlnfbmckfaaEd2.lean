/- The curve's points, walked: the program's sums. -/
import Derived.Test.YtjhfmlnfbmckfaaEd1
import Derived.Test.YtjhfmlnfbmckfaaRun
namespace Go.Proofs.Ytjhfmlnfbmckfaa
open Go Go.RowKit
set_option linter.unusedVariables false
set_option linter.unusedSimpArgs false

def q0 (p : List U64) : Nat := val (List.take 4 p)
def q1 (p : List U64) : Nat := val (List.take 4 (List.drop 4 p))
def q2 (p : List U64) : Nat := val (List.take 4 (List.drop 8 p))
def q3 (p : List U64) : Nat := val (List.take 4 (List.drop 12 p))
def pp (p : List U64) : Pt := (q0 p, q1 p)
def mkP (a : Pt) : List U64 := words 4 a.1 ++ words 4 a.2
def tk (p : Pt) : Pt := if onP p then p else zeroP
abbrev E4 := Nat × Nat × Nat × Nat
def ee (p : List U64) : E4 := (q0 p, q1 p, q2 p, q3 p)
def mkE (e : E4) : List U64 := words 4 e.1 ++ (words 4 e.2.1 ++ (words 4 e.2.2.1 ++ words 4 e.2.2.2))
def extE (p : Pt) : E4 := (p.1, p.2, 1, fM p.1 p.2)
def plainE (e : E4) : Pt := (fM e.1 (fI e.2.2.1), fM e.2.1 (fI e.2.2.1))
def fourE (e f g h : Nat) : E4 := (fM e f, fM g h, fM f g, fM e h)
def plusE (p q : E4) : E4 :=
  let a := fM (fS p.2.1 p.1) (fS q.2.1 q.1)
  let b := fM (fA p.2.1 p.1) (fA q.2.1 q.1)
  let c := fM (fM p.2.2.2 q.2.2.2) (fA DD DD)
  let zz := fM p.2.2.1 q.2.2.1
  let d := fA zz zz
  fourE (fS b a) (fS d c) (fA d c) (fA b a)
def dblE (p : E4) : E4 :=
  let a := fM p.1 p.1
  let b := fM p.2.1 p.2.1
  let zz := fM p.2.2.1 p.2.2.1
  let c := fA zz zz
  let h := fA a b
  let e := fS h (fM (fA p.1 p.2.1) (fA p.1 p.2.1))
  let g := fS a b
  let f := fA c g
  fourE e f g h
theorem mkP_len (a : Pt) : (mkP a).length = 8 := by simp [mkP, words_len]
theorem mkE_len (e : E4) : (mkE e).length = 16 := by simp [mkE, words_len]
theorem part4 {p : List U64} {k : Nat} (h : k + 4 ≤ p.length) : List.take 4 (List.drop k p) = words 4 (val (List.take 4 (List.drop k p))) :=
  eq_words (by rw [List.length_take, List.length_drop]; omega) (Nat.mod_eq_of_lt (val_lt4 (by rw [List.length_take, List.length_drop]; omega))).symm
theorem part4_lt {p : List U64} {k : Nat} (h : k + 4 ≤ p.length) : val (List.take 4 (List.drop k p)) < 115792089237316195423570985008687907853269984665640564039457584007913129639936 := val_lt4 (by rw [List.length_take, List.length_drop]; omega)
theorem val4_of {v : Nat} (h : v < 115792089237316195423570985008687907853269984665640564039457584007913129639936) : val (words 4 v) = v := by rw [val4]; exact Nat.mod_eq_of_lt h
theorem PP_lt {v : Nat} (h : v < PP) : v < 115792089237316195423570985008687907853269984665640564039457584007913129639936 := Nat.lt_trans h (by decide)
theorem val_fM (a b : Nat) : val (words 4 (fM a b)) = fM a b := val4_of (PP_lt (fM_lt a b))
theorem val_fA (a b : Nat) : val (words 4 (fA a b)) = fA a b := val4_of (PP_lt (fA_lt a b))
theorem val_fS (a b : Nat) : val (words 4 (fS a b)) = fS a b := val4_of (PP_lt (fS_lt a b))
theorem val_fI (a : Nat) : val (words 4 (fI a)) = fI a := val4_of (PP_lt (fI_lt a))
theorem val_DD : val (words 4 DD) = DD := val4_of (by decide)
theorem val_o1 : val (words 4 1) = 1 := val4_of (by decide)
theorem val_z0 : val (words 4 0) = 0 := val4_of (by decide)
theorem DD_words : words 4 DD = [0x75eb4dca135978a3#64, 0x00700a4d4141d8ab#64, 0x8cc740797779e898#64, 0x52036cee2b6ffe73#64] := by decide
theorem one_w : words 4 1 = [1#64, 0#64, 0#64, 0#64] := by decide
theorem zero_w : words 4 0 = [0#64, 0#64, 0#64, 0#64] := by decide
/-- Parts of what is laid. -/
theorem tk4 (a : Nat) (r : List U64) : List.take 4 (words 4 a ++ r) = words 4 a := by rw [List.take_append_of_le_length (by rw [words_len]; exact Nat.le_refl _), List.take_of_length_le (by rw [words_len]; exact Nat.le_refl _)]
theorem dp4 (a : Nat) (r : List U64) : List.drop 4 (words 4 a ++ r) = r := List.drop_left' (words_len 4 a)
theorem dp8 (a : Nat) (r : List U64) : List.drop 8 (words 4 a ++ r) = List.drop 4 r := by rw [show 8 = 4 + 4 from rfl, ← List.drop_drop, dp4]
theorem dp12 (a : Nat) (r : List U64) : List.drop 12 (words 4 a ++ r) = List.drop 8 r := by rw [show 12 = 4 + 8 from rfl, ← List.drop_drop, dp4]
theorem dp16 (a : Nat) (r : List U64) : List.drop 16 (words 4 a ++ r) = List.drop 12 r := by rw [show 16 = 4 + 12 from rfl, ← List.drop_drop, dp4]
theorem tk8 (a : Nat) (r : List U64) : List.take 8 (words 4 a ++ r) = words 4 a ++ List.take 4 r := by
  rw [List.take_append, words_len, List.take_of_length_le (by rw [words_len]; decide)]
theorem tk12 (a : Nat) (r : List U64) : List.take 12 (words 4 a ++ r) = words 4 a ++ List.take 8 r := by
  rw [List.take_append, words_len, List.take_of_length_le (by rw [words_len]; decide)]
theorem tkw (a : Nat) : List.take 4 (words 4 a) = words 4 a := List.take_of_length_le (by rw [words_len]; exact Nat.le_refl _)
theorem dpw (a : Nat) : List.drop 4 (words 4 a) = [] := List.drop_eq_nil_of_le (by rw [words_len]; exact Nat.le_refl _)
def cMulF : CT := fun cas K => match cas with
  | [.v (.a64 xs), .v (.a64 ys)] => (xs.length = 4 ∧ ys.length = 4) ∧ K (.one (.v (.a64 (words 4 (fM (val xs) (val ys))))))
  | _ => False
def cAddF : CT := fun cas K => match cas with
  | [.v (.a64 xs), .v (.a64 ys)] => (xs.length = 4 ∧ ys.length = 4) ∧ K (.one (.v (.a64 (words 4 (fA (val xs) (val ys))))))
  | _ => False
def cSubF : CT := fun cas K => match cas with
  | [.v (.a64 xs), .v (.a64 ys)] => (xs.length = 4 ∧ ys.length = 4) ∧ K (.one (.v (.a64 (words 4 (fS (val xs) (val ys))))))
  | _ => False
def cInvF : CT := fun cas K => match cas with
  | [.v (.a64 xs)] => (xs.length = 4) ∧ K (.one (.v (.a64 (words 4 (fI (val xs))))))
  | _ => False
theorem sMulF : Sound Try.prog 14 cMulF := sMul
theorem sAddF : Sound Try.prog 41 cAddF := sAdd
theorem sSubF : Sound Try.prog 12 cSubF := sSub
theorem sInvF : Sound Try.prog 59 cInvF := sInv
theorem sRMulF : Sound Try.prog 44 cMulF := sRMul
theorem sRAddF : Sound Try.prog 45 cAddF := sRAdd
theorem sRSubF : Sound Try.prog 47 cSubF := sRSub
theorem sRInvF : Sound Try.prog 52 cInvF := sRInv
def cNumber : CT := fun cas K => match cas with
  | [] => K (.one (.v (.a64 (words 4 DD))))
  | _ => False
def cOne : CT := fun cas K => match cas with
  | [] => K (.one (.v (.a64 (words 4 1))))
  | _ => False
def cZeroP : CT := fun cas K => match cas with
  | [] => K (.one (.v (.a64 (mkP zeroP))))
  | _ => False
def cBaseP (xs : List U64) : CT := fun cas K => match cas with
  | [] => K (.one (.v (.a64 xs)))
  | _ => False
def cSqr : CT := fun cas K => match cas with
  | [.v (.a64 xs)] => xs.length = 4 ∧ K (.one (.v (.a64 (words 4 (fM (val xs) (val xs))))))
  | _ => False
def cOnP : CT := fun cas K => match cas with
  | [.v (.a64 p)] => p.length = 8 ∧ K (.one (.v (.bool (decide (onP (pp p))))))
  | _ => False
def cTaken : CT := fun cas K => match cas with
  | [.v (.a64 p)] => p.length = 8 ∧ K (.one (.v (.a64 (mkP (tk (pp p))))))
  | _ => False
def cNegP : CT := fun cas K => match cas with
  | [.v (.a64 p)] => p.length = 8 ∧ K (.one (.v (.a64 (mkP (negP (tk (pp p)))))))
  | _ => False
def cExtend : CT := fun cas K => match cas with
  | [.v (.a64 p)] => p.length = 8 ∧ K (.one (.v (.a64 (mkE (extE (pp p))))))
  | _ => False
def cPlusE : CT := fun cas K => match cas with
  | [.v (.a64 p), .v (.a64 q)] => (p.length = 16 ∧ q.length = 16) ∧ K (.one (.v (.a64 (mkE (plusE (ee p) (ee q))))))
  | _ => False
def cDblE : CT := fun cas K => match cas with
  | [.v (.a64 p)] => p.length = 16 ∧ K (.one (.v (.a64 (mkE (dblE (ee p))))))
  | _ => False
def cPlainE : CT := fun cas K => match cas with
  | [.v (.a64 p)] => p.length = 16 ∧ K (.one (.v (.a64 (mkP (plainE (ee p))))))
  | _ => False
def e0 : CTab := fun F => match F with
  | 14 => .fn cMulF
  | 41 => .fn cAddF
  | 12 => .fn cSubF
  | 59 => .fn cInvF
  | 67 => .fn cFrom
  | 35 => .fn cReduce
  | _ => .fn noCT
theorem e0_ok : CTok Try.prog e0 := by
  intro F
  unfold e0
  split
  · exact sMulF
  · exact sAddF
  · exact sSubF
  · exact sInvF
  · exact sFrom
  · exact sReduce
  · exact sound_none _ _
set_option maxRecDepth 100000 in
set_option maxHeartbeats 1000000 in
theorem sNumber : Sound Try.prog 43 cNumber := by
  refine sound_vc (tt := tt) (ct := e0) ttok e0_ok mixed Try.func43 rfl (by decide) (rs := [.cell 0 24]) rfl (ts := [24]) (k := 0) ?_
  intro cas K h
  unfold cNumber at h
  split at h
  · skip
    rw [Try.ntmps43]
    refine ⟨by simp, ?_⟩
    rw [DD_words] at h
    simp (maxSteps := 10000000) (implicitDefEqProofs := false) only [↓both_true, ↓both_false, ↓entryVC, ↓vc_skip, ↓vc_draw, ↓vc_list, ↓vc_seq, ↓vc_seqn, ↓vc_seqe, ↓vc_seqr, ↓vc_cond, ↓condVC, ↓vc_block, ↓vc_blockn, ↓vc_blockr, ↓vc_blocke, ↓vc_loop, ↓vc_exit, ↓vc_ret, ↓vc_loopn, ↓vc_loope, ↓vc_loopr, ↓vcl_nil, ↓vcl_cons, ↓lw_eq, ↓listVC, ↓memK, ↓memR, ↓envOf, ↓guardVC, ↓opVC, ↓pureVC, ↓binVC, ↓bin8, ↓bin32, ↓bin64, ↓binInt, ↓shVC, ↓unVC, ↓cvVC, ↓rdVC, ↓loadVC, ↓pickC, ↓fillVC, ↓bndVC, ↓sliceVC, ↓bltVC, ↓storeVC, ↓appVC, ↓apzVC, ↓markVC, ↓copyVC, ↓callVC, ↓argsVC, ↓argVC, ↓bindR, ↓bindR1, ↓bindRs, ↓retW_eq, ↓extW_eq, ↓rowW_eq, ↓aggW_eq, ↓plv_nil, ↓plv_tk, ↓plv_fz, ↓plv_ld, ↓pt_eq, ↓pz_eq, ↓pl_eq, ↓delAll, ↓keepM, ↓extM, ↓leS, ↓leA, ↓retVC, ↓retR, ↓resVC, ↓resV1, ↓ressVC, ↓strU, ↓xAdd64, ↓xSub64, ↓vc_jn, ↓vc_je, ↓vc_jr, ↓pickA, ↓stU_env, ↓stU_mem, both_true, both_false, both_dec, both_ndec, ev, absC, getA, setA, delA, tt, AV.good, AV.plain, AV.isSl, AV.cells, AV.one, Cells.len, Cells.get, Cells.sub, Cells.part, Cells.agg, Cells.upd, Cells.set, Cells.cat, Cells.rep, Cells.ones, TDsc.agg, zOf, putE, dstB, letGo, quietOp, slotOp, pickA, List.append_eq, Int.cast_ofNat_Int, words_len, List.any_cons, List.any_nil, beq_iff_eq, Bool.decide_eq_true, Option.getD_some, Option.getD_none, Option.map_some, Option.map_none, Option.bind_some, Option.isSome_some, Option.isNone_some, Option.isNone_none, Option.isSome_none, ↓reduceIte, Nat.reduceEqDiff, Nat.reduceLT, Nat.reduceLeDiff, Nat.reduceAdd, Nat.reduceSub, Nat.reduceMul, Nat.reduceBEq, Int.reduceLE, Int.reduceLT, Int.reduceToNat, Int.reduceNeg, BitVec.reduceToNat, decide_true, decide_false, and_true, true_and, and_self, Bool.or_true, Bool.true_or, Bool.or_false, Bool.false_or, Bool.not_true, Bool.not_false, List.map_cons, List.map_nil, List.length_cons, List.length_nil, List.getElem?_toArray, List.getElem?_cons_zero, List.getElem?_cons_succ, List.getElem?_nil, forall_const, true_implies, reduceCtorEq, false_and, and_false, false_implies, implies_true, Bool.false_eq_true, Bool.true_eq_false, ne_eq, not_true, not_false_iff, Nat.sub_zero, Nat.zero_add, Nat.add_zero, List.drop_zero, List.drop_succ_cons, List.drop_nil, List.take_zero, List.take_succ_cons, List.take_nil, List.set_cons_zero, List.set_cons_succ, List.nil_append, List.cons_append, List.append_nil, List.replicate_zero, List.replicate_succ, BitVec.ofNat_eq_ofNat, Option.some.injEq, AV.int.injEq, AV.u64.injEq, AV.u32.injEq, AV.u8.injEq, AV.bool.injEq, AV.a64.injEq, AV.a32.injEq, AV.a8.injEq, Nat.zero_le, Int.toNat_natCast, e0, cMulF, cAddF, cSubF, cInvF, cFrom, cReduce, words_len, mkP_len, mkE_len, val_fM, val_fA, val_fS, val_fI, val_DD, val_o1, val_z0, List.append_assoc, tk4, dp4, dp8, dp12, dp16, tk8, tk12, tkw, dpw, List.length_append]
    exact h
  · exact h.elim
set_option maxRecDepth 100000 in
set_option maxHeartbeats 1000000 in
theorem sOne : Sound Try.prog 42 cOne := by
  refine sound_vc (tt := tt) (ct := e0) ttok e0_ok mixed Try.func42 rfl (by decide) (rs := [.cell 0 24]) rfl (ts := [24]) (k := 0) ?_
  intro cas K h
  unfold cOne at h
  split at h
  · skip
    rw [Try.ntmps42]
    refine ⟨by simp, ?_⟩
    simp (maxSteps := 10000000) (implicitDefEqProofs := false) only [↓both_true, ↓both_false, ↓entryVC, ↓vc_skip, ↓vc_draw, ↓vc_list, ↓vc_seq, ↓vc_seqn, ↓vc_seqe, ↓vc_seqr, ↓vc_cond, ↓condVC, ↓vc_block, ↓vc_blockn, ↓vc_blockr, ↓vc_blocke, ↓vc_loop, ↓vc_exit, ↓vc_ret, ↓vc_loopn, ↓vc_loope, ↓vc_loopr, ↓vcl_nil, ↓vcl_cons, ↓lw_eq, ↓listVC, ↓memK, ↓memR, ↓envOf, ↓guardVC, ↓opVC, ↓pureVC, ↓binVC, ↓bin8, ↓bin32, ↓bin64, ↓binInt, ↓shVC, ↓unVC, ↓cvVC, ↓rdVC, ↓loadVC, ↓pickC, ↓fillVC, ↓bndVC, ↓sliceVC, ↓bltVC, ↓storeVC, ↓appVC, ↓apzVC, ↓markVC, ↓copyVC, ↓callVC, ↓argsVC, ↓argVC, ↓bindR, ↓bindR1, ↓bindRs, ↓retW_eq, ↓extW_eq, ↓rowW_eq, ↓aggW_eq, ↓plv_nil, ↓plv_tk, ↓plv_fz, ↓plv_ld, ↓pt_eq, ↓pz_eq, ↓pl_eq, ↓delAll, ↓keepM, ↓extM, ↓leS, ↓leA, ↓retVC, ↓retR, ↓resVC, ↓resV1, ↓ressVC, ↓strU, ↓xAdd64, ↓xSub64, ↓vc_jn, ↓vc_je, ↓vc_jr, ↓pickA, ↓stU_env, ↓stU_mem, both_true, both_false, both_dec, both_ndec, ev, absC, getA, setA, delA, tt, AV.good, AV.plain, AV.isSl, AV.cells, AV.one, Cells.len, Cells.get, Cells.sub, Cells.part, Cells.agg, Cells.upd, Cells.set, Cells.cat, Cells.rep, Cells.ones, TDsc.agg, zOf, putE, dstB, letGo, quietOp, slotOp, pickA, List.append_eq, Int.cast_ofNat_Int, words_len, List.any_cons, List.any_nil, beq_iff_eq, Bool.decide_eq_true, Option.getD_some, Option.getD_none, Option.map_some, Option.map_none, Option.bind_some, Option.isSome_some, Option.isNone_some, Option.isNone_none, Option.isSome_none, ↓reduceIte, Nat.reduceEqDiff, Nat.reduceLT, Nat.reduceLeDiff, Nat.reduceAdd, Nat.reduceSub, Nat.reduceMul, Nat.reduceBEq, Int.reduceLE, Int.reduceLT, Int.reduceToNat, Int.reduceNeg, BitVec.reduceToNat, decide_true, decide_false, and_true, true_and, and_self, Bool.or_true, Bool.true_or, Bool.or_false, Bool.false_or, Bool.not_true, Bool.not_false, List.map_cons, List.map_nil, List.length_cons, List.length_nil, List.getElem?_toArray, List.getElem?_cons_zero, List.getElem?_cons_succ, List.getElem?_nil, forall_const, true_implies, reduceCtorEq, false_and, and_false, false_implies, implies_true, Bool.false_eq_true, Bool.true_eq_false, ne_eq, not_true, not_false_iff, Nat.sub_zero, Nat.zero_add, Nat.add_zero, List.drop_zero, List.drop_succ_cons, List.drop_nil, List.take_zero, List.take_succ_cons, List.take_nil, List.set_cons_zero, List.set_cons_succ, List.nil_append, List.cons_append, List.append_nil, List.replicate_zero, List.replicate_succ, BitVec.ofNat_eq_ofNat, Option.some.injEq, AV.int.injEq, AV.u64.injEq, AV.u32.injEq, AV.u8.injEq, AV.bool.injEq, AV.a64.injEq, AV.a32.injEq, AV.a8.injEq, Nat.zero_le, Int.toNat_natCast, e0, cMulF, cAddF, cSubF, cInvF, cFrom, cReduce, words_len, mkP_len, mkE_len, val_fM, val_fA, val_fS, val_fI, val_DD, val_o1, val_z0, List.append_assoc, tk4, dp4, dp8, dp12, dp16, tk8, tk12, tkw, dpw, List.length_append]
    exact h
  · exact h.elim
set_option maxRecDepth 100000 in
set_option maxHeartbeats 1000000 in
theorem sSqr : Sound Try.prog 40 cSqr := by
  refine sound_vc (tt := tt) (ct := e0) ttok e0_ok mixed Try.func40 rfl (by decide) (rs := [.cell 2 24]) rfl (ts := [24]) (k := 0) ?_
  intro cas K h
  unfold cSqr at h
  split at h
  · rename_i xs
    rw [Try.ntmps40]
    refine ⟨by simp, ?_⟩
    obtain ⟨hx, h⟩ := h
    (try simp (maxSteps := 10000000) (implicitDefEqProofs := false) only [↓both_true, ↓both_false, ↓entryVC, ↓vc_skip, ↓vc_draw, ↓vc_list, ↓vc_seq, ↓vc_seqn, ↓vc_seqe, ↓vc_seqr, ↓vc_cond, ↓condVC, ↓vc_block, ↓vc_blockn, ↓vc_blockr, ↓vc_blocke, ↓vc_loop, ↓vc_exit, ↓vc_ret, ↓vc_loopn, ↓vc_loope, ↓vc_loopr, ↓vcl_nil, ↓vcl_cons, ↓lw_eq, ↓listVC, ↓memK, ↓memR, ↓envOf, ↓guardVC, ↓opVC, ↓pureVC, ↓binVC, ↓bin8, ↓bin32, ↓bin64, ↓binInt, ↓shVC, ↓unVC, ↓cvVC, ↓rdVC, ↓loadVC, ↓pickC, ↓fillVC, ↓bndVC, ↓sliceVC, ↓bltVC, ↓storeVC, ↓appVC, ↓apzVC, ↓markVC, ↓copyVC, ↓callVC, ↓argsVC, ↓argVC, ↓bindR, ↓bindR1, ↓bindRs, ↓retW_eq, ↓extW_eq, ↓rowW_eq, ↓aggW_eq, ↓plv_nil, ↓plv_tk, ↓plv_fz, ↓plv_ld, ↓pt_eq, ↓pz_eq, ↓pl_eq, ↓delAll, ↓keepM, ↓extM, ↓leS, ↓leA, ↓retVC, ↓retR, ↓resVC, ↓resV1, ↓ressVC, ↓strU, ↓xAdd64, ↓xSub64, ↓vc_jn, ↓vc_je, ↓vc_jr, ↓pickA, ↓stU_env, ↓stU_mem, both_true, both_false, both_dec, both_ndec, ev, absC, getA, setA, delA, tt, AV.good, AV.plain, AV.isSl, AV.cells, AV.one, Cells.len, Cells.get, Cells.sub, Cells.part, Cells.agg, Cells.upd, Cells.set, Cells.cat, Cells.rep, Cells.ones, TDsc.agg, zOf, putE, dstB, letGo, quietOp, slotOp, pickA, List.append_eq, Int.cast_ofNat_Int, words_len, List.any_cons, List.any_nil, beq_iff_eq, Bool.decide_eq_true, Option.getD_some, Option.getD_none, Option.map_some, Option.map_none, Option.bind_some, Option.isSome_some, Option.isNone_some, Option.isNone_none, Option.isSome_none, ↓reduceIte, Nat.reduceEqDiff, Nat.reduceLT, Nat.reduceLeDiff, Nat.reduceAdd, Nat.reduceSub, Nat.reduceMul, Nat.reduceBEq, Int.reduceLE, Int.reduceLT, Int.reduceToNat, Int.reduceNeg, BitVec.reduceToNat, decide_true, decide_false, and_true, true_and, and_self, Bool.or_true, Bool.true_or, Bool.or_false, Bool.false_or, Bool.not_true, Bool.not_false, List.map_cons, List.map_nil, List.length_cons, List.length_nil, List.getElem?_toArray, List.getElem?_cons_zero, List.getElem?_cons_succ, List.getElem?_nil, forall_const, true_implies, reduceCtorEq, false_and, and_false, false_implies, implies_true, Bool.false_eq_true, Bool.true_eq_false, ne_eq, not_true, not_false_iff, Nat.sub_zero, Nat.zero_add, Nat.add_zero, List.drop_zero, List.drop_succ_cons, List.drop_nil, List.take_zero, List.take_succ_cons, List.take_nil, List.set_cons_zero, List.set_cons_succ, List.nil_append, List.cons_append, List.append_nil, List.replicate_zero, List.replicate_succ, BitVec.ofNat_eq_ofNat, Option.some.injEq, AV.int.injEq, AV.u64.injEq, AV.u32.injEq, AV.u8.injEq, AV.bool.injEq, AV.a64.injEq, AV.a32.injEq, AV.a8.injEq, Nat.zero_le, Int.toNat_natCast, e0, cMulF, cAddF, cSubF, cInvF, cFrom, cReduce, words_len, mkP_len, mkE_len, val_fM, val_fA, val_fS, val_fI, val_DD, val_o1, val_z0, List.append_assoc, tk4, dp4, dp8, dp12, dp16, tk8, tk12, tkw, dpw, List.length_append, hx])
    repeat' (first | (intro _) | (fail; simp (maxSteps := 10000000) (implicitDefEqProofs := false) only [↓both_true, ↓both_false, ↓entryVC, ↓vc_skip, ↓vc_draw, ↓vc_list, ↓vc_seq, ↓vc_seqn, ↓vc_seqe, ↓vc_seqr, ↓vc_cond, ↓condVC, ↓vc_block, ↓vc_blockn, ↓vc_blockr, ↓vc_blocke, ↓vc_loop, ↓vc_exit, ↓vc_ret, ↓vc_loopn, ↓vc_loope, ↓vc_loopr, ↓vcl_nil, ↓vcl_cons, ↓lw_eq, ↓listVC, ↓memK, ↓memR, ↓envOf, ↓guardVC, ↓opVC, ↓pureVC, ↓binVC, ↓bin8, ↓bin32, ↓bin64, ↓binInt, ↓shVC, ↓unVC, ↓cvVC, ↓rdVC, ↓loadVC, ↓pickC, ↓fillVC, ↓bndVC, ↓sliceVC, ↓bltVC, ↓storeVC, ↓appVC, ↓apzVC, ↓markVC, ↓copyVC, ↓callVC, ↓argsVC, ↓argVC, ↓bindR, ↓bindR1, ↓bindRs, ↓retW_eq, ↓extW_eq, ↓rowW_eq, ↓aggW_eq, ↓plv_nil, ↓plv_tk, ↓plv_fz, ↓plv_ld, ↓pt_eq, ↓pz_eq, ↓pl_eq, ↓delAll, ↓keepM, ↓extM, ↓leS, ↓leA, ↓retVC, ↓retR, ↓resVC, ↓resV1, ↓ressVC, ↓strU, ↓xAdd64, ↓xSub64, ↓vc_jn, ↓vc_je, ↓vc_jr, ↓pickA, ↓stU_env, ↓stU_mem, both_true, both_false, both_dec, both_ndec, ev, absC, getA, setA, delA, tt, AV.good, AV.plain, AV.isSl, AV.cells, AV.one, Cells.len, Cells.get, Cells.sub, Cells.part, Cells.agg, Cells.upd, Cells.set, Cells.cat, Cells.rep, Cells.ones, TDsc.agg, zOf, putE, dstB, letGo, quietOp, slotOp, pickA, List.append_eq, Int.cast_ofNat_Int, words_len, List.any_cons, List.any_nil, beq_iff_eq, Bool.decide_eq_true, Option.getD_some, Option.getD_none, Option.map_some, Option.map_none, Option.bind_some, Option.isSome_some, Option.isNone_some, Option.isNone_none, Option.isSome_none, ↓reduceIte, Nat.reduceEqDiff, Nat.reduceLT, Nat.reduceLeDiff, Nat.reduceAdd, Nat.reduceSub, Nat.reduceMul, Nat.reduceBEq, Int.reduceLE, Int.reduceLT, Int.reduceToNat, Int.reduceNeg, BitVec.reduceToNat, decide_true, decide_false, and_true, true_and, and_self, Bool.or_true, Bool.true_or, Bool.or_false, Bool.false_or, Bool.not_true, Bool.not_false, List.map_cons, List.map_nil, List.length_cons, List.length_nil, List.getElem?_toArray, List.getElem?_cons_zero, List.getElem?_cons_succ, List.getElem?_nil, forall_const, true_implies, reduceCtorEq, false_and, and_false, false_implies, implies_true, Bool.false_eq_true, Bool.true_eq_false, ne_eq, not_true, not_false_iff, Nat.sub_zero, Nat.zero_add, Nat.add_zero, List.drop_zero, List.drop_succ_cons, List.drop_nil, List.take_zero, List.take_succ_cons, List.take_nil, List.set_cons_zero, List.set_cons_succ, List.nil_append, List.cons_append, List.append_nil, List.replicate_zero, List.replicate_succ, BitVec.ofNat_eq_ofNat, Option.some.injEq, AV.int.injEq, AV.u64.injEq, AV.u32.injEq, AV.u8.injEq, AV.bool.injEq, AV.a64.injEq, AV.a32.injEq, AV.a8.injEq, Nat.zero_le, Int.toNat_natCast, e0, cMulF, cAddF, cSubF, cInvF, cFrom, cReduce, words_len, mkP_len, mkE_len, val_fM, val_fA, val_fS, val_fI, val_DD, val_o1, val_z0, List.append_assoc, tk4, dp4, dp8, dp12, dp16, tk8, tk12, tkw, dpw, List.length_append, hx]) | exact h)
  · exact h.elim
def e1 : CTab := fun F => match F with
  | 14 => .fn cMulF
  | 41 => .fn cAddF
  | 12 => .fn cSubF
  | 59 => .fn cInvF
  | 67 => .fn cFrom
  | 35 => .fn cReduce
  | 43 => .fn cNumber
  | 42 => .fn cOne
  | 40 => .fn cSqr
  | _ => .fn noCT
theorem e1_ok : CTok Try.prog e1 := by
  intro F
  unfold e1
  split
  · exact sMulF
  · exact sAddF
  · exact sSubF
  · exact sInvF
  · exact sFrom
  · exact sReduce
  · exact sNumber
  · exact sOne
  · exact sSqr
  · exact sound_none _ _
set_option maxRecDepth 100000 in
set_option maxHeartbeats 1000000 in
theorem sZeroP : Sound Try.prog 22 cZeroP := by
  refine sound_vc (tt := tt) (ct := e1) ttok e1_ok mixed Try.func22 rfl (by decide) (rs := [.cell 0 29]) rfl (ts := [29]) (k := 0) ?_
  intro cas K h
  unfold cZeroP at h
  split at h
  · skip
    rw [Try.ntmps22]
    refine ⟨by simp, ?_⟩
    rw [show mkP zeroP = words 4 0 ++ words 4 1 from rfl] at h
    rw [zero_w] at h
    simp (maxSteps := 10000000) (implicitDefEqProofs := false) only [↓both_true, ↓both_false, ↓entryVC, ↓vc_skip, ↓vc_draw, ↓vc_list, ↓vc_seq, ↓vc_seqn, ↓vc_seqe, ↓vc_seqr, ↓vc_cond, ↓condVC, ↓vc_block, ↓vc_blockn, ↓vc_blockr, ↓vc_blocke, ↓vc_loop, ↓vc_exit, ↓vc_ret, ↓vc_loopn, ↓vc_loope, ↓vc_loopr, ↓vcl_nil, ↓vcl_cons, ↓lw_eq, ↓listVC, ↓memK, ↓memR, ↓envOf, ↓guardVC, ↓opVC, ↓pureVC, ↓binVC, ↓bin8, ↓bin32, ↓bin64, ↓binInt, ↓shVC, ↓unVC, ↓cvVC, ↓rdVC, ↓loadVC, ↓pickC, ↓fillVC, ↓bndVC, ↓sliceVC, ↓bltVC, ↓storeVC, ↓appVC, ↓apzVC, ↓markVC, ↓copyVC, ↓callVC, ↓argsVC, ↓argVC, ↓bindR, ↓bindR1, ↓bindRs, ↓retW_eq, ↓extW_eq, ↓rowW_eq, ↓aggW_eq, ↓plv_nil, ↓plv_tk, ↓plv_fz, ↓plv_ld, ↓pt_eq, ↓pz_eq, ↓pl_eq, ↓delAll, ↓keepM, ↓extM, ↓leS, ↓leA, ↓retVC, ↓retR, ↓resVC, ↓resV1, ↓ressVC, ↓strU, ↓xAdd64, ↓xSub64, ↓vc_jn, ↓vc_je, ↓vc_jr, ↓pickA, ↓stU_env, ↓stU_mem, both_true, both_false, both_dec, both_ndec, ev, absC, getA, setA, delA, tt, AV.good, AV.plain, AV.isSl, AV.cells, AV.one, Cells.len, Cells.get, Cells.sub, Cells.part, Cells.agg, Cells.upd, Cells.set, Cells.cat, Cells.rep, Cells.ones, TDsc.agg, zOf, putE, dstB, letGo, quietOp, slotOp, pickA, List.append_eq, Int.cast_ofNat_Int, words_len, List.any_cons, List.any_nil, beq_iff_eq, Bool.decide_eq_true, Option.getD_some, Option.getD_none, Option.map_some, Option.map_none, Option.bind_some, Option.isSome_some, Option.isNone_some, Option.isNone_none, Option.isSome_none, ↓reduceIte, Nat.reduceEqDiff, Nat.reduceLT, Nat.reduceLeDiff, Nat.reduceAdd, Nat.reduceSub, Nat.reduceMul, Nat.reduceBEq, Int.reduceLE, Int.reduceLT, Int.reduceToNat, Int.reduceNeg, BitVec.reduceToNat, decide_true, decide_false, and_true, true_and, and_self, Bool.or_true, Bool.true_or, Bool.or_false, Bool.false_or, Bool.not_true, Bool.not_false, List.map_cons, List.map_nil, List.length_cons, List.length_nil, List.getElem?_toArray, List.getElem?_cons_zero, List.getElem?_cons_succ, List.getElem?_nil, forall_const, true_implies, reduceCtorEq, false_and, and_false, false_implies, implies_true, Bool.false_eq_true, Bool.true_eq_false, ne_eq, not_true, not_false_iff, Nat.sub_zero, Nat.zero_add, Nat.add_zero, List.drop_zero, List.drop_succ_cons, List.drop_nil, List.take_zero, List.take_succ_cons, List.take_nil, List.set_cons_zero, List.set_cons_succ, List.nil_append, List.cons_append, List.append_nil, List.replicate_zero, List.replicate_succ, BitVec.ofNat_eq_ofNat, Option.some.injEq, AV.int.injEq, AV.u64.injEq, AV.u32.injEq, AV.u8.injEq, AV.bool.injEq, AV.a64.injEq, AV.a32.injEq, AV.a8.injEq, Nat.zero_le, Int.toNat_natCast, e1, cMulF, cAddF, cSubF, cInvF, cFrom, cReduce, cNumber, cOne, cSqr, words_len, mkP_len, mkE_len, val_fM, val_fA, val_fS, val_fI, val_DD, val_o1, val_z0, List.append_assoc, tk4, dp4, dp8, dp12, dp16, tk8, tk12, tkw, dpw, List.length_append]
    exact h
  · exact h.elim
set_option maxRecDepth 100000 in
set_option maxHeartbeats 1000000 in
theorem sExtend : Sound Try.prog 53 cExtend := by
  refine sound_vc (tt := tt) (ct := e1) ttok e1_ok mixed Try.func53 rfl (by decide) (rs := [.cell 2 56]) rfl (ts := [56]) (k := 0) ?_
  intro cas K h
  unfold cExtend at h
  split at h
  · rename_i p
    rw [Try.ntmps53]
    refine ⟨by simp, ?_⟩
    obtain ⟨hp, h⟩ := h
    simp only [mkE, mkP, plusE, dblE, extE, plainE, fourE, ee, pp] at h
    have hp0 : List.take 4 p = words 4 (q0 p) := part4 (k := 0) (by omega)
    have hp1 : List.take 4 (List.drop 4 p) = words 4 (q1 p) := part4 (k := 4) (by omega)
    have hpv0 : val (words 4 (q0 p)) = q0 p := val4_of (part4_lt (p := p) (k := 0) (by omega))
    have hpv1 : val (words 4 (q1 p)) = q1 p := val4_of (part4_lt (p := p) (k := 4) (by omega))
    (try simp (maxSteps := 10000000) (implicitDefEqProofs := false) only [↓both_true, ↓both_false, ↓entryVC, ↓vc_skip, ↓vc_draw, ↓vc_list, ↓vc_seq, ↓vc_seqn, ↓vc_seqe, ↓vc_seqr, ↓vc_cond, ↓condVC, ↓vc_block, ↓vc_blockn, ↓vc_blockr, ↓vc_blocke, ↓vc_loop, ↓vc_exit, ↓vc_ret, ↓vc_loopn, ↓vc_loope, ↓vc_loopr, ↓vcl_nil, ↓vcl_cons, ↓lw_eq, ↓listVC, ↓memK, ↓memR, ↓envOf, ↓guardVC, ↓opVC, ↓pureVC, ↓binVC, ↓bin8, ↓bin32, ↓bin64, ↓binInt, ↓shVC, ↓unVC, ↓cvVC, ↓rdVC, ↓loadVC, ↓pickC, ↓fillVC, ↓bndVC, ↓sliceVC, ↓bltVC, ↓storeVC, ↓appVC, ↓apzVC, ↓markVC, ↓copyVC, ↓callVC, ↓argsVC, ↓argVC, ↓bindR, ↓bindR1, ↓bindRs, ↓retW_eq, ↓extW_eq, ↓rowW_eq, ↓aggW_eq, ↓plv_nil, ↓plv_tk, ↓plv_fz, ↓plv_ld, ↓pt_eq, ↓pz_eq, ↓pl_eq, ↓delAll, ↓keepM, ↓extM, ↓leS, ↓leA, ↓retVC, ↓retR, ↓resVC, ↓resV1, ↓ressVC, ↓strU, ↓xAdd64, ↓xSub64, ↓vc_jn, ↓vc_je, ↓vc_jr, ↓pickA, ↓stU_env, ↓stU_mem, both_true, both_false, both_dec, both_ndec, ev, absC, getA, setA, delA, tt, AV.good, AV.plain, AV.isSl, AV.cells, AV.one, Cells.len, Cells.get, Cells.sub, Cells.part, Cells.agg, Cells.upd, Cells.set, Cells.cat, Cells.rep, Cells.ones, TDsc.agg, zOf, putE, dstB, letGo, quietOp, slotOp, pickA, List.append_eq, Int.cast_ofNat_Int, words_len, List.any_cons, List.any_nil, beq_iff_eq, Bool.decide_eq_true, Option.getD_some, Option.getD_none, Option.map_some, Option.map_none, Option.bind_some, Option.isSome_some, Option.isNone_some, Option.isNone_none, Option.isSome_none, ↓reduceIte, Nat.reduceEqDiff, Nat.reduceLT, Nat.reduceLeDiff, Nat.reduceAdd, Nat.reduceSub, Nat.reduceMul, Nat.reduceBEq, Int.reduceLE, Int.reduceLT, Int.reduceToNat, Int.reduceNeg, BitVec.reduceToNat, decide_true, decide_false, and_true, true_and, and_self, Bool.or_true, Bool.true_or, Bool.or_false, Bool.false_or, Bool.not_true, Bool.not_false, List.map_cons, List.map_nil, List.length_cons, List.length_nil, List.getElem?_toArray, List.getElem?_cons_zero, List.getElem?_cons_succ, List.getElem?_nil, forall_const, true_implies, reduceCtorEq, false_and, and_false, false_implies, implies_true, Bool.false_eq_true, Bool.true_eq_false, ne_eq, not_true, not_false_iff, Nat.sub_zero, Nat.zero_add, Nat.add_zero, List.drop_zero, List.drop_succ_cons, List.drop_nil, List.take_zero, List.take_succ_cons, List.take_nil, List.set_cons_zero, List.set_cons_succ, List.nil_append, List.cons_append, List.append_nil, List.replicate_zero, List.replicate_succ, BitVec.ofNat_eq_ofNat, Option.some.injEq, AV.int.injEq, AV.u64.injEq, AV.u32.injEq, AV.u8.injEq, AV.bool.injEq, AV.a64.injEq, AV.a32.injEq, AV.a8.injEq, Nat.zero_le, Int.toNat_natCast, e1, cMulF, cAddF, cSubF, cInvF, cFrom, cReduce, cNumber, cOne, cSqr, words_len, mkP_len, mkE_len, val_fM, val_fA, val_fS, val_fI, val_DD, val_o1, val_z0, List.append_assoc, tk4, dp4, dp8, dp12, dp16, tk8, tk12, tkw, dpw, List.length_append, hp, hp0, hp1, hpv0, hpv1])
    repeat' (first | (intro _) | (refine draw_ _ _ _ [(.tk, 0), (.tk, 1), (.tk, 2), (.tk, 3), (.tk, 5), (.tk, 6), (.tk, 7), (.tk, 8), (.ld, 4), (.ld, 9), (.tk, 10), (.ld, 11)] [] [] (by kernel_rfl) ?_; simp (maxSteps := 10000000) (implicitDefEqProofs := false) only [↓both_true, ↓both_false, ↓entryVC, ↓vc_skip, ↓vc_draw, ↓vc_list, ↓vc_seq, ↓vc_seqn, ↓vc_seqe, ↓vc_seqr, ↓vc_cond, ↓condVC, ↓vc_block, ↓vc_blockn, ↓vc_blockr, ↓vc_blocke, ↓vc_loop, ↓vc_exit, ↓vc_ret, ↓vc_loopn, ↓vc_loope, ↓vc_loopr, ↓vcl_nil, ↓vcl_cons, ↓lw_eq, ↓listVC, ↓memK, ↓memR, ↓envOf, ↓guardVC, ↓opVC, ↓pureVC, ↓binVC, ↓bin8, ↓bin32, ↓bin64, ↓binInt, ↓shVC, ↓unVC, ↓cvVC, ↓rdVC, ↓loadVC, ↓pickC, ↓fillVC, ↓bndVC, ↓sliceVC, ↓bltVC, ↓storeVC, ↓appVC, ↓apzVC, ↓markVC, ↓copyVC, ↓callVC, ↓argsVC, ↓argVC, ↓bindR, ↓bindR1, ↓bindRs, ↓retW_eq, ↓extW_eq, ↓rowW_eq, ↓aggW_eq, ↓plv_nil, ↓plv_tk, ↓plv_fz, ↓plv_ld, ↓pt_eq, ↓pz_eq, ↓pl_eq, ↓delAll, ↓keepM, ↓extM, ↓leS, ↓leA, ↓retVC, ↓retR, ↓resVC, ↓resV1, ↓ressVC, ↓strU, ↓xAdd64, ↓xSub64, ↓vc_jn, ↓vc_je, ↓vc_jr, ↓pickA, ↓stU_env, ↓stU_mem, both_true, both_false, both_dec, both_ndec, ev, absC, getA, setA, delA, tt, AV.good, AV.plain, AV.isSl, AV.cells, AV.one, Cells.len, Cells.get, Cells.sub, Cells.part, Cells.agg, Cells.upd, Cells.set, Cells.cat, Cells.rep, Cells.ones, TDsc.agg, zOf, putE, dstB, letGo, quietOp, slotOp, pickA, List.append_eq, Int.cast_ofNat_Int, words_len, List.any_cons, List.any_nil, beq_iff_eq, Bool.decide_eq_true, Option.getD_some, Option.getD_none, Option.map_some, Option.map_none, Option.bind_some, Option.isSome_some, Option.isNone_some, Option.isNone_none, Option.isSome_none, ↓reduceIte, Nat.reduceEqDiff, Nat.reduceLT, Nat.reduceLeDiff, Nat.reduceAdd, Nat.reduceSub, Nat.reduceMul, Nat.reduceBEq, Int.reduceLE, Int.reduceLT, Int.reduceToNat, Int.reduceNeg, BitVec.reduceToNat, decide_true, decide_false, and_true, true_and, and_self, Bool.or_true, Bool.true_or, Bool.or_false, Bool.false_or, Bool.not_true, Bool.not_false, List.map_cons, List.map_nil, List.length_cons, List.length_nil, List.getElem?_toArray, List.getElem?_cons_zero, List.getElem?_cons_succ, List.getElem?_nil, forall_const, true_implies, reduceCtorEq, false_and, and_false, false_implies, implies_true, Bool.false_eq_true, Bool.true_eq_false, ne_eq, not_true, not_false_iff, Nat.sub_zero, Nat.zero_add, Nat.add_zero, List.drop_zero, List.drop_succ_cons, List.drop_nil, List.take_zero, List.take_succ_cons, List.take_nil, List.set_cons_zero, List.set_cons_succ, List.nil_append, List.cons_append, List.append_nil, List.replicate_zero, List.replicate_succ, BitVec.ofNat_eq_ofNat, Option.some.injEq, AV.int.injEq, AV.u64.injEq, AV.u32.injEq, AV.u8.injEq, AV.bool.injEq, AV.a64.injEq, AV.a32.injEq, AV.a8.injEq, Nat.zero_le, Int.toNat_natCast, e1, cMulF, cAddF, cSubF, cInvF, cFrom, cReduce, cNumber, cOne, cSqr, words_len, mkP_len, mkE_len, val_fM, val_fA, val_fS, val_fI, val_DD, val_o1, val_z0, List.append_assoc, tk4, dp4, dp8, dp12, dp16, tk8, tk12, tkw, dpw, List.length_append, hp, hp0, hp1, hpv0, hpv1]) | exact h)
  · exact h.elim
set_option maxRecDepth 100000 in
set_option maxHeartbeats 1000000 in
theorem sPlusE : Sound Try.prog 54 cPlusE := by
  refine sound_vc (tt := tt) (ct := e1) ttok e1_ok mixed Try.func54 rfl (by decide) (rs := [.cell 4 56]) rfl (ts := [56]) (k := 0) ?_
  intro cas K h
  unfold cPlusE at h
  split at h
  · rename_i p q
    rw [Try.ntmps54]
    refine ⟨by simp, ?_⟩
    obtain ⟨⟨hp, hq⟩, h⟩ := h
    simp only [mkE, mkP, plusE, dblE, extE, plainE, fourE, ee, pp] at h
    have hp0 : List.take 4 p = words 4 (q0 p) := part4 (k := 0) (by omega)
    have hp1 : List.take 4 (List.drop 4 p) = words 4 (q1 p) := part4 (k := 4) (by omega)
    have hp2 : List.take 4 (List.drop 8 p) = words 4 (q2 p) := part4 (k := 8) (by omega)
    have hp3 : List.take 4 (List.drop 12 p) = words 4 (q3 p) := part4 (k := 12) (by omega)
    have hpv0 : val (words 4 (q0 p)) = q0 p := val4_of (part4_lt (p := p) (k := 0) (by omega))
    have hpv1 : val (words 4 (q1 p)) = q1 p := val4_of (part4_lt (p := p) (k := 4) (by omega))
    have hpv2 : val (words 4 (q2 p)) = q2 p := val4_of (part4_lt (p := p) (k := 8) (by omega))
    have hpv3 : val (words 4 (q3 p)) = q3 p := val4_of (part4_lt (p := p) (k := 12) (by omega))
    have hq0 : List.take 4 q = words 4 (q0 q) := part4 (k := 0) (by omega)
    have hq1 : List.take 4 (List.drop 4 q) = words 4 (q1 q) := part4 (k := 4) (by omega)
    have hq2 : List.take 4 (List.drop 8 q) = words 4 (q2 q) := part4 (k := 8) (by omega)
    have hq3 : List.take 4 (List.drop 12 q) = words 4 (q3 q) := part4 (k := 12) (by omega)
    have hqv0 : val (words 4 (q0 q)) = q0 q := val4_of (part4_lt (p := q) (k := 0) (by omega))
    have hqv1 : val (words 4 (q1 q)) = q1 q := val4_of (part4_lt (p := q) (k := 4) (by omega))
    have hqv2 : val (words 4 (q2 q)) = q2 q := val4_of (part4_lt (p := q) (k := 8) (by omega))
    have hqv3 : val (words 4 (q3 q)) = q3 q := val4_of (part4_lt (p := q) (k := 12) (by omega))
    (try simp (maxSteps := 10000000) (implicitDefEqProofs := false) only [↓both_true, ↓both_false, ↓entryVC, ↓vc_skip, ↓vc_draw, ↓vc_list, ↓vc_seq, ↓vc_seqn, ↓vc_seqe, ↓vc_seqr, ↓vc_cond, ↓condVC, ↓vc_block, ↓vc_blockn, ↓vc_blockr, ↓vc_blocke, ↓vc_loop, ↓vc_exit, ↓vc_ret, ↓vc_loopn, ↓vc_loope, ↓vc_loopr, ↓vcl_nil, ↓vcl_cons, ↓lw_eq, ↓listVC, ↓memK, ↓memR, ↓envOf, ↓guardVC, ↓opVC, ↓pureVC, ↓binVC, ↓bin8, ↓bin32, ↓bin64, ↓binInt, ↓shVC, ↓unVC, ↓cvVC, ↓rdVC, ↓loadVC, ↓pickC, ↓fillVC, ↓bndVC, ↓sliceVC, ↓bltVC, ↓storeVC, ↓appVC, ↓apzVC, ↓markVC, ↓copyVC, ↓callVC, ↓argsVC, ↓argVC, ↓bindR, ↓bindR1, ↓bindRs, ↓retW_eq, ↓extW_eq, ↓rowW_eq, ↓aggW_eq, ↓plv_nil, ↓plv_tk, ↓plv_fz, ↓plv_ld, ↓pt_eq, ↓pz_eq, ↓pl_eq, ↓delAll, ↓keepM, ↓extM, ↓leS, ↓leA, ↓retVC, ↓retR, ↓resVC, ↓resV1, ↓ressVC, ↓strU, ↓xAdd64, ↓xSub64, ↓vc_jn, ↓vc_je, ↓vc_jr, ↓pickA, ↓stU_env, ↓stU_mem, both_true, both_false, both_dec, both_ndec, ev, absC, getA, setA, delA, tt, AV.good, AV.plain, AV.isSl, AV.cells, AV.one, Cells.len, Cells.get, Cells.sub, Cells.part, Cells.agg, Cells.upd, Cells.set, Cells.cat, Cells.rep, Cells.ones, TDsc.agg, zOf, putE, dstB, letGo, quietOp, slotOp, pickA, List.append_eq, Int.cast_ofNat_Int, words_len, List.any_cons, List.any_nil, beq_iff_eq, Bool.decide_eq_true, Option.getD_some, Option.getD_none, Option.map_some, Option.map_none, Option.bind_some, Option.isSome_some, Option.isNone_some, Option.isNone_none, Option.isSome_none, ↓reduceIte, Nat.reduceEqDiff, Nat.reduceLT, Nat.reduceLeDiff, Nat.reduceAdd, Nat.reduceSub, Nat.reduceMul, Nat.reduceBEq, Int.reduceLE, Int.reduceLT, Int.reduceToNat, Int.reduceNeg, BitVec.reduceToNat, decide_true, decide_false, and_true, true_and, and_self, Bool.or_true, Bool.true_or, Bool.or_false, Bool.false_or, Bool.not_true, Bool.not_false, List.map_cons, List.map_nil, List.length_cons, List.length_nil, List.getElem?_toArray, List.getElem?_cons_zero, List.getElem?_cons_succ, List.getElem?_nil, forall_const, true_implies, reduceCtorEq, false_and, and_false, false_implies, implies_true, Bool.false_eq_true, Bool.true_eq_false, ne_eq, not_true, not_false_iff, Nat.sub_zero, Nat.zero_add, Nat.add_zero, List.drop_zero, List.drop_succ_cons, List.drop_nil, List.take_zero, List.take_succ_cons, List.take_nil, List.set_cons_zero, List.set_cons_succ, List.nil_append, List.cons_append, List.append_nil, List.replicate_zero, List.replicate_succ, BitVec.ofNat_eq_ofNat, Option.some.injEq, AV.int.injEq, AV.u64.injEq, AV.u32.injEq, AV.u8.injEq, AV.bool.injEq, AV.a64.injEq, AV.a32.injEq, AV.a8.injEq, Nat.zero_le, Int.toNat_natCast, e1, cMulF, cAddF, cSubF, cInvF, cFrom, cReduce, cNumber, cOne, cSqr, words_len, mkP_len, mkE_len, val_fM, val_fA, val_fS, val_fI, val_DD, val_o1, val_z0, List.append_assoc, tk4, dp4, dp8, dp12, dp16, tk8, tk12, tkw, dpw, List.length_append, hp, hq, hp0, hp1, hpv0, hpv1, hp2, hp3, hpv2, hpv3, hq0, hq1, hqv0, hqv1, hq2, hq3, hqv2, hqv3])
    repeat' (first | (intro _) | ((first | refine draw_ _ _ _ [(.tk, 0), (.tk, 1), (.tk, 2), (.tk, 3), (.tk, 5), (.tk, 6), (.tk, 7), (.tk, 8), (.ld, 4), (.ld, 9), (.ld, 10), (.ld, 11), (.ld, 12)] [11] [] (by decide +kernel) ?_ | refine draw_ _ _ _ [(.tk, 0), (.tk, 1), (.tk, 3), (.tk, 4), (.tk, 6), (.tk, 7), (.tk, 9), (.tk, 10), (.ld, 2), (.ld, 5), (.ld, 8), (.ld, 11), (.ld, 12), (.ld, 13), (.ld, 14), (.ld, 15), (.ld, 16), (.ld, 17), (.ld, 18), (.ld, 19)] [12, 13, 14, 15] [] (by decide +kernel) ?_ | refine draw_ _ _ _ [(.tk, 0), (.tk, 1), (.tk, 3), (.tk, 4), (.tk, 6), (.tk, 7), (.tk, 9), (.tk, 10), (.ld, 2), (.ld, 5), (.ld, 8), (.ld, 11), (.tk, 12), (.ld, 13)] [] [] (by decide +kernel) ?_); simp (maxSteps := 10000000) (implicitDefEqProofs := false) only [↓both_true, ↓both_false, ↓entryVC, ↓vc_skip, ↓vc_draw, ↓vc_list, ↓vc_seq, ↓vc_seqn, ↓vc_seqe, ↓vc_seqr, ↓vc_cond, ↓condVC, ↓vc_block, ↓vc_blockn, ↓vc_blockr, ↓vc_blocke, ↓vc_loop, ↓vc_exit, ↓vc_ret, ↓vc_loopn, ↓vc_loope, ↓vc_loopr, ↓vcl_nil, ↓vcl_cons, ↓lw_eq, ↓listVC, ↓memK, ↓memR, ↓envOf, ↓guardVC, ↓opVC, ↓pureVC, ↓binVC, ↓bin8, ↓bin32, ↓bin64, ↓binInt, ↓shVC, ↓unVC, ↓cvVC, ↓rdVC, ↓loadVC, ↓pickC, ↓fillVC, ↓bndVC, ↓sliceVC, ↓bltVC, ↓storeVC, ↓appVC, ↓apzVC, ↓markVC, ↓copyVC, ↓callVC, ↓argsVC, ↓argVC, ↓bindR, ↓bindR1, ↓bindRs, ↓retW_eq, ↓extW_eq, ↓rowW_eq, ↓aggW_eq, ↓plv_nil, ↓plv_tk, ↓plv_fz, ↓plv_ld, ↓pt_eq, ↓pz_eq, ↓pl_eq, ↓delAll, ↓keepM, ↓extM, ↓leS, ↓leA, ↓retVC, ↓retR, ↓resVC, ↓resV1, ↓ressVC, ↓strU, ↓xAdd64, ↓xSub64, ↓vc_jn, ↓vc_je, ↓vc_jr, ↓pickA, ↓stU_env, ↓stU_mem, both_true, both_false, both_dec, both_ndec, ev, absC, getA, setA, delA, tt, AV.good, AV.plain, AV.isSl, AV.cells, AV.one, Cells.len, Cells.get, Cells.sub, Cells.part, Cells.agg, Cells.upd, Cells.set, Cells.cat, Cells.rep, Cells.ones, TDsc.agg, zOf, putE, dstB, letGo, quietOp, slotOp, pickA, List.append_eq, Int.cast_ofNat_Int, words_len, List.any_cons, List.any_nil, beq_iff_eq, Bool.decide_eq_true, Option.getD_some, Option.getD_none, Option.map_some, Option.map_none, Option.bind_some, Option.isSome_some, Option.isNone_some, Option.isNone_none, Option.isSome_none, ↓reduceIte, Nat.reduceEqDiff, Nat.reduceLT, Nat.reduceLeDiff, Nat.reduceAdd, Nat.reduceSub, Nat.reduceMul, Nat.reduceBEq, Int.reduceLE, Int.reduceLT, Int.reduceToNat, Int.reduceNeg, BitVec.reduceToNat, decide_true, decide_false, and_true, true_and, and_self, Bool.or_true, Bool.true_or, Bool.or_false, Bool.false_or, Bool.not_true, Bool.not_false, List.map_cons, List.map_nil, List.length_cons, List.length_nil, List.getElem?_toArray, List.getElem?_cons_zero, List.getElem?_cons_succ, List.getElem?_nil, forall_const, true_implies, reduceCtorEq, false_and, and_false, false_implies, implies_true, Bool.false_eq_true, Bool.true_eq_false, ne_eq, not_true, not_false_iff, Nat.sub_zero, Nat.zero_add, Nat.add_zero, List.drop_zero, List.drop_succ_cons, List.drop_nil, List.take_zero, List.take_succ_cons, List.take_nil, List.set_cons_zero, List.set_cons_succ, List.nil_append, List.cons_append, List.append_nil, List.replicate_zero, List.replicate_succ, BitVec.ofNat_eq_ofNat, Option.some.injEq, AV.int.injEq, AV.u64.injEq, AV.u32.injEq, AV.u8.injEq, AV.bool.injEq, AV.a64.injEq, AV.a32.injEq, AV.a8.injEq, Nat.zero_le, Int.toNat_natCast, e1, cMulF, cAddF, cSubF, cInvF, cFrom, cReduce, cNumber, cOne, cSqr, words_len, mkP_len, mkE_len, val_fM, val_fA, val_fS, val_fI, val_DD, val_o1, val_z0, List.append_assoc, tk4, dp4, dp8, dp12, dp16, tk8, tk12, tkw, dpw, List.length_append, hp, hq, hp0, hp1, hpv0, hpv1, hp2, hp3, hpv2, hpv3, hq0, hq1, hqv0, hqv1, hq2, hq3, hqv2, hqv3]) | exact h)
  · exact h.elim
set_option maxRecDepth 100000 in
set_option maxHeartbeats 1000000 in
theorem sDblE : Sound Try.prog 62 cDblE := by
  refine sound_vc (tt := tt) (ct := e1) ttok e1_ok mixed Try.func62 rfl (by decide) (rs := [.cell 2 56]) rfl (ts := [56]) (k := 0) ?_
  intro cas K h
  unfold cDblE at h
  split at h
  · rename_i p
    rw [Try.ntmps62]
    refine ⟨by simp, ?_⟩
    obtain ⟨hp, h⟩ := h
    simp only [mkE, mkP, plusE, dblE, extE, plainE, fourE, ee, pp] at h
    have hp0 : List.take 4 p = words 4 (q0 p) := part4 (k := 0) (by omega)
    have hp1 : List.take 4 (List.drop 4 p) = words 4 (q1 p) := part4 (k := 4) (by omega)
    have hp2 : List.take 4 (List.drop 8 p) = words 4 (q2 p) := part4 (k := 8) (by omega)
    have hp3 : List.take 4 (List.drop 12 p) = words 4 (q3 p) := part4 (k := 12) (by omega)
    have hpv0 : val (words 4 (q0 p)) = q0 p := val4_of (part4_lt (p := p) (k := 0) (by omega))
    have hpv1 : val (words 4 (q1 p)) = q1 p := val4_of (part4_lt (p := p) (k := 4) (by omega))
    have hpv2 : val (words 4 (q2 p)) = q2 p := val4_of (part4_lt (p := p) (k := 8) (by omega))
    have hpv3 : val (words 4 (q3 p)) = q3 p := val4_of (part4_lt (p := p) (k := 12) (by omega))
    (try simp (maxSteps := 10000000) (implicitDefEqProofs := false) only [↓both_true, ↓both_false, ↓entryVC, ↓vc_skip, ↓vc_draw, ↓vc_list, ↓vc_seq, ↓vc_seqn, ↓vc_seqe, ↓vc_seqr, ↓vc_cond, ↓condVC, ↓vc_block, ↓vc_blockn, ↓vc_blockr, ↓vc_blocke, ↓vc_loop, ↓vc_exit, ↓vc_ret, ↓vc_loopn, ↓vc_loope, ↓vc_loopr, ↓vcl_nil, ↓vcl_cons, ↓lw_eq, ↓listVC, ↓memK, ↓memR, ↓envOf, ↓guardVC, ↓opVC, ↓pureVC, ↓binVC, ↓bin8, ↓bin32, ↓bin64, ↓binInt, ↓shVC, ↓unVC, ↓cvVC, ↓rdVC, ↓loadVC, ↓pickC, ↓fillVC, ↓bndVC, ↓sliceVC, ↓bltVC, ↓storeVC, ↓appVC, ↓apzVC, ↓markVC, ↓copyVC, ↓callVC, ↓argsVC, ↓argVC, ↓bindR, ↓bindR1, ↓bindRs, ↓retW_eq, ↓extW_eq, ↓rowW_eq, ↓aggW_eq, ↓plv_nil, ↓plv_tk, ↓plv_fz, ↓plv_ld, ↓pt_eq, ↓pz_eq, ↓pl_eq, ↓delAll, ↓keepM, ↓extM, ↓leS, ↓leA, ↓retVC, ↓retR, ↓resVC, ↓resV1, ↓ressVC, ↓strU, ↓xAdd64, ↓xSub64, ↓vc_jn, ↓vc_je, ↓vc_jr, ↓pickA, ↓stU_env, ↓stU_mem, both_true, both_false, both_dec, both_ndec, ev, absC, getA, setA, delA, tt, AV.good, AV.plain, AV.isSl, AV.cells, AV.one, Cells.len, Cells.get, Cells.sub, Cells.part, Cells.agg, Cells.upd, Cells.set, Cells.cat, Cells.rep, Cells.ones, TDsc.agg, zOf, putE, dstB, letGo, quietOp, slotOp, pickA, List.append_eq, Int.cast_ofNat_Int, words_len, List.any_cons, List.any_nil, beq_iff_eq, Bool.decide_eq_true, Option.getD_some, Option.getD_none, Option.map_some, Option.map_none, Option.bind_some, Option.isSome_some, Option.isNone_some, Option.isNone_none, Option.isSome_none, ↓reduceIte, Nat.reduceEqDiff, Nat.reduceLT, Nat.reduceLeDiff, Nat.reduceAdd, Nat.reduceSub, Nat.reduceMul, Nat.reduceBEq, Int.reduceLE, Int.reduceLT, Int.reduceToNat, Int.reduceNeg, BitVec.reduceToNat, decide_true, decide_false, and_true, true_and, and_self, Bool.or_true, Bool.true_or, Bool.or_false, Bool.false_or, Bool.not_true, Bool.not_false, List.map_cons, List.map_nil, List.length_cons, List.length_nil, List.getElem?_toArray, List.getElem?_cons_zero, List.getElem?_cons_succ, List.getElem?_nil, forall_const, true_implies, reduceCtorEq, false_and, and_false, false_implies, implies_true, Bool.false_eq_true, Bool.true_eq_false, ne_eq, not_true, not_false_iff, Nat.sub_zero, Nat.zero_add, Nat.add_zero, List.drop_zero, List.drop_succ_cons, List.drop_nil, List.take_zero, List.take_succ_cons, List.take_nil, List.set_cons_zero, List.set_cons_succ, List.nil_append, List.cons_append, List.append_nil, List.replicate_zero, List.replicate_succ, BitVec.ofNat_eq_ofNat, Option.some.injEq, AV.int.injEq, AV.u64.injEq, AV.u32.injEq, AV.u8.injEq, AV.bool.injEq, AV.a64.injEq, AV.a32.injEq, AV.a8.injEq, Nat.zero_le, Int.toNat_natCast, e1, cMulF, cAddF, cSubF, cInvF, cFrom, cReduce, cNumber, cOne, cSqr, words_len, mkP_len, mkE_len, val_fM, val_fA, val_fS, val_fI, val_DD, val_o1, val_z0, List.append_assoc, tk4, dp4, dp8, dp12, dp16, tk8, tk12, tkw, dpw, List.length_append, hp, hp0, hp1, hpv0, hpv1, hp2, hp3, hpv2, hpv3])
    repeat' (first | (intro _) | ((first | refine draw_ _ _ _ [(.tk, 0), (.tk, 1), (.tk, 3), (.tk, 4), (.tk, 6), (.tk, 7), (.ld, 2), (.ld, 5), (.ld, 8), (.ld, 9), (.ld, 10), (.ld, 11), (.ld, 12), (.ld, 13), (.ld, 14)] [9, 10, 11] [] (by decide +kernel) ?_ | refine draw_ _ _ _ [(.tk, 0), (.tk, 1), (.tk, 2), (.tk, 3), (.tk, 4), (.ld, 5), (.ld, 6), (.ld, 7), (.ld, 8), (.ld, 9)] [8] [] (by decide +kernel) ?_ | refine draw_ _ _ _ [(.tk, 0), (.tk, 1), (.tk, 3), (.tk, 4), (.tk, 6), (.tk, 7), (.tk, 9), (.tk, 10), (.ld, 2), (.ld, 5), (.ld, 8), (.ld, 11), (.tk, 12), (.ld, 13)] [] [] (by decide +kernel) ?_); simp (maxSteps := 10000000) (implicitDefEqProofs := false) only [↓both_true, ↓both_false, ↓entryVC, ↓vc_skip, ↓vc_draw, ↓vc_list, ↓vc_seq, ↓vc_seqn, ↓vc_seqe, ↓vc_seqr, ↓vc_cond, ↓condVC, ↓vc_block, ↓vc_blockn, ↓vc_blockr, ↓vc_blocke, ↓vc_loop, ↓vc_exit, ↓vc_ret, ↓vc_loopn, ↓vc_loope, ↓vc_loopr, ↓vcl_nil, ↓vcl_cons, ↓lw_eq, ↓listVC, ↓memK, ↓memR, ↓envOf, ↓guardVC, ↓opVC, ↓pureVC, ↓binVC, ↓bin8, ↓bin32, ↓bin64, ↓binInt, ↓shVC, ↓unVC, ↓cvVC, ↓rdVC, ↓loadVC, ↓pickC, ↓fillVC, ↓bndVC, ↓sliceVC, ↓bltVC, ↓storeVC, ↓appVC, ↓apzVC, ↓markVC, ↓copyVC, ↓callVC, ↓argsVC, ↓argVC, ↓bindR, ↓bindR1, ↓bindRs, ↓retW_eq, ↓extW_eq, ↓rowW_eq, ↓aggW_eq, ↓plv_nil, ↓plv_tk, ↓plv_fz, ↓plv_ld, ↓pt_eq, ↓pz_eq, ↓pl_eq, ↓delAll, ↓keepM, ↓extM, ↓leS, ↓leA, ↓retVC, ↓retR, ↓resVC, ↓resV1, ↓ressVC, ↓strU, ↓xAdd64, ↓xSub64, ↓vc_jn, ↓vc_je, ↓vc_jr, ↓pickA, ↓stU_env, ↓stU_mem, both_true, both_false, both_dec, both_ndec, ev, absC, getA, setA, delA, tt, AV.good, AV.plain, AV.isSl, AV.cells, AV.one, Cells.len, Cells.get, Cells.sub, Cells.part, Cells.agg, Cells.upd, Cells.set, Cells.cat, Cells.rep, Cells.ones, TDsc.agg, zOf, putE, dstB, letGo, quietOp, slotOp, pickA, List.append_eq, Int.cast_ofNat_Int, words_len, List.any_cons, List.any_nil, beq_iff_eq, Bool.decide_eq_true, Option.getD_some, Option.getD_none, Option.map_some, Option.map_none, Option.bind_some, Option.isSome_some, Option.isNone_some, Option.isNone_none, Option.isSome_none, ↓reduceIte, Nat.reduceEqDiff, Nat.reduceLT, Nat.reduceLeDiff, Nat.reduceAdd, Nat.reduceSub, Nat.reduceMul, Nat.reduceBEq, Int.reduceLE, Int.reduceLT, Int.reduceToNat, Int.reduceNeg, BitVec.reduceToNat, decide_true, decide_false, and_true, true_and, and_self, Bool.or_true, Bool.true_or, Bool.or_false, Bool.false_or, Bool.not_true, Bool.not_false, List.map_cons, List.map_nil, List.length_cons, List.length_nil, List.getElem?_toArray, List.getElem?_cons_zero, List.getElem?_cons_succ, List.getElem?_nil, forall_const, true_implies, reduceCtorEq, false_and, and_false, false_implies, implies_true, Bool.false_eq_true, Bool.true_eq_false, ne_eq, not_true, not_false_iff, Nat.sub_zero, Nat.zero_add, Nat.add_zero, List.drop_zero, List.drop_succ_cons, List.drop_nil, List.take_zero, List.take_succ_cons, List.take_nil, List.set_cons_zero, List.set_cons_succ, List.nil_append, List.cons_append, List.append_nil, List.replicate_zero, List.replicate_succ, BitVec.ofNat_eq_ofNat, Option.some.injEq, AV.int.injEq, AV.u64.injEq, AV.u32.injEq, AV.u8.injEq, AV.bool.injEq, AV.a64.injEq, AV.a32.injEq, AV.a8.injEq, Nat.zero_le, Int.toNat_natCast, e1, cMulF, cAddF, cSubF, cInvF, cFrom, cReduce, cNumber, cOne, cSqr, words_len, mkP_len, mkE_len, val_fM, val_fA, val_fS, val_fI, val_DD, val_o1, val_z0, List.append_assoc, tk4, dp4, dp8, dp12, dp16, tk8, tk12, tkw, dpw, List.length_append, hp, hp0, hp1, hpv0, hpv1, hp2, hp3, hpv2, hpv3]) | exact h)
  · exact h.elim
set_option maxRecDepth 100000 in
set_option maxHeartbeats 1000000 in
theorem sPlainE : Sound Try.prog 55 cPlainE := by
  refine sound_vc (tt := tt) (ct := e1) ttok e1_ok mixed Try.func55 rfl (by decide) (rs := [.cell 2 29]) rfl (ts := [29]) (k := 0) ?_
  intro cas K h
  unfold cPlainE at h
  split at h
  · rename_i p
    rw [Try.ntmps55]
    refine ⟨by simp, ?_⟩
    obtain ⟨hp, h⟩ := h
    simp only [mkE, mkP, plusE, dblE, extE, plainE, fourE, ee, pp] at h
    have hp0 : List.take 4 p = words 4 (q0 p) := part4 (k := 0) (by omega)
    have hp1 : List.take 4 (List.drop 4 p) = words 4 (q1 p) := part4 (k := 4) (by omega)
    have hp2 : List.take 4 (List.drop 8 p) = words 4 (q2 p) := part4 (k := 8) (by omega)
    have hp3 : List.take 4 (List.drop 12 p) = words 4 (q3 p) := part4 (k := 12) (by omega)
    have hpv0 : val (words 4 (q0 p)) = q0 p := val4_of (part4_lt (p := p) (k := 0) (by omega))
    have hpv1 : val (words 4 (q1 p)) = q1 p := val4_of (part4_lt (p := p) (k := 4) (by omega))
    have hpv2 : val (words 4 (q2 p)) = q2 p := val4_of (part4_lt (p := p) (k := 8) (by omega))
    have hpv3 : val (words 4 (q3 p)) = q3 p := val4_of (part4_lt (p := p) (k := 12) (by omega))
    (try simp (maxSteps := 10000000) (implicitDefEqProofs := false) only [↓both_true, ↓both_false, ↓entryVC, ↓vc_skip, ↓vc_draw, ↓vc_list, ↓vc_seq, ↓vc_seqn, ↓vc_seqe, ↓vc_seqr, ↓vc_cond, ↓condVC, ↓vc_block, ↓vc_blockn, ↓vc_blockr, ↓vc_blocke, ↓vc_loop, ↓vc_exit, ↓vc_ret, ↓vc_loopn, ↓vc_loope, ↓vc_loopr, ↓vcl_nil, ↓vcl_cons, ↓lw_eq, ↓listVC, ↓memK, ↓memR, ↓envOf, ↓guardVC, ↓opVC, ↓pureVC, ↓binVC, ↓bin8, ↓bin32, ↓bin64, ↓binInt, ↓shVC, ↓unVC, ↓cvVC, ↓rdVC, ↓loadVC, ↓pickC, ↓fillVC, ↓bndVC, ↓sliceVC, ↓bltVC, ↓storeVC, ↓appVC, ↓apzVC, ↓markVC, ↓copyVC, ↓callVC, ↓argsVC, ↓argVC, ↓bindR, ↓bindR1, ↓bindRs, ↓retW_eq, ↓extW_eq, ↓rowW_eq, ↓aggW_eq, ↓plv_nil, ↓plv_tk, ↓plv_fz, ↓plv_ld, ↓pt_eq, ↓pz_eq, ↓pl_eq, ↓delAll, ↓keepM, ↓extM, ↓leS, ↓leA, ↓retVC, ↓retR, ↓resVC, ↓resV1, ↓ressVC, ↓strU, ↓xAdd64, ↓xSub64, ↓vc_jn, ↓vc_je, ↓vc_jr, ↓pickA, ↓stU_env, ↓stU_mem, both_true, both_false, both_dec, both_ndec, ev, absC, getA, setA, delA, tt, AV.good, AV.plain, AV.isSl, AV.cells, AV.one, Cells.len, Cells.get, Cells.sub, Cells.part, Cells.agg, Cells.upd, Cells.set, Cells.cat, Cells.rep, Cells.ones, TDsc.agg, zOf, putE, dstB, letGo, quietOp, slotOp, pickA, List.append_eq, Int.cast_ofNat_Int, words_len, List.any_cons, List.any_nil, beq_iff_eq, Bool.decide_eq_true, Option.getD_some, Option.getD_none, Option.map_some, Option.map_none, Option.bind_some, Option.isSome_some, Option.isNone_some, Option.isNone_none, Option.isSome_none, ↓reduceIte, Nat.reduceEqDiff, Nat.reduceLT, Nat.reduceLeDiff, Nat.reduceAdd, Nat.reduceSub, Nat.reduceMul, Nat.reduceBEq, Int.reduceLE, Int.reduceLT, Int.reduceToNat, Int.reduceNeg, BitVec.reduceToNat, decide_true, decide_false, and_true, true_and, and_self, Bool.or_true, Bool.true_or, Bool.or_false, Bool.false_or, Bool.not_true, Bool.not_false, List.map_cons, List.map_nil, List.length_cons, List.length_nil, List.getElem?_toArray, List.getElem?_cons_zero, List.getElem?_cons_succ, List.getElem?_nil, forall_const, true_implies, reduceCtorEq, false_and, and_false, false_implies, implies_true, Bool.false_eq_true, Bool.true_eq_false, ne_eq, not_true, not_false_iff, Nat.sub_zero, Nat.zero_add, Nat.add_zero, List.drop_zero, List.drop_succ_cons, List.drop_nil, List.take_zero, List.take_succ_cons, List.take_nil, List.set_cons_zero, List.set_cons_succ, List.nil_append, List.cons_append, List.append_nil, List.replicate_zero, List.replicate_succ, BitVec.ofNat_eq_ofNat, Option.some.injEq, AV.int.injEq, AV.u64.injEq, AV.u32.injEq, AV.u8.injEq, AV.bool.injEq, AV.a64.injEq, AV.a32.injEq, AV.a8.injEq, Nat.zero_le, Int.toNat_natCast, e1, cMulF, cAddF, cSubF, cInvF, cFrom, cReduce, cNumber, cOne, cSqr, words_len, mkP_len, mkE_len, val_fM, val_fA, val_fS, val_fI, val_DD, val_o1, val_z0, List.append_assoc, tk4, dp4, dp8, dp12, dp16, tk8, tk12, tkw, dpw, List.length_append, hp, hp0, hp1, hpv0, hpv1, hp2, hp3, hpv2, hpv3])
    repeat' (first | (intro _) | (refine draw_ _ _ _ [(.tk, 0), (.tk, 1), (.tk, 2), (.tk, 4), (.tk, 5), (.tk, 6), (.ld, 3), (.ld, 7), (.tk, 8), (.ld, 9)] [] [] (by kernel_rfl) ?_; simp (maxSteps := 10000000) (implicitDefEqProofs := false) only [↓both_true, ↓both_false, ↓entryVC, ↓vc_skip, ↓vc_draw, ↓vc_list, ↓vc_seq, ↓vc_seqn, ↓vc_seqe, ↓vc_seqr, ↓vc_cond, ↓condVC, ↓vc_block, ↓vc_blockn, ↓vc_blockr, ↓vc_blocke, ↓vc_loop, ↓vc_exit, ↓vc_ret, ↓vc_loopn, ↓vc_loope, ↓vc_loopr, ↓vcl_nil, ↓vcl_cons, ↓lw_eq, ↓listVC, ↓memK, ↓memR, ↓envOf, ↓guardVC, ↓opVC, ↓pureVC, ↓binVC, ↓bin8, ↓bin32, ↓bin64, ↓binInt, ↓shVC, ↓unVC, ↓cvVC, ↓rdVC, ↓loadVC, ↓pickC, ↓fillVC, ↓bndVC, ↓sliceVC, ↓bltVC, ↓storeVC, ↓appVC, ↓apzVC, ↓markVC, ↓copyVC, ↓callVC, ↓argsVC, ↓argVC, ↓bindR, ↓bindR1, ↓bindRs, ↓retW_eq, ↓extW_eq, ↓rowW_eq, ↓aggW_eq, ↓plv_nil, ↓plv_tk, ↓plv_fz, ↓plv_ld, ↓pt_eq, ↓pz_eq, ↓pl_eq, ↓delAll, ↓keepM, ↓extM, ↓leS, ↓leA, ↓retVC, ↓retR, ↓resVC, ↓resV1, ↓ressVC, ↓strU, ↓xAdd64, ↓xSub64, ↓vc_jn, ↓vc_je, ↓vc_jr, ↓pickA, ↓stU_env, ↓stU_mem, both_true, both_false, both_dec, both_ndec, ev, absC, getA, setA, delA, tt, AV.good, AV.plain, AV.isSl, AV.cells, AV.one, Cells.len, Cells.get, Cells.sub, Cells.part, Cells.agg, Cells.upd, Cells.set, Cells.cat, Cells.rep, Cells.ones, TDsc.agg, zOf, putE, dstB, letGo, quietOp, slotOp, pickA, List.append_eq, Int.cast_ofNat_Int, words_len, List.any_cons, List.any_nil, beq_iff_eq, Bool.decide_eq_true, Option.getD_some, Option.getD_none, Option.map_some, Option.map_none, Option.bind_some, Option.isSome_some, Option.isNone_some, Option.isNone_none, Option.isSome_none, ↓reduceIte, Nat.reduceEqDiff, Nat.reduceLT, Nat.reduceLeDiff, Nat.reduceAdd, Nat.reduceSub, Nat.reduceMul, Nat.reduceBEq, Int.reduceLE, Int.reduceLT, Int.reduceToNat, Int.reduceNeg, BitVec.reduceToNat, decide_true, decide_false, and_true, true_and, and_self, Bool.or_true, Bool.true_or, Bool.or_false, Bool.false_or, Bool.not_true, Bool.not_false, List.map_cons, List.map_nil, List.length_cons, List.length_nil, List.getElem?_toArray, List.getElem?_cons_zero, List.getElem?_cons_succ, List.getElem?_nil, forall_const, true_implies, reduceCtorEq, false_and, and_false, false_implies, implies_true, Bool.false_eq_true, Bool.true_eq_false, ne_eq, not_true, not_false_iff, Nat.sub_zero, Nat.zero_add, Nat.add_zero, List.drop_zero, List.drop_succ_cons, List.drop_nil, List.take_zero, List.take_succ_cons, List.take_nil, List.set_cons_zero, List.set_cons_succ, List.nil_append, List.cons_append, List.append_nil, List.replicate_zero, List.replicate_succ, BitVec.ofNat_eq_ofNat, Option.some.injEq, AV.int.injEq, AV.u64.injEq, AV.u32.injEq, AV.u8.injEq, AV.bool.injEq, AV.a64.injEq, AV.a32.injEq, AV.a8.injEq, Nat.zero_le, Int.toNat_natCast, e1, cMulF, cAddF, cSubF, cInvF, cFrom, cReduce, cNumber, cOne, cSqr, words_len, mkP_len, mkE_len, val_fM, val_fA, val_fS, val_fI, val_DD, val_o1, val_z0, List.append_assoc, tk4, dp4, dp8, dp12, dp16, tk8, tk12, tkw, dpw, List.length_append, hp, hp0, hp1, hpv0, hpv1, hp2, hp3, hpv2, hpv3]) | exact h)
  · exact h.elim
end Go.Proofs.Ytjhfmlnfbmckfaa
