/- Signatures by RSA, by the engine: both sides. -/
import Derived.Test.YtkpbjkhgiackpaaRa
import Derived.Test.YtkpbjkhgiackpaaMe
import Derived.Test.YtkpbjkhgiackpaaBy2
namespace Go.Proofs.Ytkpbjkhgiackpaa
open Go Go.RowKit
set_option linter.unusedVariables false
set_option linter.unusedSimpArgs false

/-- Is it a signature? -/
def vfyB (n e : List U32) (alg : Int) (dg sg : List U8) : Bool :=
  decide (msgE alg dg.length (lgN n : Nat) = 0) && (decide (sg.length ≤ 8192) && (decide (nb sg < nv32 n) && decide (nb sg ^ nv32 e % nv32 n = nb (msgL alg dg (lgN n)))))
/-- What is signed. -/
def sgnV (n d : List U32) (alg : Int) (dg : List U8) : Nat := nb (msgL alg dg (lgN n)) ^ nv32 d % nv32 n
def sgnL (n d : List U32) (alg : Int) (dg : List U8) : List U8 := layL (sgnV n d alg dg) ((blN (sgnV n d alg dg) + 7) / 8)
def cLongR : CT := fun cas K => match cas with
  | [.s (.c32 a)] => a.length ≤ 3000 ∧ K (.one (.v (.int (lgN a : Nat))))
  | _ => False
def cEqB : CT := fun cas K => match cas with
  | [.s (.c8 a), .s (.c8 b)] => K (.one (.v (.bool (decide (a = b)))))
  | _ => False
def cVfy : CT := fun cas K => match cas with
  | [.s (.c32 n), .s (.c32 e), .v (.int alg), .s (.c8 dg), .s (.c8 sg)] => (n.length ≤ 300 ∧ e.length ≤ 300 ∧ dg.length ≤ 20000 ∧ sg.length ≤ 20000) ∧ K (.one (.v (.bool (vfyB n e alg dg sg))))
  | _ => False
def cSgn : CT := fun cas K => match cas with
  | [.s (.c32 n), .s (.c32 e), .s (.c32 d), .v (.int alg), .s (.c8 dg)] => (n.length ≤ 300 ∧ e.length ≤ 300 ∧ d.length ≤ 300 ∧ dg.length ≤ 20000) ∧
    (msgE alg dg.length (lgN n : Nat) ≠ 0 → K (.tup [.s (.c8 []), .v (.int (msgE alg dg.length (lgN n : Nat)))])) ∧
    (msgE alg dg.length (lgN n : Nat) = 0 → vfyB n e alg dg (sgnL n d alg dg) = false → K (.tup [.s (.c8 []), .v (.int 18)])) ∧
    (msgE alg dg.length (lgN n : Nat) = 0 → vfyB n e alg dg (sgnL n d alg dg) = true → K (.tup [.al (.c8 (sgnL n d alg dg)), .v (.int 0)]))
  | _ => False
theorem sgnGe (a b : Nat) : 0 ≤ sgn a b ↔ b ≤ a := by unfold sgn; split <;> (try split) <;> simp <;> omega
/-- What a message tells of the modulus. -/
theorem msgE_ok {alg : Int} {dl : Nat} {k : Int} (h : msgE alg dl k = 0) : okA alg ∧ dl = szA alg ∧ k ≤ 8192 ∧ pfl alg + dl + 11 ≤ k := by
  unfold msgE at h
  split at h
  · cases h
  · rename_i ho
    split at h
    · cases h
    · rename_i hd
      split at h
      · cases h
      · exact ⟨Decidable.not_not.1 ho, Decidable.not_not.1 hd, by omega, by omega⟩
theorem lg_pos {n : List U32} {alg : Int} {dl : Nat} (h : msgE alg dl (lgN n : Nat) = 0) : nv32 n ≠ 0 := fun h0 => by
  have h1 := (msgE_ok h).2.2.2
  have h2 : lgN n = 0 := by unfold lgN; rw [h0]; rfl
  rw [h2] at h1
  omega
theorem lg_le {a : List U32} {n : Nat} (h : a.length ≤ n) : lgN a ≤ 4 * n + 1 := by
  have := bl_le3 h
  unfold lgN; omega
theorem bl_mono {a b : Nat} (h : a ≤ b) : blN a ≤ blN b := blN_le (Nat.lt_of_le_of_lt h (blN_lt b))
theorem lg_mono {a b : List U32} (h : nv32 a ≤ nv32 b) : lgN a ≤ lgN b := by
  have := bl_mono h
  unfold lgN; omega
theorem lay_eq {v : Nat} {m : List U8} (h : v < 256 ^ m.length) : layL v m.length = m ↔ v = nb m := by
  constructor
  · intro e
    have := congrArg nb e
    rw [nb_layL2, Nat.mod_eq_of_lt h] at this
    exact this
  · intro e
    rw [e, layL_nb]
theorem lt_lg (n : List U32) : nv32 n < 256 ^ lgN n := by
  refine Nat.lt_of_lt_of_le (blN_lt (nv32 n)) ?_
  rw [show (256 : Nat) = 2 ^ 8 from rfl, ← Nat.pow_mul]
  exact Nat.pow_le_pow_right (by decide) (by unfold lgN; omega)
theorem vfy_no1 {n e : List U32} {alg : Int} {dg sg : List U8} (h : msgE alg dg.length (lgN n : Nat) ≠ 0) : vfyB n e alg dg sg = false := by unfold vfyB; rw [decide_eq_false h]; rfl
theorem vfy_no2 {n e : List U32} {alg : Int} {dg sg : List U8} (h : 8192 < sg.length) : vfyB n e alg dg sg = false := by unfold vfyB; rw [decide_eq_false (p := sg.length ≤ 8192) (by omega)]; simp
theorem vfy_no3 {n e : List U32} {alg : Int} {dg sg : List U8} (h : nv32 n ≤ nb sg) : vfyB n e alg dg sg = false := by unfold vfyB; rw [decide_eq_false (p := nb sg < nv32 n) (by omega)]; simp
theorem vfy_is {n e : List U32} {alg : Int} {dg sg : List U8} (h1 : msgE alg dg.length (lgN n : Nat) = 0) (h2 : sg.length ≤ 8192) (h3 : nb sg < nv32 n) : vfyB n e alg dg sg = decide (nb sg ^ nv32 e % nv32 n = nb (msgL alg dg (lgN n))) := by
  unfold vfyB; rw [decide_eq_true h1, decide_eq_true h2, decide_eq_true h3]; rfl
def rb0 : CTab := fun F => match F with
  | 29 => .fn cBits
  | 84 => .fn cBits
  | _ => .fn noCT
theorem rb0_ok : CTok Try.prog rb0 := by
  intro F
  unfold rb0
  split
  · exact sBitsN
  · exact sBitsR
  · exact sound_none _ _
set_option maxRecDepth 100000 in
set_option maxHeartbeats 1000000 in
theorem sLongP : Sound Try.prog 108 cLongR := by
  refine sound_vc (tt := tt) (ct := rb0) ttok rb0_ok mixed Try.func108 rfl (by decide) (rs := [.tmp 2]) rfl (ts := [3]) (k := 0) ?_
  intro cas K h
  unfold cLongR at h
  split at h
  · rename_i a
    rw [Try.ntmps108]
    refine ⟨by simp, ?_⟩
    obtain ⟨ha, h⟩ := h
    have hbl := bl_le a
    simp (maxSteps := 10000000) (implicitDefEqProofs := false) only [↓both_true, ↓both_false, ↓entryVC, ↓vc_skip, ↓vc_draw, ↓vc_list, ↓vc_seq, ↓vc_seqn, ↓vc_seqe, ↓vc_seqr, ↓vc_cond, ↓condVC, ↓vc_block, ↓vc_blockn, ↓vc_blockr, ↓vc_blocke, ↓vc_loop, ↓vc_exit, ↓vc_ret, ↓vc_loopn, ↓vc_loope, ↓vc_loopr, ↓vcl_nil, ↓vcl_cons, ↓lw_eq, ↓listVC, ↓memK, ↓memR, ↓envOf, ↓guardVC, ↓opVC, ↓pureVC, ↓binT, ↓wrapT, ↓TDsc.isW, ↓binW, ↓binVC, ↓bin8, ↓bin32, ↓bin64, ↓binInt, ↓shVC, ↓unVC, ↓cvVC, ↓rdVC, ↓loadVC, ↓pickC, ↓fillVC, ↓bndVC, ↓sliceVC, ↓bltVC, ↓storeVC, ↓appVC, ↓apzVC, ↓markVC, ↓copyVC, ↓callVC, ↓argsVC, ↓argVC, ↓bindR, ↓bindR1, ↓bindRs, ↓retW_eq, ↓extW_eq, ↓rowW_eq, ↓aggW_eq, ↓plv_nil, ↓plv_tk, ↓plv_fz, ↓plv_ld, ↓pt_eq, ↓pz_eq, ↓pl_eq, ↓delAll, ↓keepM_nil, ↓keepM, ↓extE, ↓extM, ↓leS, ↓leA, ↓retVC, ↓retR, ↓resVC, ↓resV1, ↓ressVC, ↓strU, ↓xAdd64, ↓xSub64, ↓vc_jn, ↓vc_je, ↓vc_jr, ↓pickA, ↓stU_env, ↓stU_mem, frz, frzs, both_true, both_false, both_dec, both_ndec, ev, absC, getA, setA, delA, tt, AV.good, AV.plain, AV.isSl, AV.cells, AV.one, Cells.len, Cells.get, Cells.sub, Cells.part, Cells.agg, Cells.upd, Cells.set, Cells.cat, Cells.rep, Cells.ones, TDsc.agg, zOf, putE, dstB, letGo, quietOp, slotOp, pickA, true_or, or_true, List.append_eq, Int.cast_ofNat_Int, List.any_cons, List.any_nil, beq_iff_eq, Bool.decide_eq_true, Option.getD_some, Option.getD_none, Option.map_some, Option.map_none, Option.bind_some, Option.isSome_some, Option.isNone_some, Option.isNone_none, Option.isSome_none, ↓reduceIte, Nat.reduceEqDiff, Nat.reduceLT, Nat.reduceLeDiff, Nat.reduceAdd, Nat.reduceSub, Nat.reduceMul, Nat.reduceBEq, Int.reduceLE, Int.reduceLT, Int.reduceToNat, Int.reduceNeg, BitVec.reduceToNat, decide_true, decide_false, and_true, true_and, and_self, Bool.or_true, Bool.true_or, Bool.or_false, Bool.false_or, Bool.not_true, Bool.not_false, List.map_cons, List.map_nil, List.length_cons, List.length_nil, List.getElem?_toArray, List.getElem?_cons_zero, List.getElem?_cons_succ, List.getElem?_nil, forall_const, true_implies, reduceCtorEq, false_and, and_false, false_implies, implies_true, Bool.false_eq_true, Bool.true_eq_false, ne_eq, not_true, not_false_iff, Nat.sub_zero, Nat.zero_add, Nat.add_zero, List.drop_zero, List.drop_succ_cons, List.drop_nil, List.take_zero, List.take_succ_cons, List.take_nil, List.set_cons_zero, List.set_cons_succ, List.nil_append, List.cons_append, List.append_nil, List.replicate_zero, List.replicate_succ, BitVec.ofNat_eq_ofNat, Option.some.injEq, AV.int.injEq, AV.u64.injEq, AV.u32.injEq, AV.u8.injEq, AV.bool.injEq, AV.a64.injEq, AV.a32.injEq, AV.a8.injEq, Nat.zero_le, Int.toNat_natCast, rb0, cBits, List.getD_cons_zero, Int.reduceEq, Int.reduceNe]
    intro c hc
    refine ⟨by omega, by simp only [intIn]; omega, ⟨by omega, by simp only [intIn]; omega⟩, ?_⟩
    rw [show ((((blN (nv32 a)) : Nat) : Int) + 7) / 8 = ((lgN a : Nat) : Int) by unfold lgN; omega]
    exact h
  · exact h.elim
set_option maxRecDepth 100000 in
set_option maxHeartbeats 1000000 in
theorem sLongR : Sound Try.prog 110 cLongR := by
  refine sound_vc (tt := tt) (ct := rb0) ttok rb0_ok mixed Try.func110 rfl (by decide) (rs := [.tmp 2]) rfl (ts := [3]) (k := 0) ?_
  intro cas K h
  unfold cLongR at h
  split at h
  · rename_i a
    rw [Try.ntmps110]
    refine ⟨by simp, ?_⟩
    obtain ⟨ha, h⟩ := h
    have hbl := bl_le a
    simp (maxSteps := 10000000) (implicitDefEqProofs := false) only [↓both_true, ↓both_false, ↓entryVC, ↓vc_skip, ↓vc_draw, ↓vc_list, ↓vc_seq, ↓vc_seqn, ↓vc_seqe, ↓vc_seqr, ↓vc_cond, ↓condVC, ↓vc_block, ↓vc_blockn, ↓vc_blockr, ↓vc_blocke, ↓vc_loop, ↓vc_exit, ↓vc_ret, ↓vc_loopn, ↓vc_loope, ↓vc_loopr, ↓vcl_nil, ↓vcl_cons, ↓lw_eq, ↓listVC, ↓memK, ↓memR, ↓envOf, ↓guardVC, ↓opVC, ↓pureVC, ↓binT, ↓wrapT, ↓TDsc.isW, ↓binW, ↓binVC, ↓bin8, ↓bin32, ↓bin64, ↓binInt, ↓shVC, ↓unVC, ↓cvVC, ↓rdVC, ↓loadVC, ↓pickC, ↓fillVC, ↓bndVC, ↓sliceVC, ↓bltVC, ↓storeVC, ↓appVC, ↓apzVC, ↓markVC, ↓copyVC, ↓callVC, ↓argsVC, ↓argVC, ↓bindR, ↓bindR1, ↓bindRs, ↓retW_eq, ↓extW_eq, ↓rowW_eq, ↓aggW_eq, ↓plv_nil, ↓plv_tk, ↓plv_fz, ↓plv_ld, ↓pt_eq, ↓pz_eq, ↓pl_eq, ↓delAll, ↓keepM_nil, ↓keepM, ↓extE, ↓extM, ↓leS, ↓leA, ↓retVC, ↓retR, ↓resVC, ↓resV1, ↓ressVC, ↓strU, ↓xAdd64, ↓xSub64, ↓vc_jn, ↓vc_je, ↓vc_jr, ↓pickA, ↓stU_env, ↓stU_mem, frz, frzs, both_true, both_false, both_dec, both_ndec, ev, absC, getA, setA, delA, tt, AV.good, AV.plain, AV.isSl, AV.cells, AV.one, Cells.len, Cells.get, Cells.sub, Cells.part, Cells.agg, Cells.upd, Cells.set, Cells.cat, Cells.rep, Cells.ones, TDsc.agg, zOf, putE, dstB, letGo, quietOp, slotOp, pickA, true_or, or_true, List.append_eq, Int.cast_ofNat_Int, List.any_cons, List.any_nil, beq_iff_eq, Bool.decide_eq_true, Option.getD_some, Option.getD_none, Option.map_some, Option.map_none, Option.bind_some, Option.isSome_some, Option.isNone_some, Option.isNone_none, Option.isSome_none, ↓reduceIte, Nat.reduceEqDiff, Nat.reduceLT, Nat.reduceLeDiff, Nat.reduceAdd, Nat.reduceSub, Nat.reduceMul, Nat.reduceBEq, Int.reduceLE, Int.reduceLT, Int.reduceToNat, Int.reduceNeg, BitVec.reduceToNat, decide_true, decide_false, and_true, true_and, and_self, Bool.or_true, Bool.true_or, Bool.or_false, Bool.false_or, Bool.not_true, Bool.not_false, List.map_cons, List.map_nil, List.length_cons, List.length_nil, List.getElem?_toArray, List.getElem?_cons_zero, List.getElem?_cons_succ, List.getElem?_nil, forall_const, true_implies, reduceCtorEq, false_and, and_false, false_implies, implies_true, Bool.false_eq_true, Bool.true_eq_false, ne_eq, not_true, not_false_iff, Nat.sub_zero, Nat.zero_add, Nat.add_zero, List.drop_zero, List.drop_succ_cons, List.drop_nil, List.take_zero, List.take_succ_cons, List.take_nil, List.set_cons_zero, List.set_cons_succ, List.nil_append, List.cons_append, List.append_nil, List.replicate_zero, List.replicate_succ, BitVec.ofNat_eq_ofNat, Option.some.injEq, AV.int.injEq, AV.u64.injEq, AV.u32.injEq, AV.u8.injEq, AV.bool.injEq, AV.a64.injEq, AV.a32.injEq, AV.a8.injEq, Nat.zero_le, Int.toNat_natCast, rb0, cBits, List.getD_cons_zero, Int.reduceEq, Int.reduceNe]
    intro c hc
    refine ⟨by omega, by simp only [intIn]; omega, ⟨by omega, by simp only [intIn]; omega⟩, ?_⟩
    rw [show ((((blN (nv32 a)) : Nat) : Int) + 7) / 8 = ((lgN a : Nat) : Int) by unfold lgN; omega]
    exact h
  · exact h.elim
set_option maxRecDepth 100000 in
set_option maxHeartbeats 1000000 in
theorem sEqB : Sound Try.prog 109 cEqB := by
  refine sound_vc (tt := tt) (ct := rb0) ttok rb0_ok mixed Try.func109 rfl (by decide) (rs := [.tmp 4]) rfl (ts := [4]) (k := 0) ?_
  intro cas K h
  unfold cEqB at h
  split at h
  · rename_i a b
    rw [Try.ntmps109]
    refine ⟨by simp, ?_⟩
    simp (maxSteps := 10000000) (implicitDefEqProofs := false) only [↓both_true, ↓both_false, ↓entryVC, ↓vc_skip, ↓vc_draw, ↓vc_list, ↓vc_seq, ↓vc_seqn, ↓vc_seqe, ↓vc_seqr, ↓vc_cond, ↓condVC, ↓vc_block, ↓vc_blockn, ↓vc_blockr, ↓vc_blocke, ↓vc_loop, ↓vc_exit, ↓vc_ret, ↓vc_loopn, ↓vc_loope, ↓vc_loopr, ↓vcl_nil, ↓vcl_cons, ↓lw_eq, ↓listVC, ↓memK, ↓memR, ↓envOf, ↓guardVC, ↓opVC, ↓pureVC, ↓binT, ↓wrapT, ↓TDsc.isW, ↓binW, ↓binVC, ↓bin8, ↓bin32, ↓bin64, ↓binInt, ↓shVC, ↓unVC, ↓cvVC, ↓rdVC, ↓loadVC, ↓pickC, ↓fillVC, ↓bndVC, ↓sliceVC, ↓bltVC, ↓storeVC, ↓appVC, ↓apzVC, ↓markVC, ↓copyVC, ↓callVC, ↓argsVC, ↓argVC, ↓bindR, ↓bindR1, ↓bindRs, ↓retW_eq, ↓extW_eq, ↓rowW_eq, ↓aggW_eq, ↓plv_nil, ↓plv_tk, ↓plv_fz, ↓plv_ld, ↓pt_eq, ↓pz_eq, ↓pl_eq, ↓delAll, ↓keepM_nil, ↓keepM, ↓extE, ↓extM, ↓leS, ↓leA, ↓retVC, ↓retR, ↓resVC, ↓resV1, ↓ressVC, ↓strU, ↓xAdd64, ↓xSub64, ↓vc_jn, ↓vc_je, ↓vc_jr, ↓pickA, ↓stU_env, ↓stU_mem, frz, frzs, both_true, both_false, both_dec, both_ndec, ev, absC, getA, setA, delA, tt, AV.good, AV.plain, AV.isSl, AV.cells, AV.one, Cells.len, Cells.get, Cells.sub, Cells.part, Cells.agg, Cells.upd, Cells.set, Cells.cat, Cells.rep, Cells.ones, TDsc.agg, zOf, putE, dstB, letGo, quietOp, slotOp, pickA, true_or, or_true, List.append_eq, Int.cast_ofNat_Int, List.any_cons, List.any_nil, beq_iff_eq, Bool.decide_eq_true, Option.getD_some, Option.getD_none, Option.map_some, Option.map_none, Option.bind_some, Option.isSome_some, Option.isNone_some, Option.isNone_none, Option.isSome_none, ↓reduceIte, Nat.reduceEqDiff, Nat.reduceLT, Nat.reduceLeDiff, Nat.reduceAdd, Nat.reduceSub, Nat.reduceMul, Nat.reduceBEq, Int.reduceLE, Int.reduceLT, Int.reduceToNat, Int.reduceNeg, BitVec.reduceToNat, decide_true, decide_false, and_true, true_and, and_self, Bool.or_true, Bool.true_or, Bool.or_false, Bool.false_or, Bool.not_true, Bool.not_false, List.map_cons, List.map_nil, List.length_cons, List.length_nil, List.getElem?_toArray, List.getElem?_cons_zero, List.getElem?_cons_succ, List.getElem?_nil, forall_const, true_implies, reduceCtorEq, false_and, and_false, false_implies, implies_true, Bool.false_eq_true, Bool.true_eq_false, ne_eq, not_true, not_false_iff, Nat.sub_zero, Nat.zero_add, Nat.add_zero, List.drop_zero, List.drop_succ_cons, List.drop_nil, List.take_zero, List.take_succ_cons, List.take_nil, List.set_cons_zero, List.set_cons_succ, List.nil_append, List.cons_append, List.append_nil, List.replicate_zero, List.replicate_succ, BitVec.ofNat_eq_ofNat, Option.some.injEq, AV.int.injEq, AV.u64.injEq, AV.u32.injEq, AV.u8.injEq, AV.bool.injEq, AV.a64.injEq, AV.a32.injEq, AV.a8.injEq, Nat.zero_le, Int.toNat_natCast, rb0, List.getD_cons_zero, Int.reduceEq, Int.reduceNe]
    intros
    exact h
  · exact h.elim
def rb1 : CTab := fun F => match F with
  | 108 => .fn cLongR
  | 110 => .fn cLongR
  | 109 => .fn cEqB
  | 57 => .fn cMsg
  | 58 => .fn cMsg
  | 65 => .fn cReadN
  | 78 => .fn cReadN
  | 30 => .fn cCmpU
  | 66 => .fn cCmpU
  | 26 => .fn cExpM
  | 27 => .fn cExpM
  | 76 => .fn cFill
  | 64 => .fn cBytes
  | 79 => .fn cBytes
  | _ => .fn noCT
theorem rb1_ok : CTok Try.prog rb1 := by
  intro F
  unfold rb1
  split
  · exact sLongP
  · exact sLongR
  · exact sEqB
  · exact sMsgP
  · exact sMsgR
  · exact sReadN
  · exact sReadR
  · exact sCmpU
  · exact sCmpV
  · exact sExpP
  · exact sExpR
  · exact sFillN
  · exact sBytesN
  · exact sBytesR
  · exact sound_none _ _
set_option maxRecDepth 100000 in
set_option maxHeartbeats 1000000 in
theorem sVfyP : Sound Try.prog 60 cVfy := by
  refine sound_vc (tt := tt) (ct := rb1) ttok rb1_ok mixed Try.func60 rfl (by decide) (rs := [.tmp 10]) rfl (ts := [4]) (k := 0) ?_
  intro cas K h
  unfold cVfy at h
  split at h
  · rename_i n e alg dg sg
    rw [Try.ntmps60]
    refine ⟨by simp, ?_⟩
    obtain ⟨⟨hn, he, hd, hs⟩, h⟩ := h
    by_cases hE : msgE alg dg.length (lgN n : Nat) = 0
    · simp (maxSteps := 10000000) (implicitDefEqProofs := false) only [↓both_true, ↓both_false, ↓entryVC, ↓vc_skip, ↓vc_draw, ↓vc_list, ↓vc_seq, ↓vc_seqn, ↓vc_seqe, ↓vc_seqr, ↓vc_cond, ↓condVC, ↓vc_block, ↓vc_blockn, ↓vc_blockr, ↓vc_blocke, ↓vc_loop, ↓vc_exit, ↓vc_ret, ↓vc_loopn, ↓vc_loope, ↓vc_loopr, ↓vcl_nil, ↓vcl_cons, ↓lw_eq, ↓listVC, ↓memK, ↓memR, ↓envOf, ↓guardVC, ↓opVC, ↓pureVC, ↓binT, ↓wrapT, ↓TDsc.isW, ↓binW, ↓binVC, ↓bin8, ↓bin32, ↓bin64, ↓binInt, ↓shVC, ↓unVC, ↓cvVC, ↓rdVC, ↓loadVC, ↓pickC, ↓fillVC, ↓bndVC, ↓sliceVC, ↓bltVC, ↓storeVC, ↓appVC, ↓apzVC, ↓markVC, ↓copyVC, ↓callVC, ↓argsVC, ↓argVC, ↓bindR, ↓bindR1, ↓bindRs, ↓retW_eq, ↓extW_eq, ↓rowW_eq, ↓aggW_eq, ↓plv_nil, ↓plv_tk, ↓plv_fz, ↓plv_ld, ↓pt_eq, ↓pz_eq, ↓pl_eq, ↓delAll, ↓keepM_nil, ↓keepM, ↓extE, ↓extM, ↓leS, ↓leA, ↓retVC, ↓retR, ↓resVC, ↓resV1, ↓ressVC, ↓strU, ↓xAdd64, ↓xSub64, ↓vc_jn, ↓vc_je, ↓vc_jr, ↓pickA, ↓stU_env, ↓stU_mem, frz, frzs, both_true, both_false, both_dec, both_ndec, ev, absC, getA, setA, delA, tt, AV.good, AV.plain, AV.isSl, AV.cells, AV.one, Cells.len, Cells.get, Cells.sub, Cells.part, Cells.agg, Cells.upd, Cells.set, Cells.cat, Cells.rep, Cells.ones, TDsc.agg, zOf, putE, dstB, letGo, quietOp, slotOp, pickA, true_or, or_true, List.append_eq, Int.cast_ofNat_Int, List.any_cons, List.any_nil, beq_iff_eq, Bool.decide_eq_true, Option.getD_some, Option.getD_none, Option.map_some, Option.map_none, Option.bind_some, Option.isSome_some, Option.isNone_some, Option.isNone_none, Option.isSome_none, ↓reduceIte, Nat.reduceEqDiff, Nat.reduceLT, Nat.reduceLeDiff, Nat.reduceAdd, Nat.reduceSub, Nat.reduceMul, Nat.reduceBEq, Int.reduceLE, Int.reduceLT, Int.reduceToNat, Int.reduceNeg, BitVec.reduceToNat, decide_true, decide_false, and_true, true_and, and_self, Bool.or_true, Bool.true_or, Bool.or_false, Bool.false_or, Bool.not_true, Bool.not_false, List.map_cons, List.map_nil, List.length_cons, List.length_nil, List.getElem?_toArray, List.getElem?_cons_zero, List.getElem?_cons_succ, List.getElem?_nil, forall_const, true_implies, reduceCtorEq, false_and, and_false, false_implies, implies_true, Bool.false_eq_true, Bool.true_eq_false, ne_eq, not_true, not_false_iff, Nat.sub_zero, Nat.zero_add, Nat.add_zero, List.drop_zero, List.drop_succ_cons, List.drop_nil, List.take_zero, List.take_succ_cons, List.take_nil, List.set_cons_zero, List.set_cons_succ, List.nil_append, List.cons_append, List.append_nil, List.replicate_zero, List.replicate_succ, BitVec.ofNat_eq_ofNat, Option.some.injEq, AV.int.injEq, AV.u64.injEq, AV.u32.injEq, AV.u8.injEq, AV.bool.injEq, AV.a64.injEq, AV.a32.injEq, AV.a8.injEq, Nat.zero_le, Int.toNat_natCast, rb1, cLongR, cEqB, cMsg, cReadN, cCmpU, cExpM, cFill, cBytes, List.getD_cons_zero, Int.reduceEq, Int.reduceNe, hE]
      intro _ _ _ _ _ _ _ _
      have hk := lg_le hn
      obtain ⟨_, _, hk3, hk4⟩ := msgE_ok hE
      have hml : (msgL alg dg (lgN n)).length = lgN n := msg_len (by omega)
      have hn0 := lg_pos hE
      refine ⟨by omega, ⟨by omega, by simp only [intIn]; omega⟩, fun _ _ => ⟨fun hs2 => ?_, fun hs2 => ⟨by omega, fun s hsc hsv hsl _ _ => ⟨⟨by omega, by omega⟩, fun hge => ?_, fun hlt => ?_⟩⟩⟩⟩
      · rw [vfy_no2 (by omega)] at h
        exact h
      · rw [vfy_no3 (by rw [← hsv]; exact (sgnGe _ _).1 hge)] at h
        exact h
      · have hlt2 : nv32 s < nv32 n := Nat.lt_of_not_le fun hle => hlt ((sgnGe _ _).2 hle)
        have hsl2 := can_len_lt hsc hlt2
        rw [vfy_is hE (by omega) (by rw [← hsv]; exact hlt2), ← hsv] at h
        refine ⟨⟨by omega, by omega, by omega⟩, fun hz => absurd hz hn0, fun _ r hr hrv hrl _ _ => ?_⟩
        have hrlt : nv32 r < nv32 n := by rw [hrv]; exact Nat.mod_lt _ (by omega)
        have hlg := lg_mono (Nat.le_of_lt hrlt)
        have hlt3 : nv32 r < 256 ^ (msgL alg dg (lgN n)).length := by rw [hml]; exact Nat.lt_trans hrlt (lt_lg n)
        have hle := lay_eq hlt3
        rw [hml] at hle
        refine ⟨⟨by omega, by simp only [intIn]; omega⟩, fun hbad => absurd hbad (by omega), fun _ _ _ _ _ => ?_⟩
        rw [decide_eq_decide.2 (hle.trans (by rw [hrv]))]
        exact h
    · simp (maxSteps := 10000000) (implicitDefEqProofs := false) only [↓both_true, ↓both_false, ↓entryVC, ↓vc_skip, ↓vc_draw, ↓vc_list, ↓vc_seq, ↓vc_seqn, ↓vc_seqe, ↓vc_seqr, ↓vc_cond, ↓condVC, ↓vc_block, ↓vc_blockn, ↓vc_blockr, ↓vc_blocke, ↓vc_loop, ↓vc_exit, ↓vc_ret, ↓vc_loopn, ↓vc_loope, ↓vc_loopr, ↓vcl_nil, ↓vcl_cons, ↓lw_eq, ↓listVC, ↓memK, ↓memR, ↓envOf, ↓guardVC, ↓opVC, ↓pureVC, ↓binT, ↓wrapT, ↓TDsc.isW, ↓binW, ↓binVC, ↓bin8, ↓bin32, ↓bin64, ↓binInt, ↓shVC, ↓unVC, ↓cvVC, ↓rdVC, ↓loadVC, ↓pickC, ↓fillVC, ↓bndVC, ↓sliceVC, ↓bltVC, ↓storeVC, ↓appVC, ↓apzVC, ↓markVC, ↓copyVC, ↓callVC, ↓argsVC, ↓argVC, ↓bindR, ↓bindR1, ↓bindRs, ↓retW_eq, ↓extW_eq, ↓rowW_eq, ↓aggW_eq, ↓plv_nil, ↓plv_tk, ↓plv_fz, ↓plv_ld, ↓pt_eq, ↓pz_eq, ↓pl_eq, ↓delAll, ↓keepM_nil, ↓keepM, ↓extE, ↓extM, ↓leS, ↓leA, ↓retVC, ↓retR, ↓resVC, ↓resV1, ↓ressVC, ↓strU, ↓xAdd64, ↓xSub64, ↓vc_jn, ↓vc_je, ↓vc_jr, ↓pickA, ↓stU_env, ↓stU_mem, frz, frzs, both_true, both_false, both_dec, both_ndec, ev, absC, getA, setA, delA, tt, AV.good, AV.plain, AV.isSl, AV.cells, AV.one, Cells.len, Cells.get, Cells.sub, Cells.part, Cells.agg, Cells.upd, Cells.set, Cells.cat, Cells.rep, Cells.ones, TDsc.agg, zOf, putE, dstB, letGo, quietOp, slotOp, pickA, true_or, or_true, List.append_eq, Int.cast_ofNat_Int, List.any_cons, List.any_nil, beq_iff_eq, Bool.decide_eq_true, Option.getD_some, Option.getD_none, Option.map_some, Option.map_none, Option.bind_some, Option.isSome_some, Option.isNone_some, Option.isNone_none, Option.isSome_none, ↓reduceIte, Nat.reduceEqDiff, Nat.reduceLT, Nat.reduceLeDiff, Nat.reduceAdd, Nat.reduceSub, Nat.reduceMul, Nat.reduceBEq, Int.reduceLE, Int.reduceLT, Int.reduceToNat, Int.reduceNeg, BitVec.reduceToNat, decide_true, decide_false, and_true, true_and, and_self, Bool.or_true, Bool.true_or, Bool.or_false, Bool.false_or, Bool.not_true, Bool.not_false, List.map_cons, List.map_nil, List.length_cons, List.length_nil, List.getElem?_toArray, List.getElem?_cons_zero, List.getElem?_cons_succ, List.getElem?_nil, forall_const, true_implies, reduceCtorEq, false_and, and_false, false_implies, implies_true, Bool.false_eq_true, Bool.true_eq_false, ne_eq, not_true, not_false_iff, Nat.sub_zero, Nat.zero_add, Nat.add_zero, List.drop_zero, List.drop_succ_cons, List.drop_nil, List.take_zero, List.take_succ_cons, List.take_nil, List.set_cons_zero, List.set_cons_succ, List.nil_append, List.cons_append, List.append_nil, List.replicate_zero, List.replicate_succ, BitVec.ofNat_eq_ofNat, Option.some.injEq, AV.int.injEq, AV.u64.injEq, AV.u32.injEq, AV.u8.injEq, AV.bool.injEq, AV.a64.injEq, AV.a32.injEq, AV.a8.injEq, Nat.zero_le, Int.toNat_natCast, rb1, cLongR, cEqB, cMsg, cReadN, cCmpU, cExpM, cFill, cBytes, List.getD_cons_zero, Int.reduceEq, Int.reduceNe, hE]
      intros
      have hk := lg_le hn
      rw [vfy_no1 hE] at h
      exact ⟨by omega, ⟨by omega, by simp only [intIn]; omega⟩, h⟩
  · exact h.elim
set_option maxRecDepth 100000 in
set_option maxHeartbeats 1000000 in
theorem sVfyR : Sound Try.prog 61 cVfy := by
  refine sound_vc (tt := tt) (ct := rb1) ttok rb1_ok mixed Try.func61 rfl (by decide) (rs := [.tmp 10]) rfl (ts := [4]) (k := 0) ?_
  intro cas K h
  unfold cVfy at h
  split at h
  · rename_i n e alg dg sg
    rw [Try.ntmps61]
    refine ⟨by simp, ?_⟩
    obtain ⟨⟨hn, he, hd, hs⟩, h⟩ := h
    by_cases hE : msgE alg dg.length (lgN n : Nat) = 0
    · simp (maxSteps := 10000000) (implicitDefEqProofs := false) only [↓both_true, ↓both_false, ↓entryVC, ↓vc_skip, ↓vc_draw, ↓vc_list, ↓vc_seq, ↓vc_seqn, ↓vc_seqe, ↓vc_seqr, ↓vc_cond, ↓condVC, ↓vc_block, ↓vc_blockn, ↓vc_blockr, ↓vc_blocke, ↓vc_loop, ↓vc_exit, ↓vc_ret, ↓vc_loopn, ↓vc_loope, ↓vc_loopr, ↓vcl_nil, ↓vcl_cons, ↓lw_eq, ↓listVC, ↓memK, ↓memR, ↓envOf, ↓guardVC, ↓opVC, ↓pureVC, ↓binT, ↓wrapT, ↓TDsc.isW, ↓binW, ↓binVC, ↓bin8, ↓bin32, ↓bin64, ↓binInt, ↓shVC, ↓unVC, ↓cvVC, ↓rdVC, ↓loadVC, ↓pickC, ↓fillVC, ↓bndVC, ↓sliceVC, ↓bltVC, ↓storeVC, ↓appVC, ↓apzVC, ↓markVC, ↓copyVC, ↓callVC, ↓argsVC, ↓argVC, ↓bindR, ↓bindR1, ↓bindRs, ↓retW_eq, ↓extW_eq, ↓rowW_eq, ↓aggW_eq, ↓plv_nil, ↓plv_tk, ↓plv_fz, ↓plv_ld, ↓pt_eq, ↓pz_eq, ↓pl_eq, ↓delAll, ↓keepM_nil, ↓keepM, ↓extE, ↓extM, ↓leS, ↓leA, ↓retVC, ↓retR, ↓resVC, ↓resV1, ↓ressVC, ↓strU, ↓xAdd64, ↓xSub64, ↓vc_jn, ↓vc_je, ↓vc_jr, ↓pickA, ↓stU_env, ↓stU_mem, frz, frzs, both_true, both_false, both_dec, both_ndec, ev, absC, getA, setA, delA, tt, AV.good, AV.plain, AV.isSl, AV.cells, AV.one, Cells.len, Cells.get, Cells.sub, Cells.part, Cells.agg, Cells.upd, Cells.set, Cells.cat, Cells.rep, Cells.ones, TDsc.agg, zOf, putE, dstB, letGo, quietOp, slotOp, pickA, true_or, or_true, List.append_eq, Int.cast_ofNat_Int, List.any_cons, List.any_nil, beq_iff_eq, Bool.decide_eq_true, Option.getD_some, Option.getD_none, Option.map_some, Option.map_none, Option.bind_some, Option.isSome_some, Option.isNone_some, Option.isNone_none, Option.isSome_none, ↓reduceIte, Nat.reduceEqDiff, Nat.reduceLT, Nat.reduceLeDiff, Nat.reduceAdd, Nat.reduceSub, Nat.reduceMul, Nat.reduceBEq, Int.reduceLE, Int.reduceLT, Int.reduceToNat, Int.reduceNeg, BitVec.reduceToNat, decide_true, decide_false, and_true, true_and, and_self, Bool.or_true, Bool.true_or, Bool.or_false, Bool.false_or, Bool.not_true, Bool.not_false, List.map_cons, List.map_nil, List.length_cons, List.length_nil, List.getElem?_toArray, List.getElem?_cons_zero, List.getElem?_cons_succ, List.getElem?_nil, forall_const, true_implies, reduceCtorEq, false_and, and_false, false_implies, implies_true, Bool.false_eq_true, Bool.true_eq_false, ne_eq, not_true, not_false_iff, Nat.sub_zero, Nat.zero_add, Nat.add_zero, List.drop_zero, List.drop_succ_cons, List.drop_nil, List.take_zero, List.take_succ_cons, List.take_nil, List.set_cons_zero, List.set_cons_succ, List.nil_append, List.cons_append, List.append_nil, List.replicate_zero, List.replicate_succ, BitVec.ofNat_eq_ofNat, Option.some.injEq, AV.int.injEq, AV.u64.injEq, AV.u32.injEq, AV.u8.injEq, AV.bool.injEq, AV.a64.injEq, AV.a32.injEq, AV.a8.injEq, Nat.zero_le, Int.toNat_natCast, rb1, cLongR, cEqB, cMsg, cReadN, cCmpU, cExpM, cFill, cBytes, List.getD_cons_zero, Int.reduceEq, Int.reduceNe, hE]
      intro _ _ _ _ _ _ _ _
      have hk := lg_le hn
      obtain ⟨_, _, hk3, hk4⟩ := msgE_ok hE
      have hml : (msgL alg dg (lgN n)).length = lgN n := msg_len (by omega)
      have hn0 := lg_pos hE
      refine ⟨by omega, ⟨by omega, by simp only [intIn]; omega⟩, fun _ _ => ⟨fun hs2 => ?_, fun hs2 => ⟨by omega, fun s hsc hsv hsl _ _ => ⟨⟨by omega, by omega⟩, fun hge => ?_, fun hlt => ?_⟩⟩⟩⟩
      · rw [vfy_no2 (by omega)] at h
        exact h
      · rw [vfy_no3 (by rw [← hsv]; exact (sgnGe _ _).1 hge)] at h
        exact h
      · have hlt2 : nv32 s < nv32 n := Nat.lt_of_not_le fun hle => hlt ((sgnGe _ _).2 hle)
        have hsl2 := can_len_lt hsc hlt2
        rw [vfy_is hE (by omega) (by rw [← hsv]; exact hlt2), ← hsv] at h
        refine ⟨⟨by omega, by omega, by omega⟩, fun hz => absurd hz hn0, fun _ r hr hrv hrl _ _ => ?_⟩
        have hrlt : nv32 r < nv32 n := by rw [hrv]; exact Nat.mod_lt _ (by omega)
        refine ⟨by omega, fun x hx hxv hxl _ _ => ⟨⟨by omega, by omega⟩, ?_⟩⟩
        rw [decide_eq_decide.2 ((sgnEq (nv32 r) (nv32 x)).trans (by rw [hrv, hxv]))]
        exact h
    · simp (maxSteps := 10000000) (implicitDefEqProofs := false) only [↓both_true, ↓both_false, ↓entryVC, ↓vc_skip, ↓vc_draw, ↓vc_list, ↓vc_seq, ↓vc_seqn, ↓vc_seqe, ↓vc_seqr, ↓vc_cond, ↓condVC, ↓vc_block, ↓vc_blockn, ↓vc_blockr, ↓vc_blocke, ↓vc_loop, ↓vc_exit, ↓vc_ret, ↓vc_loopn, ↓vc_loope, ↓vc_loopr, ↓vcl_nil, ↓vcl_cons, ↓lw_eq, ↓listVC, ↓memK, ↓memR, ↓envOf, ↓guardVC, ↓opVC, ↓pureVC, ↓binT, ↓wrapT, ↓TDsc.isW, ↓binW, ↓binVC, ↓bin8, ↓bin32, ↓bin64, ↓binInt, ↓shVC, ↓unVC, ↓cvVC, ↓rdVC, ↓loadVC, ↓pickC, ↓fillVC, ↓bndVC, ↓sliceVC, ↓bltVC, ↓storeVC, ↓appVC, ↓apzVC, ↓markVC, ↓copyVC, ↓callVC, ↓argsVC, ↓argVC, ↓bindR, ↓bindR1, ↓bindRs, ↓retW_eq, ↓extW_eq, ↓rowW_eq, ↓aggW_eq, ↓plv_nil, ↓plv_tk, ↓plv_fz, ↓plv_ld, ↓pt_eq, ↓pz_eq, ↓pl_eq, ↓delAll, ↓keepM_nil, ↓keepM, ↓extE, ↓extM, ↓leS, ↓leA, ↓retVC, ↓retR, ↓resVC, ↓resV1, ↓ressVC, ↓strU, ↓xAdd64, ↓xSub64, ↓vc_jn, ↓vc_je, ↓vc_jr, ↓pickA, ↓stU_env, ↓stU_mem, frz, frzs, both_true, both_false, both_dec, both_ndec, ev, absC, getA, setA, delA, tt, AV.good, AV.plain, AV.isSl, AV.cells, AV.one, Cells.len, Cells.get, Cells.sub, Cells.part, Cells.agg, Cells.upd, Cells.set, Cells.cat, Cells.rep, Cells.ones, TDsc.agg, zOf, putE, dstB, letGo, quietOp, slotOp, pickA, true_or, or_true, List.append_eq, Int.cast_ofNat_Int, List.any_cons, List.any_nil, beq_iff_eq, Bool.decide_eq_true, Option.getD_some, Option.getD_none, Option.map_some, Option.map_none, Option.bind_some, Option.isSome_some, Option.isNone_some, Option.isNone_none, Option.isSome_none, ↓reduceIte, Nat.reduceEqDiff, Nat.reduceLT, Nat.reduceLeDiff, Nat.reduceAdd, Nat.reduceSub, Nat.reduceMul, Nat.reduceBEq, Int.reduceLE, Int.reduceLT, Int.reduceToNat, Int.reduceNeg, BitVec.reduceToNat, decide_true, decide_false, and_true, true_and, and_self, Bool.or_true, Bool.true_or, Bool.or_false, Bool.false_or, Bool.not_true, Bool.not_false, List.map_cons, List.map_nil, List.length_cons, List.length_nil, List.getElem?_toArray, List.getElem?_cons_zero, List.getElem?_cons_succ, List.getElem?_nil, forall_const, true_implies, reduceCtorEq, false_and, and_false, false_implies, implies_true, Bool.false_eq_true, Bool.true_eq_false, ne_eq, not_true, not_false_iff, Nat.sub_zero, Nat.zero_add, Nat.add_zero, List.drop_zero, List.drop_succ_cons, List.drop_nil, List.take_zero, List.take_succ_cons, List.take_nil, List.set_cons_zero, List.set_cons_succ, List.nil_append, List.cons_append, List.append_nil, List.replicate_zero, List.replicate_succ, BitVec.ofNat_eq_ofNat, Option.some.injEq, AV.int.injEq, AV.u64.injEq, AV.u32.injEq, AV.u8.injEq, AV.bool.injEq, AV.a64.injEq, AV.a32.injEq, AV.a8.injEq, Nat.zero_le, Int.toNat_natCast, rb1, cLongR, cEqB, cMsg, cReadN, cCmpU, cExpM, cFill, cBytes, List.getD_cons_zero, Int.reduceEq, Int.reduceNe, hE]
      intros
      have hk := lg_le hn
      rw [vfy_no1 hE] at h
      exact ⟨by omega, ⟨by omega, by simp only [intIn]; omega⟩, h⟩
  · exact h.elim
def rb2 : CTab := fun F => match F with
  | 60 => .fn cVfy
  | 61 => .fn cVfy
  | 108 => .fn cLongR
  | 110 => .fn cLongR
  | 109 => .fn cEqB
  | 57 => .fn cMsg
  | 58 => .fn cMsg
  | 65 => .fn cReadN
  | 78 => .fn cReadN
  | 30 => .fn cCmpU
  | 66 => .fn cCmpU
  | 26 => .fn cExpM
  | 27 => .fn cExpM
  | 76 => .fn cFill
  | 64 => .fn cBytes
  | 79 => .fn cBytes
  | _ => .fn noCT
theorem rb2_ok : CTok Try.prog rb2 := by
  intro F
  unfold rb2
  split
  · exact sVfyP
  · exact sVfyR
  · exact sLongP
  · exact sLongR
  · exact sEqB
  · exact sMsgP
  · exact sMsgR
  · exact sReadN
  · exact sReadR
  · exact sCmpU
  · exact sCmpV
  · exact sExpP
  · exact sExpR
  · exact sFillN
  · exact sBytesN
  · exact sBytesR
  · exact sound_none _ _
set_option maxRecDepth 100000 in
set_option maxHeartbeats 1000000 in
theorem sSgnP : Sound Try.prog 62 cSgn := by
  refine sound_vc (tt := tt) (ct := rb2) ttok rb2_ok mixed Try.func62 rfl (by decide) (rs := [.tmp 10, .tmp 11]) rfl (ts := [53, 25]) (k := 0) ?_
  intro cas K h
  unfold cSgn at h
  split at h
  · rename_i n e d alg dg
    rw [Try.ntmps62]
    refine ⟨by simp, ?_⟩
    obtain ⟨⟨hn, he, hd, hdg⟩, h0, h1, h2⟩ := h
    have hk := lg_le hn
    by_cases hE : msgE alg dg.length (lgN n : Nat) = 0
    · obtain ⟨_, _, hk3, hk4⟩ := msgE_ok hE
      have hml : (msgL alg dg (lgN n)).length = lgN n := msg_len (by omega)
      have hn0 : ¬ nv32 n = 0 := lg_pos hE
      simp (maxSteps := 10000000) (implicitDefEqProofs := false) only [↓both_true, ↓both_false, ↓entryVC, ↓vc_skip, ↓vc_draw, ↓vc_list, ↓vc_seq, ↓vc_seqn, ↓vc_seqe, ↓vc_seqr, ↓vc_cond, ↓condVC, ↓vc_block, ↓vc_blockn, ↓vc_blockr, ↓vc_blocke, ↓vc_loop, ↓vc_exit, ↓vc_ret, ↓vc_loopn, ↓vc_loope, ↓vc_loopr, ↓vcl_nil, ↓vcl_cons, ↓lw_eq, ↓listVC, ↓memK, ↓memR, ↓envOf, ↓guardVC, ↓opVC, ↓pureVC, ↓binT, ↓wrapT, ↓TDsc.isW, ↓binW, ↓binVC, ↓bin8, ↓bin32, ↓bin64, ↓binInt, ↓shVC, ↓unVC, ↓cvVC, ↓rdVC, ↓loadVC, ↓pickC, ↓fillVC, ↓bndVC, ↓sliceVC, ↓bltVC, ↓storeVC, ↓appVC, ↓apzVC, ↓markVC, ↓copyVC, ↓callVC, ↓argsVC, ↓argVC, ↓bindR, ↓bindR1, ↓bindRs, ↓retW_eq, ↓extW_eq, ↓rowW_eq, ↓aggW_eq, ↓plv_nil, ↓plv_tk, ↓plv_fz, ↓plv_ld, ↓pt_eq, ↓pz_eq, ↓pl_eq, ↓delAll, ↓keepM_nil, ↓keepM, ↓extE, ↓extM, ↓leS, ↓leA, ↓retVC, ↓retR, ↓resVC, ↓resV1, ↓ressVC, ↓strU, ↓xAdd64, ↓xSub64, ↓vc_jn, ↓vc_je, ↓vc_jr, ↓pickA, ↓stU_env, ↓stU_mem, frz, frzs, both_true, both_false, both_dec, both_ndec, ev, absC, getA, setA, delA, tt, AV.good, AV.plain, AV.isSl, AV.cells, AV.one, Cells.len, Cells.get, Cells.sub, Cells.part, Cells.agg, Cells.upd, Cells.set, Cells.cat, Cells.rep, Cells.ones, TDsc.agg, zOf, putE, dstB, letGo, quietOp, slotOp, pickA, true_or, or_true, List.append_eq, Int.cast_ofNat_Int, List.any_cons, List.any_nil, beq_iff_eq, Bool.decide_eq_true, Option.getD_some, Option.getD_none, Option.map_some, Option.map_none, Option.bind_some, Option.isSome_some, Option.isNone_some, Option.isNone_none, Option.isSome_none, ↓reduceIte, Nat.reduceEqDiff, Nat.reduceLT, Nat.reduceLeDiff, Nat.reduceAdd, Nat.reduceSub, Nat.reduceMul, Nat.reduceBEq, Int.reduceLE, Int.reduceLT, Int.reduceToNat, Int.reduceNeg, BitVec.reduceToNat, decide_true, decide_false, and_true, true_and, and_self, Bool.or_true, Bool.true_or, Bool.or_false, Bool.false_or, Bool.not_true, Bool.not_false, List.map_cons, List.map_nil, List.length_cons, List.length_nil, List.getElem?_toArray, List.getElem?_cons_zero, List.getElem?_cons_succ, List.getElem?_nil, forall_const, true_implies, reduceCtorEq, false_and, and_false, false_implies, implies_true, Bool.false_eq_true, Bool.true_eq_false, ne_eq, not_true, not_false_iff, Nat.sub_zero, Nat.zero_add, Nat.add_zero, List.drop_zero, List.drop_succ_cons, List.drop_nil, List.take_zero, List.take_succ_cons, List.take_nil, List.set_cons_zero, List.set_cons_succ, List.nil_append, List.cons_append, List.append_nil, List.replicate_zero, List.replicate_succ, BitVec.ofNat_eq_ofNat, Option.some.injEq, AV.int.injEq, AV.u64.injEq, AV.u32.injEq, AV.u8.injEq, AV.bool.injEq, AV.a64.injEq, AV.a32.injEq, AV.a8.injEq, Nat.zero_le, Int.toNat_natCast, rb2, cVfy, cLongR, cEqB, cMsg, cReadN, cCmpU, cExpM, cFill, cBytes, List.getD_cons_zero, Int.reduceEq, Int.reduceNe, hE, hn0]
      intro _ _ _ _ _ _ _ _
      refine ⟨by omega, ⟨by omega, by simp only [intIn]; omega⟩, fun _ _ => ⟨by omega, fun x hx hxv hxl _ _ => ⟨⟨by omega, by omega, by omega⟩, fun r hr hrv hrl _ _ => ⟨by omega, fun _ _ => ?_⟩⟩⟩⟩
      have hsv : nv32 r = sgnV n d alg dg := by rw [hrv, hxv]; rfl
      have hL : layL (nv32 r) (lgN r) = sgnL n d alg dg := by unfold sgnL lgN; rw [hsv]
      have hlr := lg_le (n := 300) (a := r) (by omega)
      refine ⟨⟨by omega, by omega, by omega, by rw [layL_len]; omega⟩, ?_⟩
      rw [hL]
      cases hv : vfyB n e alg dg (sgnL n d alg dg)
      · exact h1 hE hv
      · exact h2 hE hv
    · simp (maxSteps := 10000000) (implicitDefEqProofs := false) only [↓both_true, ↓both_false, ↓entryVC, ↓vc_skip, ↓vc_draw, ↓vc_list, ↓vc_seq, ↓vc_seqn, ↓vc_seqe, ↓vc_seqr, ↓vc_cond, ↓condVC, ↓vc_block, ↓vc_blockn, ↓vc_blockr, ↓vc_blocke, ↓vc_loop, ↓vc_exit, ↓vc_ret, ↓vc_loopn, ↓vc_loope, ↓vc_loopr, ↓vcl_nil, ↓vcl_cons, ↓lw_eq, ↓listVC, ↓memK, ↓memR, ↓envOf, ↓guardVC, ↓opVC, ↓pureVC, ↓binT, ↓wrapT, ↓TDsc.isW, ↓binW, ↓binVC, ↓bin8, ↓bin32, ↓bin64, ↓binInt, ↓shVC, ↓unVC, ↓cvVC, ↓rdVC, ↓loadVC, ↓pickC, ↓fillVC, ↓bndVC, ↓sliceVC, ↓bltVC, ↓storeVC, ↓appVC, ↓apzVC, ↓markVC, ↓copyVC, ↓callVC, ↓argsVC, ↓argVC, ↓bindR, ↓bindR1, ↓bindRs, ↓retW_eq, ↓extW_eq, ↓rowW_eq, ↓aggW_eq, ↓plv_nil, ↓plv_tk, ↓plv_fz, ↓plv_ld, ↓pt_eq, ↓pz_eq, ↓pl_eq, ↓delAll, ↓keepM_nil, ↓keepM, ↓extE, ↓extM, ↓leS, ↓leA, ↓retVC, ↓retR, ↓resVC, ↓resV1, ↓ressVC, ↓strU, ↓xAdd64, ↓xSub64, ↓vc_jn, ↓vc_je, ↓vc_jr, ↓pickA, ↓stU_env, ↓stU_mem, frz, frzs, both_true, both_false, both_dec, both_ndec, ev, absC, getA, setA, delA, tt, AV.good, AV.plain, AV.isSl, AV.cells, AV.one, Cells.len, Cells.get, Cells.sub, Cells.part, Cells.agg, Cells.upd, Cells.set, Cells.cat, Cells.rep, Cells.ones, TDsc.agg, zOf, putE, dstB, letGo, quietOp, slotOp, pickA, true_or, or_true, List.append_eq, Int.cast_ofNat_Int, List.any_cons, List.any_nil, beq_iff_eq, Bool.decide_eq_true, Option.getD_some, Option.getD_none, Option.map_some, Option.map_none, Option.bind_some, Option.isSome_some, Option.isNone_some, Option.isNone_none, Option.isSome_none, ↓reduceIte, Nat.reduceEqDiff, Nat.reduceLT, Nat.reduceLeDiff, Nat.reduceAdd, Nat.reduceSub, Nat.reduceMul, Nat.reduceBEq, Int.reduceLE, Int.reduceLT, Int.reduceToNat, Int.reduceNeg, BitVec.reduceToNat, decide_true, decide_false, and_true, true_and, and_self, Bool.or_true, Bool.true_or, Bool.or_false, Bool.false_or, Bool.not_true, Bool.not_false, List.map_cons, List.map_nil, List.length_cons, List.length_nil, List.getElem?_toArray, List.getElem?_cons_zero, List.getElem?_cons_succ, List.getElem?_nil, forall_const, true_implies, reduceCtorEq, false_and, and_false, false_implies, implies_true, Bool.false_eq_true, Bool.true_eq_false, ne_eq, not_true, not_false_iff, Nat.sub_zero, Nat.zero_add, Nat.add_zero, List.drop_zero, List.drop_succ_cons, List.drop_nil, List.take_zero, List.take_succ_cons, List.take_nil, List.set_cons_zero, List.set_cons_succ, List.nil_append, List.cons_append, List.append_nil, List.replicate_zero, List.replicate_succ, BitVec.ofNat_eq_ofNat, Option.some.injEq, AV.int.injEq, AV.u64.injEq, AV.u32.injEq, AV.u8.injEq, AV.bool.injEq, AV.a64.injEq, AV.a32.injEq, AV.a8.injEq, Nat.zero_le, Int.toNat_natCast, rb2, cVfy, cLongR, cEqB, cMsg, cReadN, cCmpU, cExpM, cFill, cBytes, List.getD_cons_zero, Int.reduceEq, Int.reduceNe, hE]
      intros
      exact ⟨by omega, ⟨by omega, by simp only [intIn]; omega⟩, h0 hE⟩
  · exact h.elim
set_option maxRecDepth 100000 in
set_option maxHeartbeats 1000000 in
theorem sSgnR : Sound Try.prog 63 cSgn := by
  refine sound_vc (tt := tt) (ct := rb2) ttok rb2_ok mixed Try.func63 rfl (by decide) (rs := [.tmp 10, .tmp 11]) rfl (ts := [53, 25]) (k := 0) ?_
  intro cas K h
  unfold cSgn at h
  split at h
  · rename_i n e d alg dg
    rw [Try.ntmps63]
    refine ⟨by simp, ?_⟩
    obtain ⟨⟨hn, he, hd, hdg⟩, h0, h1, h2⟩ := h
    have hk := lg_le hn
    by_cases hE : msgE alg dg.length (lgN n : Nat) = 0
    · obtain ⟨_, _, hk3, hk4⟩ := msgE_ok hE
      have hml : (msgL alg dg (lgN n)).length = lgN n := msg_len (by omega)
      have hn0 : ¬ nv32 n = 0 := lg_pos hE
      simp (maxSteps := 10000000) (implicitDefEqProofs := false) only [↓both_true, ↓both_false, ↓entryVC, ↓vc_skip, ↓vc_draw, ↓vc_list, ↓vc_seq, ↓vc_seqn, ↓vc_seqe, ↓vc_seqr, ↓vc_cond, ↓condVC, ↓vc_block, ↓vc_blockn, ↓vc_blockr, ↓vc_blocke, ↓vc_loop, ↓vc_exit, ↓vc_ret, ↓vc_loopn, ↓vc_loope, ↓vc_loopr, ↓vcl_nil, ↓vcl_cons, ↓lw_eq, ↓listVC, ↓memK, ↓memR, ↓envOf, ↓guardVC, ↓opVC, ↓pureVC, ↓binT, ↓wrapT, ↓TDsc.isW, ↓binW, ↓binVC, ↓bin8, ↓bin32, ↓bin64, ↓binInt, ↓shVC, ↓unVC, ↓cvVC, ↓rdVC, ↓loadVC, ↓pickC, ↓fillVC, ↓bndVC, ↓sliceVC, ↓bltVC, ↓storeVC, ↓appVC, ↓apzVC, ↓markVC, ↓copyVC, ↓callVC, ↓argsVC, ↓argVC, ↓bindR, ↓bindR1, ↓bindRs, ↓retW_eq, ↓extW_eq, ↓rowW_eq, ↓aggW_eq, ↓plv_nil, ↓plv_tk, ↓plv_fz, ↓plv_ld, ↓pt_eq, ↓pz_eq, ↓pl_eq, ↓delAll, ↓keepM_nil, ↓keepM, ↓extE, ↓extM, ↓leS, ↓leA, ↓retVC, ↓retR, ↓resVC, ↓resV1, ↓ressVC, ↓strU, ↓xAdd64, ↓xSub64, ↓vc_jn, ↓vc_je, ↓vc_jr, ↓pickA, ↓stU_env, ↓stU_mem, frz, frzs, both_true, both_false, both_dec, both_ndec, ev, absC, getA, setA, delA, tt, AV.good, AV.plain, AV.isSl, AV.cells, AV.one, Cells.len, Cells.get, Cells.sub, Cells.part, Cells.agg, Cells.upd, Cells.set, Cells.cat, Cells.rep, Cells.ones, TDsc.agg, zOf, putE, dstB, letGo, quietOp, slotOp, pickA, true_or, or_true, List.append_eq, Int.cast_ofNat_Int, List.any_cons, List.any_nil, beq_iff_eq, Bool.decide_eq_true, Option.getD_some, Option.getD_none, Option.map_some, Option.map_none, Option.bind_some, Option.isSome_some, Option.isNone_some, Option.isNone_none, Option.isSome_none, ↓reduceIte, Nat.reduceEqDiff, Nat.reduceLT, Nat.reduceLeDiff, Nat.reduceAdd, Nat.reduceSub, Nat.reduceMul, Nat.reduceBEq, Int.reduceLE, Int.reduceLT, Int.reduceToNat, Int.reduceNeg, BitVec.reduceToNat, decide_true, decide_false, and_true, true_and, and_self, Bool.or_true, Bool.true_or, Bool.or_false, Bool.false_or, Bool.not_true, Bool.not_false, List.map_cons, List.map_nil, List.length_cons, List.length_nil, List.getElem?_toArray, List.getElem?_cons_zero, List.getElem?_cons_succ, List.getElem?_nil, forall_const, true_implies, reduceCtorEq, false_and, and_false, false_implies, implies_true, Bool.false_eq_true, Bool.true_eq_false, ne_eq, not_true, not_false_iff, Nat.sub_zero, Nat.zero_add, Nat.add_zero, List.drop_zero, List.drop_succ_cons, List.drop_nil, List.take_zero, List.take_succ_cons, List.take_nil, List.set_cons_zero, List.set_cons_succ, List.nil_append, List.cons_append, List.append_nil, List.replicate_zero, List.replicate_succ, BitVec.ofNat_eq_ofNat, Option.some.injEq, AV.int.injEq, AV.u64.injEq, AV.u32.injEq, AV.u8.injEq, AV.bool.injEq, AV.a64.injEq, AV.a32.injEq, AV.a8.injEq, Nat.zero_le, Int.toNat_natCast, rb2, cVfy, cLongR, cEqB, cMsg, cReadN, cCmpU, cExpM, cFill, cBytes, List.getD_cons_zero, Int.reduceEq, Int.reduceNe, hE, hn0]
      intro _ _ _ _ _ _ _ _
      refine ⟨by omega, ⟨by omega, by simp only [intIn]; omega⟩, fun _ _ => ⟨by omega, fun x hx hxv hxl _ _ => ⟨⟨by omega, by omega, by omega⟩, fun r hr hrv hrl _ _ => ⟨by omega, fun _ _ => ?_⟩⟩⟩⟩
      have hsv : nv32 r = sgnV n d alg dg := by rw [hrv, hxv]; rfl
      have hL : layL (nv32 r) (lgN r) = sgnL n d alg dg := by unfold sgnL lgN; rw [hsv]
      have hlr := lg_le (n := 300) (a := r) (by omega)
      refine ⟨⟨by omega, by omega, by omega, by rw [layL_len]; omega⟩, ?_⟩
      rw [hL]
      cases hv : vfyB n e alg dg (sgnL n d alg dg)
      · exact h1 hE hv
      · exact h2 hE hv
    · simp (maxSteps := 10000000) (implicitDefEqProofs := false) only [↓both_true, ↓both_false, ↓entryVC, ↓vc_skip, ↓vc_draw, ↓vc_list, ↓vc_seq, ↓vc_seqn, ↓vc_seqe, ↓vc_seqr, ↓vc_cond, ↓condVC, ↓vc_block, ↓vc_blockn, ↓vc_blockr, ↓vc_blocke, ↓vc_loop, ↓vc_exit, ↓vc_ret, ↓vc_loopn, ↓vc_loope, ↓vc_loopr, ↓vcl_nil, ↓vcl_cons, ↓lw_eq, ↓listVC, ↓memK, ↓memR, ↓envOf, ↓guardVC, ↓opVC, ↓pureVC, ↓binT, ↓wrapT, ↓TDsc.isW, ↓binW, ↓binVC, ↓bin8, ↓bin32, ↓bin64, ↓binInt, ↓shVC, ↓unVC, ↓cvVC, ↓rdVC, ↓loadVC, ↓pickC, ↓fillVC, ↓bndVC, ↓sliceVC, ↓bltVC, ↓storeVC, ↓appVC, ↓apzVC, ↓markVC, ↓copyVC, ↓callVC, ↓argsVC, ↓argVC, ↓bindR, ↓bindR1, ↓bindRs, ↓retW_eq, ↓extW_eq, ↓rowW_eq, ↓aggW_eq, ↓plv_nil, ↓plv_tk, ↓plv_fz, ↓plv_ld, ↓pt_eq, ↓pz_eq, ↓pl_eq, ↓delAll, ↓keepM_nil, ↓keepM, ↓extE, ↓extM, ↓leS, ↓leA, ↓retVC, ↓retR, ↓resVC, ↓resV1, ↓ressVC, ↓strU, ↓xAdd64, ↓xSub64, ↓vc_jn, ↓vc_je, ↓vc_jr, ↓pickA, ↓stU_env, ↓stU_mem, frz, frzs, both_true, both_false, both_dec, both_ndec, ev, absC, getA, setA, delA, tt, AV.good, AV.plain, AV.isSl, AV.cells, AV.one, Cells.len, Cells.get, Cells.sub, Cells.part, Cells.agg, Cells.upd, Cells.set, Cells.cat, Cells.rep, Cells.ones, TDsc.agg, zOf, putE, dstB, letGo, quietOp, slotOp, pickA, true_or, or_true, List.append_eq, Int.cast_ofNat_Int, List.any_cons, List.any_nil, beq_iff_eq, Bool.decide_eq_true, Option.getD_some, Option.getD_none, Option.map_some, Option.map_none, Option.bind_some, Option.isSome_some, Option.isNone_some, Option.isNone_none, Option.isSome_none, ↓reduceIte, Nat.reduceEqDiff, Nat.reduceLT, Nat.reduceLeDiff, Nat.reduceAdd, Nat.reduceSub, Nat.reduceMul, Nat.reduceBEq, Int.reduceLE, Int.reduceLT, Int.reduceToNat, Int.reduceNeg, BitVec.reduceToNat, decide_true, decide_false, and_true, true_and, and_self, Bool.or_true, Bool.true_or, Bool.or_false, Bool.false_or, Bool.not_true, Bool.not_false, List.map_cons, List.map_nil, List.length_cons, List.length_nil, List.getElem?_toArray, List.getElem?_cons_zero, List.getElem?_cons_succ, List.getElem?_nil, forall_const, true_implies, reduceCtorEq, false_and, and_false, false_implies, implies_true, Bool.false_eq_true, Bool.true_eq_false, ne_eq, not_true, not_false_iff, Nat.sub_zero, Nat.zero_add, Nat.add_zero, List.drop_zero, List.drop_succ_cons, List.drop_nil, List.take_zero, List.take_succ_cons, List.take_nil, List.set_cons_zero, List.set_cons_succ, List.nil_append, List.cons_append, List.append_nil, List.replicate_zero, List.replicate_succ, BitVec.ofNat_eq_ofNat, Option.some.injEq, AV.int.injEq, AV.u64.injEq, AV.u32.injEq, AV.u8.injEq, AV.bool.injEq, AV.a64.injEq, AV.a32.injEq, AV.a8.injEq, Nat.zero_le, Int.toNat_natCast, rb2, cVfy, cLongR, cEqB, cMsg, cReadN, cCmpU, cExpM, cFill, cBytes, List.getD_cons_zero, Int.reduceEq, Int.reduceNe, hE]
      intros
      exact ⟨by omega, ⟨by omega, by simp only [intIn]; omega⟩, h0 hE⟩
  · exact h.elim
end Go.Proofs.Ytkpbjkhgiackpaa
