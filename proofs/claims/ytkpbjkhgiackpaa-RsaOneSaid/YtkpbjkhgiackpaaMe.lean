/- Powers, divisors and inverses, by the engine: both sides. -/
import Derived.Test.YtkpbjkhgiackpaaMx0
namespace Go.Proofs.Ytkpbjkhgiackpaa
open Go Go.RowKit
set_option linter.unusedVariables false
set_option linter.unusedSimpArgs false

def cOneM : CT := fun cas K => match cas with
  | [] => ∀ e, Can32 e → nv32 e = 1 → e.length ≤ 4 → K (.one (.al (.c32 e)))
  | _ => False
def cRed : CT := fun cas K => match cas with
  | [.s (.c32 a), .s (.c32 m)] => (a.length ≤ 3000 ∧ m.length ≤ 3000) ∧ (nv32 m = 0 → K (.tup [.al (.c32 []), .v (.int 1)])) ∧
    (nv32 m ≠ 0 → ∀ r, Can32 r → nv32 r = nv32 a % nv32 m → r.length ≤ m.length → K (.tup [.al (.c32 r), .v (.int 0)]))
  | _ => False
def cMulM : CT := fun cas K => match cas with
  | [.s (.c32 a), .s (.c32 b), .s (.c32 m)] => (a.length ≤ 1500 ∧ b.length ≤ 1500 ∧ m.length ≤ 1500) ∧ (nv32 m = 0 → K (.tup [.al (.c32 []), .v (.int 1)])) ∧
    (nv32 m ≠ 0 → ∀ r, Can32 r → nv32 r = nv32 a * nv32 b % nv32 m → r.length ≤ m.length → K (.tup [.al (.c32 r), .v (.int 0)]))
  | _ => False
def cExpM : CT := fun cas K => match cas with
  | [.s (.c32 a), .s (.c32 n), .s (.c32 m)] => (a.length ≤ 1500 ∧ n.length ≤ 1500 ∧ m.length ≤ 1500) ∧ (nv32 m = 0 → K (.tup [.s (.c32 []), .v (.int 1)])) ∧
    (nv32 m ≠ 0 → ∀ r, Can32 r → nv32 r = nv32 a ^ nv32 n % nv32 m → r.length ≤ m.length → K (.tup [.al (.c32 r), .v (.int 0)]))
  | _ => False
theorem can_len_of {r x : List U32} {n : Nat} (h : Can32 r) (hv : nv32 r ≤ nv32 x) (hx : x.length ≤ n) : r.length ≤ n := Nat.le_trans (can_len h (Nat.lt_of_le_of_lt hv (nv32_lt x))) hx
theorem sgnLt (a b : Nat) : sgn a b < 0 ↔ a < b := by unfold sgn; split <;> (try split) <;> simp <;> omega
theorem sgnEq (a b : Nat) : sgn a b = 0 ↔ a = b := by unfold sgn; split <;> (try split) <;> simp <;> omega
theorem blPos (v : Nat) : (0 : Int) < (blN v : Nat) ↔ 0 < v := by
  unfold blN
  split
  · rename_i h; subst h; simp
  · omega
theorem bl_le3 {a : List U32} {n : Nat} (h : a.length ≤ n) : blN (nv32 a) ≤ 32 * n := Nat.le_trans (bl_le a) (Nat.mul_le_mul_left _ h)
section
variable {ι : Type} {env : Env} {mem : Mem} {I : ι → St} {p : ι → Prop}
/-- No row is one that is read. -/
theorem LeJ.nilr (d n : Nat) (h1 : getA env d = some .nils) (h : LeJ ((d, .ros n Option.none 0 0) :: env) ((n, .ro Option.none 0 (.c32 [])) :: mem) I p) : LeJ env mem I p := fun ds pv w0 W a N hE hM => by
  refine h ds pv w0 W a N ⟨hE.size, hE.defers, fun d' v hd => ?_⟩ (hM.add n _ ⟨Sl.nil W Option.none, Nat.le_refl _, fun k hk => by cases hk⟩ fun l' e' he' hm k hk hk' => by cases hk)
  simp only [getA] at hd
  split at hd
  · rename_i hdd; subst hdd; injection hd with hd; subst hd; exact .inr ((hE.get _ _ h1).resolve_left (by simp))
  · exact hE.get d' v hd
end
def mx0 : CTab := fun F => match F with
  | 68 => .fn cFromR
  | 70 => .fn cDivM
  | 81 => .fn cDivM
  | 33 => .fn cMulU
  | 80 => .fn cMulU
  | 30 => .fn cCmpU
  | 32 => .fn cAddU
  | 69 => .fn cSubN
  | 29 => .fn cBits
  | 84 => .fn cBits
  | 83 => .fn cBit
  | 85 => .fn cBit
  | 64 => .fn cBytes
  | 65 => .fn cReadN
  | 92 => .fn cDigits
  | 91 => .fn cWhole
  | _ => .fn noCT
theorem mx0_ok : CTok Try.prog mx0 := by
  intro F
  unfold mx0
  split
  · exact sFromN
  · exact sDivU
  · exact sDivV
  · exact sMulU
  · exact sMulV
  · exact sCmpU
  · exact sAddU
  · exact sSubN
  · exact sBitsN
  · exact sBitsR
  · exact sBitN
  · exact sBitR
  · exact sBytesN
  · exact sReadN
  · exact sDigits
  · exact sWhole
  · exact sound_none _ _
set_option maxRecDepth 100000 in
set_option maxHeartbeats 1000000 in
theorem sOneM : Sound Try.prog 82 cOneM := by
  refine sound_vc (tt := tt) (ct := mx0) ttok mx0_ok mixed Try.func82 rfl (by decide) (rs := [.tmp 0]) rfl (ts := [23]) (k := 0) ?_
  intro cas K h
  unfold cOneM at h
  split at h
  · skip
    rw [Try.ntmps82]
    refine ⟨by simp, ?_⟩
    simp (maxSteps := 10000000) (implicitDefEqProofs := false) only [↓both_true, ↓both_false, ↓entryVC, ↓vc_skip, ↓vc_draw, ↓vc_list, ↓vc_seq, ↓vc_seqn, ↓vc_seqe, ↓vc_seqr, ↓vc_cond, ↓condVC, ↓vc_block, ↓vc_blockn, ↓vc_blockr, ↓vc_blocke, ↓vc_loop, ↓vc_exit, ↓vc_ret, ↓vc_loopn, ↓vc_loope, ↓vc_loopr, ↓vcl_nil, ↓vcl_cons, ↓lw_eq, ↓listVC, ↓memK, ↓memR, ↓envOf, ↓guardVC, ↓opVC, ↓pureVC, ↓binT, ↓wrapT, ↓TDsc.isW, ↓binW, ↓binVC, ↓bin8, ↓bin32, ↓bin64, ↓binInt, ↓shVC, ↓unVC, ↓cvVC, ↓rdVC, ↓loadVC, ↓pickC, ↓fillVC, ↓bndVC, ↓sliceVC, ↓bltVC, ↓storeVC, ↓appVC, ↓apzVC, ↓markVC, ↓copyVC, ↓callVC, ↓argsVC, ↓argVC, ↓bindR, ↓bindR1, ↓bindRs, ↓retW_eq, ↓extW_eq, ↓rowW_eq, ↓aggW_eq, ↓plv_nil, ↓plv_tk, ↓plv_fz, ↓plv_ld, ↓pt_eq, ↓pz_eq, ↓pl_eq, ↓delAll, ↓keepM_nil, ↓keepM, ↓extE, ↓extM, ↓leS, ↓leA, ↓retVC, ↓retR, ↓resVC, ↓resV1, ↓ressVC, ↓strU, ↓xAdd64, ↓xSub64, ↓vc_jn, ↓vc_je, ↓vc_jr, ↓pickA, ↓stU_env, ↓stU_mem, frz, both_true, both_false, both_dec, both_ndec, ev, absC, getA, setA, delA, tt, AV.good, AV.plain, AV.isSl, AV.cells, AV.one, Cells.len, Cells.get, Cells.sub, Cells.part, Cells.agg, Cells.upd, Cells.set, Cells.cat, Cells.rep, Cells.ones, TDsc.agg, zOf, putE, dstB, letGo, quietOp, slotOp, pickA, true_or, or_true, List.append_eq, Int.cast_ofNat_Int, List.any_cons, List.any_nil, beq_iff_eq, Bool.decide_eq_true, Option.getD_some, Option.getD_none, Option.map_some, Option.map_none, Option.bind_some, Option.isSome_some, Option.isNone_some, Option.isNone_none, Option.isSome_none, ↓reduceIte, Nat.reduceEqDiff, Nat.reduceLT, Nat.reduceLeDiff, Nat.reduceAdd, Nat.reduceSub, Nat.reduceMul, Nat.reduceBEq, Int.reduceLE, Int.reduceLT, Int.reduceToNat, Int.reduceNeg, BitVec.reduceToNat, decide_true, decide_false, and_true, true_and, and_self, Bool.or_true, Bool.true_or, Bool.or_false, Bool.false_or, Bool.not_true, Bool.not_false, List.map_cons, List.map_nil, List.length_cons, List.length_nil, List.getElem?_toArray, List.getElem?_cons_zero, List.getElem?_cons_succ, List.getElem?_nil, forall_const, true_implies, reduceCtorEq, false_and, and_false, false_implies, implies_true, Bool.false_eq_true, Bool.true_eq_false, ne_eq, not_true, not_false_iff, Nat.sub_zero, Nat.zero_add, Nat.add_zero, List.drop_zero, List.drop_succ_cons, List.drop_nil, List.take_zero, List.take_succ_cons, List.take_nil, List.set_cons_zero, List.set_cons_succ, List.nil_append, List.cons_append, List.append_nil, List.replicate_zero, List.replicate_succ, BitVec.ofNat_eq_ofNat, Option.some.injEq, AV.int.injEq, AV.u64.injEq, AV.u32.injEq, AV.u8.injEq, AV.bool.injEq, AV.a64.injEq, AV.a32.injEq, AV.a8.injEq, Nat.zero_le, Int.toNat_natCast, mx0, cFromR, cDivM, cMulU, cCmpU, cAddU, cSubN, cBits, cBit, cBytes, cReadN, cDigits, cWhole, List.getD_cons_zero]
    intro e he hev hel c hc
    exact h e he hev hel
  · exact h.elim
set_option maxRecDepth 100000 in
set_option maxHeartbeats 1000000 in
theorem sRedP : Sound Try.prog 23 cRed := by
  refine sound_vc (tt := tt) (ct := mx0) ttok mx0_ok mixed Try.func23 rfl (by decide) (rs := [.tmp 4, .tmp 5]) rfl (ts := [23, 25]) (k := 0) ?_
  intro cas K h
  unfold cRed at h
  split at h
  · rename_i a m
    rw [Try.ntmps23]
    refine ⟨by simp, ?_⟩
    obtain ⟨⟨ha, hm⟩, h0, h1⟩ := h
    simp (maxSteps := 10000000) (implicitDefEqProofs := false) only [↓both_true, ↓both_false, ↓entryVC, ↓vc_skip, ↓vc_draw, ↓vc_list, ↓vc_seq, ↓vc_seqn, ↓vc_seqe, ↓vc_seqr, ↓vc_cond, ↓condVC, ↓vc_block, ↓vc_blockn, ↓vc_blockr, ↓vc_blocke, ↓vc_loop, ↓vc_exit, ↓vc_ret, ↓vc_loopn, ↓vc_loope, ↓vc_loopr, ↓vcl_nil, ↓vcl_cons, ↓lw_eq, ↓listVC, ↓memK, ↓memR, ↓envOf, ↓guardVC, ↓opVC, ↓pureVC, ↓binT, ↓wrapT, ↓TDsc.isW, ↓binW, ↓binVC, ↓bin8, ↓bin32, ↓bin64, ↓binInt, ↓shVC, ↓unVC, ↓cvVC, ↓rdVC, ↓loadVC, ↓pickC, ↓fillVC, ↓bndVC, ↓sliceVC, ↓bltVC, ↓storeVC, ↓appVC, ↓apzVC, ↓markVC, ↓copyVC, ↓callVC, ↓argsVC, ↓argVC, ↓bindR, ↓bindR1, ↓bindRs, ↓retW_eq, ↓extW_eq, ↓rowW_eq, ↓aggW_eq, ↓plv_nil, ↓plv_tk, ↓plv_fz, ↓plv_ld, ↓pt_eq, ↓pz_eq, ↓pl_eq, ↓delAll, ↓keepM_nil, ↓keepM, ↓extE, ↓extM, ↓leS, ↓leA, ↓retVC, ↓retR, ↓resVC, ↓resV1, ↓ressVC, ↓strU, ↓xAdd64, ↓xSub64, ↓vc_jn, ↓vc_je, ↓vc_jr, ↓pickA, ↓stU_env, ↓stU_mem, frz, both_true, both_false, both_dec, both_ndec, ev, absC, getA, setA, delA, tt, AV.good, AV.plain, AV.isSl, AV.cells, AV.one, Cells.len, Cells.get, Cells.sub, Cells.part, Cells.agg, Cells.upd, Cells.set, Cells.cat, Cells.rep, Cells.ones, TDsc.agg, zOf, putE, dstB, letGo, quietOp, slotOp, pickA, true_or, or_true, List.append_eq, Int.cast_ofNat_Int, List.any_cons, List.any_nil, beq_iff_eq, Bool.decide_eq_true, Option.getD_some, Option.getD_none, Option.map_some, Option.map_none, Option.bind_some, Option.isSome_some, Option.isNone_some, Option.isNone_none, Option.isSome_none, ↓reduceIte, Nat.reduceEqDiff, Nat.reduceLT, Nat.reduceLeDiff, Nat.reduceAdd, Nat.reduceSub, Nat.reduceMul, Nat.reduceBEq, Int.reduceLE, Int.reduceLT, Int.reduceToNat, Int.reduceNeg, BitVec.reduceToNat, decide_true, decide_false, and_true, true_and, and_self, Bool.or_true, Bool.true_or, Bool.or_false, Bool.false_or, Bool.not_true, Bool.not_false, List.map_cons, List.map_nil, List.length_cons, List.length_nil, List.getElem?_toArray, List.getElem?_cons_zero, List.getElem?_cons_succ, List.getElem?_nil, forall_const, true_implies, reduceCtorEq, false_and, and_false, false_implies, implies_true, Bool.false_eq_true, Bool.true_eq_false, ne_eq, not_true, not_false_iff, Nat.sub_zero, Nat.zero_add, Nat.add_zero, List.drop_zero, List.drop_succ_cons, List.drop_nil, List.take_zero, List.take_succ_cons, List.take_nil, List.set_cons_zero, List.set_cons_succ, List.nil_append, List.cons_append, List.append_nil, List.replicate_zero, List.replicate_succ, BitVec.ofNat_eq_ofNat, Option.some.injEq, AV.int.injEq, AV.u64.injEq, AV.u32.injEq, AV.u8.injEq, AV.bool.injEq, AV.a64.injEq, AV.a32.injEq, AV.a8.injEq, Nat.zero_le, Int.toNat_natCast, mx0, cFromR, cDivM, cMulU, cCmpU, cAddU, cSubN, cBits, cBit, cBytes, cReadN, cDigits, cWhole, List.getD_cons_zero]
    intro _ _ _ _
    exact ⟨⟨ha, hm⟩, h0, fun hn q r hq hr hqv hrv hql hrl _ _ _ _ => h1 hn r hr hrv hrl⟩
  · exact h.elim
set_option maxRecDepth 100000 in
set_option maxHeartbeats 1000000 in
theorem sRedR : Sound Try.prog 24 cRed := by
  refine sound_vc (tt := tt) (ct := mx0) ttok mx0_ok mixed Try.func24 rfl (by decide) (rs := [.tmp 4, .tmp 5]) rfl (ts := [23, 25]) (k := 0) ?_
  intro cas K h
  unfold cRed at h
  split at h
  · rename_i a m
    rw [Try.ntmps24]
    refine ⟨by simp, ?_⟩
    obtain ⟨⟨ha, hm⟩, h0, h1⟩ := h
    simp (maxSteps := 10000000) (implicitDefEqProofs := false) only [↓both_true, ↓both_false, ↓entryVC, ↓vc_skip, ↓vc_draw, ↓vc_list, ↓vc_seq, ↓vc_seqn, ↓vc_seqe, ↓vc_seqr, ↓vc_cond, ↓condVC, ↓vc_block, ↓vc_blockn, ↓vc_blockr, ↓vc_blocke, ↓vc_loop, ↓vc_exit, ↓vc_ret, ↓vc_loopn, ↓vc_loope, ↓vc_loopr, ↓vcl_nil, ↓vcl_cons, ↓lw_eq, ↓listVC, ↓memK, ↓memR, ↓envOf, ↓guardVC, ↓opVC, ↓pureVC, ↓binT, ↓wrapT, ↓TDsc.isW, ↓binW, ↓binVC, ↓bin8, ↓bin32, ↓bin64, ↓binInt, ↓shVC, ↓unVC, ↓cvVC, ↓rdVC, ↓loadVC, ↓pickC, ↓fillVC, ↓bndVC, ↓sliceVC, ↓bltVC, ↓storeVC, ↓appVC, ↓apzVC, ↓markVC, ↓copyVC, ↓callVC, ↓argsVC, ↓argVC, ↓bindR, ↓bindR1, ↓bindRs, ↓retW_eq, ↓extW_eq, ↓rowW_eq, ↓aggW_eq, ↓plv_nil, ↓plv_tk, ↓plv_fz, ↓plv_ld, ↓pt_eq, ↓pz_eq, ↓pl_eq, ↓delAll, ↓keepM_nil, ↓keepM, ↓extE, ↓extM, ↓leS, ↓leA, ↓retVC, ↓retR, ↓resVC, ↓resV1, ↓ressVC, ↓strU, ↓xAdd64, ↓xSub64, ↓vc_jn, ↓vc_je, ↓vc_jr, ↓pickA, ↓stU_env, ↓stU_mem, frz, both_true, both_false, both_dec, both_ndec, ev, absC, getA, setA, delA, tt, AV.good, AV.plain, AV.isSl, AV.cells, AV.one, Cells.len, Cells.get, Cells.sub, Cells.part, Cells.agg, Cells.upd, Cells.set, Cells.cat, Cells.rep, Cells.ones, TDsc.agg, zOf, putE, dstB, letGo, quietOp, slotOp, pickA, true_or, or_true, List.append_eq, Int.cast_ofNat_Int, List.any_cons, List.any_nil, beq_iff_eq, Bool.decide_eq_true, Option.getD_some, Option.getD_none, Option.map_some, Option.map_none, Option.bind_some, Option.isSome_some, Option.isNone_some, Option.isNone_none, Option.isSome_none, ↓reduceIte, Nat.reduceEqDiff, Nat.reduceLT, Nat.reduceLeDiff, Nat.reduceAdd, Nat.reduceSub, Nat.reduceMul, Nat.reduceBEq, Int.reduceLE, Int.reduceLT, Int.reduceToNat, Int.reduceNeg, BitVec.reduceToNat, decide_true, decide_false, and_true, true_and, and_self, Bool.or_true, Bool.true_or, Bool.or_false, Bool.false_or, Bool.not_true, Bool.not_false, List.map_cons, List.map_nil, List.length_cons, List.length_nil, List.getElem?_toArray, List.getElem?_cons_zero, List.getElem?_cons_succ, List.getElem?_nil, forall_const, true_implies, reduceCtorEq, false_and, and_false, false_implies, implies_true, Bool.false_eq_true, Bool.true_eq_false, ne_eq, not_true, not_false_iff, Nat.sub_zero, Nat.zero_add, Nat.add_zero, List.drop_zero, List.drop_succ_cons, List.drop_nil, List.take_zero, List.take_succ_cons, List.take_nil, List.set_cons_zero, List.set_cons_succ, List.nil_append, List.cons_append, List.append_nil, List.replicate_zero, List.replicate_succ, BitVec.ofNat_eq_ofNat, Option.some.injEq, AV.int.injEq, AV.u64.injEq, AV.u32.injEq, AV.u8.injEq, AV.bool.injEq, AV.a64.injEq, AV.a32.injEq, AV.a8.injEq, Nat.zero_le, Int.toNat_natCast, mx0, cFromR, cDivM, cMulU, cCmpU, cAddU, cSubN, cBits, cBit, cBytes, cReadN, cDigits, cWhole, List.getD_cons_zero]
    intro _ _ _ _
    exact ⟨⟨ha, hm⟩, h0, fun hn q r hq hr hqv hrv hql hrl _ _ _ _ => h1 hn r hr hrv hrl⟩
  · exact h.elim
def mx1 : CTab := fun F => match F with
  | 82 => .fn cOneM
  | 23 => .fn cRed
  | 24 => .fn cRed
  | 68 => .fn cFromR
  | 70 => .fn cDivM
  | 81 => .fn cDivM
  | 33 => .fn cMulU
  | 80 => .fn cMulU
  | 30 => .fn cCmpU
  | 32 => .fn cAddU
  | 69 => .fn cSubN
  | 29 => .fn cBits
  | 84 => .fn cBits
  | 83 => .fn cBit
  | 85 => .fn cBit
  | 64 => .fn cBytes
  | 65 => .fn cReadN
  | 92 => .fn cDigits
  | 91 => .fn cWhole
  | _ => .fn noCT
theorem mx1_ok : CTok Try.prog mx1 := by
  intro F
  unfold mx1
  split
  · exact sOneM
  · exact sRedP
  · exact sRedR
  · exact sFromN
  · exact sDivU
  · exact sDivV
  · exact sMulU
  · exact sMulV
  · exact sCmpU
  · exact sAddU
  · exact sSubN
  · exact sBitsN
  · exact sBitsR
  · exact sBitN
  · exact sBitR
  · exact sBytesN
  · exact sReadN
  · exact sDigits
  · exact sWhole
  · exact sound_none _ _
set_option maxRecDepth 100000 in
set_option maxHeartbeats 1000000 in
theorem sMulP : Sound Try.prog 21 cMulM := by
  refine sound_vc (tt := tt) (ct := mx1) ttok mx1_ok mixed Try.func21 rfl (by decide) (rs := [.tmp 6, .tmp 7]) rfl (ts := [23, 25]) (k := 0) ?_
  intro cas K h
  unfold cMulM at h
  split at h
  · rename_i a b m
    rw [Try.ntmps21]
    refine ⟨by simp, ?_⟩
    obtain ⟨⟨ha, hb, hm⟩, h0, h1⟩ := h
    simp (maxSteps := 10000000) (implicitDefEqProofs := false) only [↓both_true, ↓both_false, ↓entryVC, ↓vc_skip, ↓vc_draw, ↓vc_list, ↓vc_seq, ↓vc_seqn, ↓vc_seqe, ↓vc_seqr, ↓vc_cond, ↓condVC, ↓vc_block, ↓vc_blockn, ↓vc_blockr, ↓vc_blocke, ↓vc_loop, ↓vc_exit, ↓vc_ret, ↓vc_loopn, ↓vc_loope, ↓vc_loopr, ↓vcl_nil, ↓vcl_cons, ↓lw_eq, ↓listVC, ↓memK, ↓memR, ↓envOf, ↓guardVC, ↓opVC, ↓pureVC, ↓binT, ↓wrapT, ↓TDsc.isW, ↓binW, ↓binVC, ↓bin8, ↓bin32, ↓bin64, ↓binInt, ↓shVC, ↓unVC, ↓cvVC, ↓rdVC, ↓loadVC, ↓pickC, ↓fillVC, ↓bndVC, ↓sliceVC, ↓bltVC, ↓storeVC, ↓appVC, ↓apzVC, ↓markVC, ↓copyVC, ↓callVC, ↓argsVC, ↓argVC, ↓bindR, ↓bindR1, ↓bindRs, ↓retW_eq, ↓extW_eq, ↓rowW_eq, ↓aggW_eq, ↓plv_nil, ↓plv_tk, ↓plv_fz, ↓plv_ld, ↓pt_eq, ↓pz_eq, ↓pl_eq, ↓delAll, ↓keepM_nil, ↓keepM, ↓extE, ↓extM, ↓leS, ↓leA, ↓retVC, ↓retR, ↓resVC, ↓resV1, ↓ressVC, ↓strU, ↓xAdd64, ↓xSub64, ↓vc_jn, ↓vc_je, ↓vc_jr, ↓pickA, ↓stU_env, ↓stU_mem, frz, both_true, both_false, both_dec, both_ndec, ev, absC, getA, setA, delA, tt, AV.good, AV.plain, AV.isSl, AV.cells, AV.one, Cells.len, Cells.get, Cells.sub, Cells.part, Cells.agg, Cells.upd, Cells.set, Cells.cat, Cells.rep, Cells.ones, TDsc.agg, zOf, putE, dstB, letGo, quietOp, slotOp, pickA, true_or, or_true, List.append_eq, Int.cast_ofNat_Int, List.any_cons, List.any_nil, beq_iff_eq, Bool.decide_eq_true, Option.getD_some, Option.getD_none, Option.map_some, Option.map_none, Option.bind_some, Option.isSome_some, Option.isNone_some, Option.isNone_none, Option.isSome_none, ↓reduceIte, Nat.reduceEqDiff, Nat.reduceLT, Nat.reduceLeDiff, Nat.reduceAdd, Nat.reduceSub, Nat.reduceMul, Nat.reduceBEq, Int.reduceLE, Int.reduceLT, Int.reduceToNat, Int.reduceNeg, BitVec.reduceToNat, decide_true, decide_false, and_true, true_and, and_self, Bool.or_true, Bool.true_or, Bool.or_false, Bool.false_or, Bool.not_true, Bool.not_false, List.map_cons, List.map_nil, List.length_cons, List.length_nil, List.getElem?_toArray, List.getElem?_cons_zero, List.getElem?_cons_succ, List.getElem?_nil, forall_const, true_implies, reduceCtorEq, false_and, and_false, false_implies, implies_true, Bool.false_eq_true, Bool.true_eq_false, ne_eq, not_true, not_false_iff, Nat.sub_zero, Nat.zero_add, Nat.add_zero, List.drop_zero, List.drop_succ_cons, List.drop_nil, List.take_zero, List.take_succ_cons, List.take_nil, List.set_cons_zero, List.set_cons_succ, List.nil_append, List.cons_append, List.append_nil, List.replicate_zero, List.replicate_succ, BitVec.ofNat_eq_ofNat, Option.some.injEq, AV.int.injEq, AV.u64.injEq, AV.u32.injEq, AV.u8.injEq, AV.bool.injEq, AV.a64.injEq, AV.a32.injEq, AV.a8.injEq, Nat.zero_le, Int.toNat_natCast, mx1, cOneM, cRed, cFromR, cDivM, cMulU, cCmpU, cAddU, cSubN, cBits, cBit, cBytes, cReadN, cDigits, cWhole, List.getD_cons_zero]
    intro _ _ _ _ _ _
    exact ⟨⟨by omega, by omega⟩, fun e he hev hel c hc => ⟨⟨by omega, by omega⟩, h0, fun hn r hr hrv hrl _ _ => h1 hn r hr (by rw [hrv, hev]) hrl⟩⟩
  · exact h.elim
set_option maxRecDepth 100000 in
set_option maxHeartbeats 1000000 in
theorem sMulR5 : Sound Try.prog 22 cMulM := by
  refine sound_vc (tt := tt) (ct := mx1) ttok mx1_ok mixed Try.func22 rfl (by decide) (rs := [.tmp 6, .tmp 7]) rfl (ts := [23, 25]) (k := 0) ?_
  intro cas K h
  unfold cMulM at h
  split at h
  · rename_i a b m
    rw [Try.ntmps22]
    refine ⟨by simp, ?_⟩
    obtain ⟨⟨ha, hb, hm⟩, h0, h1⟩ := h
    simp (maxSteps := 10000000) (implicitDefEqProofs := false) only [↓both_true, ↓both_false, ↓entryVC, ↓vc_skip, ↓vc_draw, ↓vc_list, ↓vc_seq, ↓vc_seqn, ↓vc_seqe, ↓vc_seqr, ↓vc_cond, ↓condVC, ↓vc_block, ↓vc_blockn, ↓vc_blockr, ↓vc_blocke, ↓vc_loop, ↓vc_exit, ↓vc_ret, ↓vc_loopn, ↓vc_loope, ↓vc_loopr, ↓vcl_nil, ↓vcl_cons, ↓lw_eq, ↓listVC, ↓memK, ↓memR, ↓envOf, ↓guardVC, ↓opVC, ↓pureVC, ↓binT, ↓wrapT, ↓TDsc.isW, ↓binW, ↓binVC, ↓bin8, ↓bin32, ↓bin64, ↓binInt, ↓shVC, ↓unVC, ↓cvVC, ↓rdVC, ↓loadVC, ↓pickC, ↓fillVC, ↓bndVC, ↓sliceVC, ↓bltVC, ↓storeVC, ↓appVC, ↓apzVC, ↓markVC, ↓copyVC, ↓callVC, ↓argsVC, ↓argVC, ↓bindR, ↓bindR1, ↓bindRs, ↓retW_eq, ↓extW_eq, ↓rowW_eq, ↓aggW_eq, ↓plv_nil, ↓plv_tk, ↓plv_fz, ↓plv_ld, ↓pt_eq, ↓pz_eq, ↓pl_eq, ↓delAll, ↓keepM_nil, ↓keepM, ↓extE, ↓extM, ↓leS, ↓leA, ↓retVC, ↓retR, ↓resVC, ↓resV1, ↓ressVC, ↓strU, ↓xAdd64, ↓xSub64, ↓vc_jn, ↓vc_je, ↓vc_jr, ↓pickA, ↓stU_env, ↓stU_mem, frz, both_true, both_false, both_dec, both_ndec, ev, absC, getA, setA, delA, tt, AV.good, AV.plain, AV.isSl, AV.cells, AV.one, Cells.len, Cells.get, Cells.sub, Cells.part, Cells.agg, Cells.upd, Cells.set, Cells.cat, Cells.rep, Cells.ones, TDsc.agg, zOf, putE, dstB, letGo, quietOp, slotOp, pickA, true_or, or_true, List.append_eq, Int.cast_ofNat_Int, List.any_cons, List.any_nil, beq_iff_eq, Bool.decide_eq_true, Option.getD_some, Option.getD_none, Option.map_some, Option.map_none, Option.bind_some, Option.isSome_some, Option.isNone_some, Option.isNone_none, Option.isSome_none, ↓reduceIte, Nat.reduceEqDiff, Nat.reduceLT, Nat.reduceLeDiff, Nat.reduceAdd, Nat.reduceSub, Nat.reduceMul, Nat.reduceBEq, Int.reduceLE, Int.reduceLT, Int.reduceToNat, Int.reduceNeg, BitVec.reduceToNat, decide_true, decide_false, and_true, true_and, and_self, Bool.or_true, Bool.true_or, Bool.or_false, Bool.false_or, Bool.not_true, Bool.not_false, List.map_cons, List.map_nil, List.length_cons, List.length_nil, List.getElem?_toArray, List.getElem?_cons_zero, List.getElem?_cons_succ, List.getElem?_nil, forall_const, true_implies, reduceCtorEq, false_and, and_false, false_implies, implies_true, Bool.false_eq_true, Bool.true_eq_false, ne_eq, not_true, not_false_iff, Nat.sub_zero, Nat.zero_add, Nat.add_zero, List.drop_zero, List.drop_succ_cons, List.drop_nil, List.take_zero, List.take_succ_cons, List.take_nil, List.set_cons_zero, List.set_cons_succ, List.nil_append, List.cons_append, List.append_nil, List.replicate_zero, List.replicate_succ, BitVec.ofNat_eq_ofNat, Option.some.injEq, AV.int.injEq, AV.u64.injEq, AV.u32.injEq, AV.u8.injEq, AV.bool.injEq, AV.a64.injEq, AV.a32.injEq, AV.a8.injEq, Nat.zero_le, Int.toNat_natCast, mx1, cOneM, cRed, cFromR, cDivM, cMulU, cCmpU, cAddU, cSubN, cBits, cBit, cBytes, cReadN, cDigits, cWhole, List.getD_cons_zero]
    intro _ _ _ _ _ _
    exact ⟨⟨by omega, by omega⟩, fun e he hev hel c hc => ⟨⟨by omega, by omega⟩, h0, fun hn r hr hrv hrl _ _ => h1 hn r hr (by rw [hrv, hev]) hrl⟩⟩
  · exact h.elim
def mx2 : CTab := fun F => match F with
  | 21 => .fn cMulM
  | 22 => .fn cMulM
  | 82 => .fn cOneM
  | 23 => .fn cRed
  | 24 => .fn cRed
  | 68 => .fn cFromR
  | 70 => .fn cDivM
  | 81 => .fn cDivM
  | 33 => .fn cMulU
  | 80 => .fn cMulU
  | 30 => .fn cCmpU
  | 32 => .fn cAddU
  | 69 => .fn cSubN
  | 29 => .fn cBits
  | 84 => .fn cBits
  | 83 => .fn cBit
  | 85 => .fn cBit
  | 64 => .fn cBytes
  | 65 => .fn cReadN
  | 92 => .fn cDigits
  | 91 => .fn cWhole
  | _ => .fn noCT
theorem mx2_ok : CTok Try.prog mx2 := by
  intro F
  unfold mx2
  split
  · exact sMulP
  · exact sMulR5
  · exact sOneM
  · exact sRedP
  · exact sRedR
  · exact sFromN
  · exact sDivU
  · exact sDivV
  · exact sMulU
  · exact sMulV
  · exact sCmpU
  · exact sAddU
  · exact sSubN
  · exact sBitsN
  · exact sBitsR
  · exact sBitN
  · exact sBitR
  · exact sBytesN
  · exact sReadN
  · exact sDigits
  · exact sWhole
  · exact sound_none _ _
set_option maxRecDepth 100000 in
set_option maxHeartbeats 1000000 in
theorem sExpP : Sound Try.prog 26 cExpM := by
  refine sound_vc (tt := tt) (ct := mx2) ttok mx2_ok mixed Try.func26 rfl (by decide) (rs := [.tmp 6, .tmp 7]) rfl (ts := [23, 25]) (k := 0) ?_
  intro cas K h
  unfold cExpM at h
  split at h
  · rename_i a n m
    rw [Try.ntmps26]
    refine ⟨by simp, ?_⟩
    obtain ⟨⟨ha, hn, hm⟩, h0, h1⟩ := h
    have hbl := bl_le3 hn
    by_cases hm0 : nv32 m = 0
    · simp (maxSteps := 10000000) (implicitDefEqProofs := false) only [↓both_true, ↓both_false, ↓entryVC, ↓vc_skip, ↓vc_draw, ↓vc_list, ↓vc_seq, ↓vc_seqn, ↓vc_seqe, ↓vc_seqr, ↓vc_cond, ↓condVC, ↓vc_block, ↓vc_blockn, ↓vc_blockr, ↓vc_blocke, ↓vc_loop, ↓vc_exit, ↓vc_ret, ↓vc_loopn, ↓vc_loope, ↓vc_loopr, ↓vcl_nil, ↓vcl_cons, ↓lw_eq, ↓listVC, ↓memK, ↓memR, ↓envOf, ↓guardVC, ↓opVC, ↓pureVC, ↓binT, ↓wrapT, ↓TDsc.isW, ↓binW, ↓binVC, ↓bin8, ↓bin32, ↓bin64, ↓binInt, ↓shVC, ↓unVC, ↓cvVC, ↓rdVC, ↓loadVC, ↓pickC, ↓fillVC, ↓bndVC, ↓sliceVC, ↓bltVC, ↓storeVC, ↓appVC, ↓apzVC, ↓markVC, ↓copyVC, ↓callVC, ↓argsVC, ↓argVC, ↓bindR, ↓bindR1, ↓bindRs, ↓retW_eq, ↓extW_eq, ↓rowW_eq, ↓aggW_eq, ↓plv_nil, ↓plv_tk, ↓plv_fz, ↓plv_ld, ↓pt_eq, ↓pz_eq, ↓pl_eq, ↓delAll, ↓keepM_nil, ↓keepM, ↓extE, ↓extM, ↓leS, ↓leA, ↓retVC, ↓retR, ↓resVC, ↓resV1, ↓ressVC, ↓strU, ↓xAdd64, ↓xSub64, ↓vc_jn, ↓vc_je, ↓vc_jr, ↓pickA, ↓stU_env, ↓stU_mem, frz, both_true, both_false, both_dec, both_ndec, ev, absC, getA, setA, delA, tt, AV.good, AV.plain, AV.isSl, AV.cells, AV.one, Cells.len, Cells.get, Cells.sub, Cells.part, Cells.agg, Cells.upd, Cells.set, Cells.cat, Cells.rep, Cells.ones, TDsc.agg, zOf, putE, dstB, letGo, quietOp, slotOp, pickA, true_or, or_true, List.append_eq, Int.cast_ofNat_Int, List.any_cons, List.any_nil, beq_iff_eq, Bool.decide_eq_true, Option.getD_some, Option.getD_none, Option.map_some, Option.map_none, Option.bind_some, Option.isSome_some, Option.isNone_some, Option.isNone_none, Option.isSome_none, ↓reduceIte, Nat.reduceEqDiff, Nat.reduceLT, Nat.reduceLeDiff, Nat.reduceAdd, Nat.reduceSub, Nat.reduceMul, Nat.reduceBEq, Int.reduceLE, Int.reduceLT, Int.reduceToNat, Int.reduceNeg, BitVec.reduceToNat, decide_true, decide_false, and_true, true_and, and_self, Bool.or_true, Bool.true_or, Bool.or_false, Bool.false_or, Bool.not_true, Bool.not_false, List.map_cons, List.map_nil, List.length_cons, List.length_nil, List.getElem?_toArray, List.getElem?_cons_zero, List.getElem?_cons_succ, List.getElem?_nil, forall_const, true_implies, reduceCtorEq, false_and, and_false, false_implies, implies_true, Bool.false_eq_true, Bool.true_eq_false, ne_eq, not_true, not_false_iff, Nat.sub_zero, Nat.zero_add, Nat.add_zero, List.drop_zero, List.drop_succ_cons, List.drop_nil, List.take_zero, List.take_succ_cons, List.take_nil, List.set_cons_zero, List.set_cons_succ, List.nil_append, List.cons_append, List.append_nil, List.replicate_zero, List.replicate_succ, BitVec.ofNat_eq_ofNat, Option.some.injEq, AV.int.injEq, AV.u64.injEq, AV.u32.injEq, AV.u8.injEq, AV.bool.injEq, AV.a64.injEq, AV.a32.injEq, AV.a8.injEq, Nat.zero_le, Int.toNat_natCast, mx2, cMulM, cOneM, cRed, cFromR, cDivM, cMulU, cCmpU, cAddU, cSubN, cBits, cBit, cBytes, cReadN, cDigits, cWhole, List.getD_cons_zero, hm0, Int.reduceEq, Int.reduceNe]
      intros
      exact ⟨⟨by omega, by omega⟩, h0 hm0⟩
    simp (maxSteps := 10000000) (implicitDefEqProofs := false) only [↓both_true, ↓both_false, ↓entryVC, ↓vc_skip, ↓vc_draw, ↓vc_list, ↓vc_seq, ↓vc_seqn, ↓vc_seqe, ↓vc_seqr, ↓vc_cond, ↓condVC, ↓vc_block, ↓vc_blockn, ↓vc_blockr, ↓vc_blocke, ↓vc_loop, ↓vc_exit, ↓vc_ret, ↓vc_loopn, ↓vc_loope, ↓vc_loopr, ↓vcl_nil, ↓vcl_cons, ↓lw_eq, ↓listVC, ↓memK, ↓memR, ↓envOf, ↓guardVC, ↓opVC, ↓pureVC, ↓binT, ↓wrapT, ↓TDsc.isW, ↓binW, ↓binVC, ↓bin8, ↓bin32, ↓bin64, ↓binInt, ↓shVC, ↓unVC, ↓cvVC, ↓rdVC, ↓loadVC, ↓pickC, ↓fillVC, ↓bndVC, ↓sliceVC, ↓bltVC, ↓storeVC, ↓appVC, ↓apzVC, ↓markVC, ↓copyVC, ↓callVC, ↓argsVC, ↓argVC, ↓bindR, ↓bindR1, ↓bindRs, ↓retW_eq, ↓extW_eq, ↓rowW_eq, ↓aggW_eq, ↓plv_nil, ↓plv_tk, ↓plv_fz, ↓plv_ld, ↓pt_eq, ↓pz_eq, ↓pl_eq, ↓delAll, ↓keepM_nil, ↓keepM, ↓extE, ↓extM, ↓leS, ↓leA, ↓retVC, ↓retR, ↓resVC, ↓resV1, ↓ressVC, ↓strU, ↓xAdd64, ↓xSub64, ↓vc_jn, ↓vc_je, ↓vc_jr, ↓pickA, ↓stU_env, ↓stU_mem, frz, both_true, both_false, both_dec, both_ndec, ev, absC, getA, setA, delA, tt, AV.good, AV.plain, AV.isSl, AV.cells, AV.one, Cells.len, Cells.get, Cells.sub, Cells.part, Cells.agg, Cells.upd, Cells.set, Cells.cat, Cells.rep, Cells.ones, TDsc.agg, zOf, putE, dstB, letGo, quietOp, slotOp, pickA, true_or, or_true, List.append_eq, Int.cast_ofNat_Int, List.any_cons, List.any_nil, beq_iff_eq, Bool.decide_eq_true, Option.getD_some, Option.getD_none, Option.map_some, Option.map_none, Option.bind_some, Option.isSome_some, Option.isNone_some, Option.isNone_none, Option.isSome_none, ↓reduceIte, Nat.reduceEqDiff, Nat.reduceLT, Nat.reduceLeDiff, Nat.reduceAdd, Nat.reduceSub, Nat.reduceMul, Nat.reduceBEq, Int.reduceLE, Int.reduceLT, Int.reduceToNat, Int.reduceNeg, BitVec.reduceToNat, decide_true, decide_false, and_true, true_and, and_self, Bool.or_true, Bool.true_or, Bool.or_false, Bool.false_or, Bool.not_true, Bool.not_false, List.map_cons, List.map_nil, List.length_cons, List.length_nil, List.getElem?_toArray, List.getElem?_cons_zero, List.getElem?_cons_succ, List.getElem?_nil, forall_const, true_implies, reduceCtorEq, false_and, and_false, false_implies, implies_true, Bool.false_eq_true, Bool.true_eq_false, ne_eq, not_true, not_false_iff, Nat.sub_zero, Nat.zero_add, Nat.add_zero, List.drop_zero, List.drop_succ_cons, List.drop_nil, List.take_zero, List.take_succ_cons, List.take_nil, List.set_cons_zero, List.set_cons_succ, List.nil_append, List.cons_append, List.append_nil, List.replicate_zero, List.replicate_succ, BitVec.ofNat_eq_ofNat, Option.some.injEq, AV.int.injEq, AV.u64.injEq, AV.u32.injEq, AV.u8.injEq, AV.bool.injEq, AV.a64.injEq, AV.a32.injEq, AV.a8.injEq, Nat.zero_le, Int.toNat_natCast, mx2, cMulM, cOneM, cRed, cFromR, cDivM, cMulU, cCmpU, cAddU, cSubN, cBits, cBit, cBytes, cReadN, cDigits, cWhole, List.getD_cons_zero, hm0, Int.reduceEq, Int.reduceNe]
    intro Aa ca _ An cn _ Am cm _
    refine ⟨⟨by omega, by omega⟩, fun pw hp hpv hpl Ap cp hcp e he hev hel Ae ce hce => ⟨⟨by omega, by omega⟩, fun out ho hov hol Ao co hco => ⟨by omega, ?_⟩⟩⟩
    refine loopU _ _ _ [1, 2, 29] [1, 2] 200 (ι := {s : Nat × (List U32 × Option Addr × Nat) × (List U32 × Option Addr × Nat) // s.1 ≤ blN (nv32 n) ∧ (Can32 s.2.1.1 ∧ s.2.1.1.length ≤ m.length ∧ nv32 s.2.1.1 = nv32 a ^ (nv32 n % 2 ^ s.1) % nv32 m) ∧ s.2.2.1.length ≤ m.length ∧ nv32 s.2.2.1 = nv32 a ^ 2 ^ s.1 % nv32 m}) (fun s => [(30, .int (s.1.1 : Int)), (10, .ros 100 s.1.2.1.2.1 s.1.2.1.1.length s.1.2.1.2.2), (8, .ros 101 s.1.2.2.2.1 s.1.2.2.1.length s.1.2.2.2.2)]) (fun s => [(100, .ro s.1.2.1.2.1 s.1.2.1.2.2 (.c32 s.1.2.1.1)), (101, .ro s.1.2.2.2.1 s.1.2.2.2.2 (.c32 s.1.2.2.1))]) (fun s => blN (nv32 n) - s.1.1) ?_ ?_
    · refine LeJ.rel 10 100 rfl rfl (LeJ.rel 8 101 rfl rfl ?_)
      refine LeJ.mk ⟨(0, (out, Ao, co), (pw, Ap, cp)), Nat.zero_le _, ⟨ho, hol, ?_⟩, hpl, ?_⟩ trivial ?_
      · dsimp only; rw [hov, hev, Nat.pow_zero, Nat.mod_one, Nat.pow_zero]
      · dsimp only; rw [hpv, Nat.pow_zero, Nat.pow_one]
      · simp (maxSteps := 1000000) only [leS, leA, stU_env, stU_mem, pickA, getA, delA, setA, Cells.part, Cells.len, List.take_nil, List.drop_nil, List.length_nil, Nat.zero_add, ↓reduceIte, Nat.reduceEqDiff, Option.some.injEq, List.nil_append, List.cons_append, true_and, and_true, and_self, reduceCtorEq, AV.int.injEq, ME.own.injEq, ME.row.injEq, Cells.c32.injEq, Cells.c64.injEq, Cells.c8.injEq, AV.ptr.injEq, AV.ros.injEq, AV.grow.injEq, AV.u64.injEq, AV.u32.injEq]
        first | done | rfl | trivial | omega | exact ⟨rfl, rfl⟩
    · rintro ⟨⟨i, ⟨o, Ao, co⟩, p, Ap, cp⟩, hi, ⟨hoc, hol, hov⟩, hpl, hpv⟩
      dsimp only at hi hoc hol hov hpl hpv
      simp (maxSteps := 10000000) (implicitDefEqProofs := false) only [↓both_true, ↓both_false, ↓entryVC, ↓vc_skip, ↓vc_draw, ↓vc_list, ↓vc_seq, ↓vc_seqn, ↓vc_seqe, ↓vc_seqr, ↓vc_cond, ↓condVC, ↓vc_block, ↓vc_blockn, ↓vc_blockr, ↓vc_blocke, ↓vc_loop, ↓vc_exit, ↓vc_ret, ↓vc_loopn, ↓vc_loope, ↓vc_loopr, ↓vcl_nil, ↓vcl_cons, ↓lw_eq, ↓listVC, ↓memK, ↓memR, ↓envOf, ↓guardVC, ↓opVC, ↓pureVC, ↓binT, ↓wrapT, ↓TDsc.isW, ↓binW, ↓binVC, ↓bin8, ↓bin32, ↓bin64, ↓binInt, ↓shVC, ↓unVC, ↓cvVC, ↓rdVC, ↓loadVC, ↓pickC, ↓fillVC, ↓bndVC, ↓sliceVC, ↓bltVC, ↓storeVC, ↓appVC, ↓apzVC, ↓markVC, ↓copyVC, ↓callVC, ↓argsVC, ↓argVC, ↓bindR, ↓bindR1, ↓bindRs, ↓retW_eq, ↓extW_eq, ↓rowW_eq, ↓aggW_eq, ↓plv_nil, ↓plv_tk, ↓plv_fz, ↓plv_ld, ↓pt_eq, ↓pz_eq, ↓pl_eq, ↓delAll, ↓keepM_nil, ↓keepM, ↓extE, ↓extM, ↓leS, ↓leA, ↓retVC, ↓retR, ↓resVC, ↓resV1, ↓ressVC, ↓strU, ↓xAdd64, ↓xSub64, ↓vc_jn, ↓vc_je, ↓vc_jr, ↓pickA, ↓stU_env, ↓stU_mem, frz, both_true, both_false, both_dec, both_ndec, ev, absC, getA, setA, delA, tt, AV.good, AV.plain, AV.isSl, AV.cells, AV.one, Cells.len, Cells.get, Cells.sub, Cells.part, Cells.agg, Cells.upd, Cells.set, Cells.cat, Cells.rep, Cells.ones, TDsc.agg, zOf, putE, dstB, letGo, quietOp, slotOp, pickA, true_or, or_true, List.append_eq, Int.cast_ofNat_Int, List.any_cons, List.any_nil, beq_iff_eq, Bool.decide_eq_true, Option.getD_some, Option.getD_none, Option.map_some, Option.map_none, Option.bind_some, Option.isSome_some, Option.isNone_some, Option.isNone_none, Option.isSome_none, ↓reduceIte, Nat.reduceEqDiff, Nat.reduceLT, Nat.reduceLeDiff, Nat.reduceAdd, Nat.reduceSub, Nat.reduceMul, Nat.reduceBEq, Int.reduceLE, Int.reduceLT, Int.reduceToNat, Int.reduceNeg, BitVec.reduceToNat, decide_true, decide_false, and_true, true_and, and_self, Bool.or_true, Bool.true_or, Bool.or_false, Bool.false_or, Bool.not_true, Bool.not_false, List.map_cons, List.map_nil, List.length_cons, List.length_nil, List.getElem?_toArray, List.getElem?_cons_zero, List.getElem?_cons_succ, List.getElem?_nil, forall_const, true_implies, reduceCtorEq, false_and, and_false, false_implies, implies_true, Bool.false_eq_true, Bool.true_eq_false, ne_eq, not_true, not_false_iff, Nat.sub_zero, Nat.zero_add, Nat.add_zero, List.drop_zero, List.drop_succ_cons, List.drop_nil, List.take_zero, List.take_succ_cons, List.take_nil, List.set_cons_zero, List.set_cons_succ, List.nil_append, List.cons_append, List.append_nil, List.replicate_zero, List.replicate_succ, BitVec.ofNat_eq_ofNat, Option.some.injEq, AV.int.injEq, AV.u64.injEq, AV.u32.injEq, AV.u8.injEq, AV.bool.injEq, AV.a64.injEq, AV.a32.injEq, AV.a8.injEq, Nat.zero_le, Int.toNat_natCast, mx2, cMulM, cOneM, cRed, cFromR, cDivM, cMulU, cCmpU, cAddU, cSubN, cBits, cBit, cBytes, cReadN, cDigits, cWhole, List.getD_cons_zero, hm0, Int.reduceEq, Int.reduceNe]
      obtain ⟨s1, s2, s3⟩ := exp_lo (n := nv32 n) (i := i) hov hpv
      have hb := bit_val n i
      refine ⟨fun hlt => ⟨⟨by omega, by simp only [intIn]; omega⟩, fun hb1 => ⟨⟨by omega, by omega, by omega⟩, fun o2 ho2 ho2v ho2l Ao2 co2 _ => ⟨⟨by omega, by omega, by omega⟩, fun p2 hp2 hp2v hp2l Ap2 cp2 _ => ⟨by simp only [intIn]; omega, ?_⟩⟩⟩, fun hb1 => ⟨⟨by omega, by omega, by omega⟩, fun p2 hp2 hp2v hp2l Ap2 cp2 _ => ⟨by simp only [intIn]; omega, ?_⟩⟩⟩, fun hge => ?_⟩
      · refine LeJ.rel 10 100 rfl rfl (LeJ.rel 8 101 rfl rfl ?_)
        refine LeJ.mk ⟨(i + 1, (o2, Ao2, co2), (p2, Ap2, cp2)), by dsimp only; omega, ⟨ho2, ho2l, ?_⟩, hp2l, ?_⟩ (by dsimp only; omega) ?_
        · dsimp only; rw [ho2v]; exact s1 (by omega)
        · dsimp only; rw [hp2v]; exact s3
        · simp (maxSteps := 1000000) only [leS, leA, stU_env, stU_mem, pickA, getA, delA, setA, Cells.part, Cells.len, List.take_nil, List.drop_nil, List.length_nil, Nat.zero_add, ↓reduceIte, Nat.reduceEqDiff, Option.some.injEq, List.nil_append, List.cons_append, true_and, and_true, and_self, reduceCtorEq, AV.int.injEq, ME.own.injEq, ME.row.injEq, Cells.c32.injEq, Cells.c64.injEq, Cells.c8.injEq, AV.ptr.injEq, AV.ros.injEq, AV.grow.injEq, AV.u64.injEq, AV.u32.injEq]
          first | done | rfl | trivial | omega | exact ⟨rfl, rfl⟩
      · refine LeJ.rel 8 101 rfl rfl ?_
        refine LeJ.mk ⟨(i + 1, (o, Ao, co), (p2, Ap2, cp2)), by dsimp only; omega, ⟨hoc, hol, ?_⟩, hp2l, ?_⟩ (by dsimp only; omega) ?_
        · exact s2 (by omega)
        · dsimp only; rw [hp2v]; exact s3
        · simp (maxSteps := 1000000) only [leS, leA, stU_env, stU_mem, pickA, getA, delA, setA, Cells.part, Cells.len, List.take_nil, List.drop_nil, List.length_nil, Nat.zero_add, ↓reduceIte, Nat.reduceEqDiff, Option.some.injEq, List.nil_append, List.cons_append, true_and, and_true, and_self, reduceCtorEq, AV.int.injEq, ME.own.injEq, ME.row.injEq, Cells.c32.injEq, Cells.c64.injEq, Cells.c8.injEq, AV.ptr.injEq, AV.ros.injEq, AV.grow.injEq, AV.u64.injEq, AV.u32.injEq]
          first | done | rfl | trivial | omega | exact ⟨rfl, rfl⟩
      · obtain rfl : i = blN (nv32 n) := by omega
        exact h1 hm0 o hoc (exp_lo_end hov) hol
  · exact h.elim
set_option maxRecDepth 100000 in
set_option maxHeartbeats 1000000 in
theorem sExpR : Sound Try.prog 27 cExpM := by
  refine sound_vc (tt := tt) (ct := mx2) ttok mx2_ok mixed Try.func27 rfl (by decide) (rs := [.tmp 6, .tmp 7]) rfl (ts := [23, 25]) (k := 0) ?_
  intro cas K h
  unfold cExpM at h
  split at h
  · rename_i a n m
    rw [Try.ntmps27]
    refine ⟨by simp, ?_⟩
    obtain ⟨⟨ha, hn, hm⟩, h0, h1⟩ := h
    have hbl := bl_le3 hn
    have e1n : nv32 [1#32] = 1 := rfl
    by_cases hm0 : nv32 m = 0
    · simp (maxSteps := 10000000) (implicitDefEqProofs := false) only [↓both_true, ↓both_false, ↓entryVC, ↓vc_skip, ↓vc_draw, ↓vc_list, ↓vc_seq, ↓vc_seqn, ↓vc_seqe, ↓vc_seqr, ↓vc_cond, ↓condVC, ↓vc_block, ↓vc_blockn, ↓vc_blockr, ↓vc_blocke, ↓vc_loop, ↓vc_exit, ↓vc_ret, ↓vc_loopn, ↓vc_loope, ↓vc_loopr, ↓vcl_nil, ↓vcl_cons, ↓lw_eq, ↓listVC, ↓memK, ↓memR, ↓envOf, ↓guardVC, ↓opVC, ↓pureVC, ↓binT, ↓wrapT, ↓TDsc.isW, ↓binW, ↓binVC, ↓bin8, ↓bin32, ↓bin64, ↓binInt, ↓shVC, ↓unVC, ↓cvVC, ↓rdVC, ↓loadVC, ↓pickC, ↓fillVC, ↓bndVC, ↓sliceVC, ↓bltVC, ↓storeVC, ↓appVC, ↓apzVC, ↓markVC, ↓copyVC, ↓callVC, ↓argsVC, ↓argVC, ↓bindR, ↓bindR1, ↓bindRs, ↓retW_eq, ↓extW_eq, ↓rowW_eq, ↓aggW_eq, ↓plv_nil, ↓plv_tk, ↓plv_fz, ↓plv_ld, ↓pt_eq, ↓pz_eq, ↓pl_eq, ↓delAll, ↓keepM_nil, ↓keepM, ↓extE, ↓extM, ↓leS, ↓leA, ↓retVC, ↓retR, ↓resVC, ↓resV1, ↓ressVC, ↓strU, ↓xAdd64, ↓xSub64, ↓vc_jn, ↓vc_je, ↓vc_jr, ↓pickA, ↓stU_env, ↓stU_mem, frz, both_true, both_false, both_dec, both_ndec, ev, absC, getA, setA, delA, tt, AV.good, AV.plain, AV.isSl, AV.cells, AV.one, Cells.len, Cells.get, Cells.sub, Cells.part, Cells.agg, Cells.upd, Cells.set, Cells.cat, Cells.rep, Cells.ones, TDsc.agg, zOf, putE, dstB, letGo, quietOp, slotOp, pickA, true_or, or_true, List.append_eq, Int.cast_ofNat_Int, List.any_cons, List.any_nil, beq_iff_eq, Bool.decide_eq_true, Option.getD_some, Option.getD_none, Option.map_some, Option.map_none, Option.bind_some, Option.isSome_some, Option.isNone_some, Option.isNone_none, Option.isSome_none, ↓reduceIte, Nat.reduceEqDiff, Nat.reduceLT, Nat.reduceLeDiff, Nat.reduceAdd, Nat.reduceSub, Nat.reduceMul, Nat.reduceBEq, Int.reduceLE, Int.reduceLT, Int.reduceToNat, Int.reduceNeg, BitVec.reduceToNat, decide_true, decide_false, and_true, true_and, and_self, Bool.or_true, Bool.true_or, Bool.or_false, Bool.false_or, Bool.not_true, Bool.not_false, List.map_cons, List.map_nil, List.length_cons, List.length_nil, List.getElem?_toArray, List.getElem?_cons_zero, List.getElem?_cons_succ, List.getElem?_nil, forall_const, true_implies, reduceCtorEq, false_and, and_false, false_implies, implies_true, Bool.false_eq_true, Bool.true_eq_false, ne_eq, not_true, not_false_iff, Nat.sub_zero, Nat.zero_add, Nat.add_zero, List.drop_zero, List.drop_succ_cons, List.drop_nil, List.take_zero, List.take_succ_cons, List.take_nil, List.set_cons_zero, List.set_cons_succ, List.nil_append, List.cons_append, List.append_nil, List.replicate_zero, List.replicate_succ, BitVec.ofNat_eq_ofNat, Option.some.injEq, AV.int.injEq, AV.u64.injEq, AV.u32.injEq, AV.u8.injEq, AV.bool.injEq, AV.a64.injEq, AV.a32.injEq, AV.a8.injEq, Nat.zero_le, Int.toNat_natCast, mx2, cMulM, cOneM, cRed, cFromR, cDivM, cMulU, cCmpU, cAddU, cSubN, cBits, cBit, cBytes, cReadN, cDigits, cWhole, List.getD_cons_zero, hm0, Int.reduceEq, Int.reduceNe]
      intros
      exact ⟨by omega, h0 hm0⟩
    simp (maxSteps := 10000000) (implicitDefEqProofs := false) only [↓both_true, ↓both_false, ↓entryVC, ↓vc_skip, ↓vc_draw, ↓vc_list, ↓vc_seq, ↓vc_seqn, ↓vc_seqe, ↓vc_seqr, ↓vc_cond, ↓condVC, ↓vc_block, ↓vc_blockn, ↓vc_blockr, ↓vc_blocke, ↓vc_loop, ↓vc_exit, ↓vc_ret, ↓vc_loopn, ↓vc_loope, ↓vc_loopr, ↓vcl_nil, ↓vcl_cons, ↓lw_eq, ↓listVC, ↓memK, ↓memR, ↓envOf, ↓guardVC, ↓opVC, ↓pureVC, ↓binT, ↓wrapT, ↓TDsc.isW, ↓binW, ↓binVC, ↓bin8, ↓bin32, ↓bin64, ↓binInt, ↓shVC, ↓unVC, ↓cvVC, ↓rdVC, ↓loadVC, ↓pickC, ↓fillVC, ↓bndVC, ↓sliceVC, ↓bltVC, ↓storeVC, ↓appVC, ↓apzVC, ↓markVC, ↓copyVC, ↓callVC, ↓argsVC, ↓argVC, ↓bindR, ↓bindR1, ↓bindRs, ↓retW_eq, ↓extW_eq, ↓rowW_eq, ↓aggW_eq, ↓plv_nil, ↓plv_tk, ↓plv_fz, ↓plv_ld, ↓pt_eq, ↓pz_eq, ↓pl_eq, ↓delAll, ↓keepM_nil, ↓keepM, ↓extE, ↓extM, ↓leS, ↓leA, ↓retVC, ↓retR, ↓resVC, ↓resV1, ↓ressVC, ↓strU, ↓xAdd64, ↓xSub64, ↓vc_jn, ↓vc_je, ↓vc_jr, ↓pickA, ↓stU_env, ↓stU_mem, frz, both_true, both_false, both_dec, both_ndec, ev, absC, getA, setA, delA, tt, AV.good, AV.plain, AV.isSl, AV.cells, AV.one, Cells.len, Cells.get, Cells.sub, Cells.part, Cells.agg, Cells.upd, Cells.set, Cells.cat, Cells.rep, Cells.ones, TDsc.agg, zOf, putE, dstB, letGo, quietOp, slotOp, pickA, true_or, or_true, List.append_eq, Int.cast_ofNat_Int, List.any_cons, List.any_nil, beq_iff_eq, Bool.decide_eq_true, Option.getD_some, Option.getD_none, Option.map_some, Option.map_none, Option.bind_some, Option.isSome_some, Option.isNone_some, Option.isNone_none, Option.isSome_none, ↓reduceIte, Nat.reduceEqDiff, Nat.reduceLT, Nat.reduceLeDiff, Nat.reduceAdd, Nat.reduceSub, Nat.reduceMul, Nat.reduceBEq, Int.reduceLE, Int.reduceLT, Int.reduceToNat, Int.reduceNeg, BitVec.reduceToNat, decide_true, decide_false, and_true, true_and, and_self, Bool.or_true, Bool.true_or, Bool.or_false, Bool.false_or, Bool.not_true, Bool.not_false, List.map_cons, List.map_nil, List.length_cons, List.length_nil, List.getElem?_toArray, List.getElem?_cons_zero, List.getElem?_cons_succ, List.getElem?_nil, forall_const, true_implies, reduceCtorEq, false_and, and_false, false_implies, implies_true, Bool.false_eq_true, Bool.true_eq_false, ne_eq, not_true, not_false_iff, Nat.sub_zero, Nat.zero_add, Nat.add_zero, List.drop_zero, List.drop_succ_cons, List.drop_nil, List.take_zero, List.take_succ_cons, List.take_nil, List.set_cons_zero, List.set_cons_succ, List.nil_append, List.cons_append, List.append_nil, List.replicate_zero, List.replicate_succ, BitVec.ofNat_eq_ofNat, Option.some.injEq, AV.int.injEq, AV.u64.injEq, AV.u32.injEq, AV.u8.injEq, AV.bool.injEq, AV.a64.injEq, AV.a32.injEq, AV.a8.injEq, Nat.zero_le, Int.toNat_natCast, mx2, cMulM, cOneM, cRed, cFromR, cDivM, cMulU, cCmpU, cAddU, cSubN, cBits, cBit, cBytes, cReadN, cDigits, cWhole, List.getD_cons_zero, hm0, Int.reduceEq, Int.reduceNe]
    intro Aa ca _ An cn _ Am cm _ g
    refine ⟨by omega, fun out ho hov hol Ao co hco => ⟨by omega, by simp only [intIn]; omega, ?_⟩⟩
    refine loopU _ _ _ [0, 1, 2] [0, 1, 2] 200 (ι := {s : Nat × (List U32 × Option Addr × Nat) // s.1 ≤ blN (nv32 n) ∧ (Can32 s.2.1 ∧ s.2.1.length ≤ m.length ∧ nv32 s.2.1 = nv32 a ^ (nv32 n / 2 ^ s.1) % nv32 m)}) (fun s => [(10, .int ((s.1.1 : Int) - 1)), (8, .ros 100 s.1.2.2.1 s.1.2.1.length s.1.2.2.2)]) (fun s => [(100, .ro s.1.2.2.1 s.1.2.2.2 (.c32 s.1.2.1))]) (fun s => s.1.1) ?_ ?_
    · refine LeJ.rel 8 100 rfl rfl ?_
      refine LeJ.mk ⟨(blN (nv32 n), (out, Ao, co)), Nat.le_refl _, ho, hol, ?_⟩ trivial ?_
      · dsimp only; exact exp_hi_start (by rw [hov, e1n])
      · simp (maxSteps := 1000000) only [leS, leA, stU_env, stU_mem, pickA, getA, delA, setA, Cells.part, Cells.len, List.take_nil, List.drop_nil, List.length_nil, Nat.zero_add, ↓reduceIte, Nat.reduceEqDiff, Option.some.injEq, List.nil_append, List.cons_append, true_and, and_true, and_self, reduceCtorEq, AV.int.injEq, ME.own.injEq, ME.row.injEq, Cells.c32.injEq, Cells.c64.injEq, Cells.c8.injEq, AV.ptr.injEq, AV.ros.injEq, AV.grow.injEq, AV.u64.injEq, AV.u32.injEq]
        first | done | rfl | trivial | omega | exact ⟨rfl, rfl⟩
    · rintro ⟨⟨j, ⟨o, Ao, co⟩⟩, hj, hoc, hol, hov⟩
      dsimp only at hj hoc hol hov
      simp (maxSteps := 10000000) (implicitDefEqProofs := false) only [↓both_true, ↓both_false, ↓entryVC, ↓vc_skip, ↓vc_draw, ↓vc_list, ↓vc_seq, ↓vc_seqn, ↓vc_seqe, ↓vc_seqr, ↓vc_cond, ↓condVC, ↓vc_block, ↓vc_blockn, ↓vc_blockr, ↓vc_blocke, ↓vc_loop, ↓vc_exit, ↓vc_ret, ↓vc_loopn, ↓vc_loope, ↓vc_loopr, ↓vcl_nil, ↓vcl_cons, ↓lw_eq, ↓listVC, ↓memK, ↓memR, ↓envOf, ↓guardVC, ↓opVC, ↓pureVC, ↓binT, ↓wrapT, ↓TDsc.isW, ↓binW, ↓binVC, ↓bin8, ↓bin32, ↓bin64, ↓binInt, ↓shVC, ↓unVC, ↓cvVC, ↓rdVC, ↓loadVC, ↓pickC, ↓fillVC, ↓bndVC, ↓sliceVC, ↓bltVC, ↓storeVC, ↓appVC, ↓apzVC, ↓markVC, ↓copyVC, ↓callVC, ↓argsVC, ↓argVC, ↓bindR, ↓bindR1, ↓bindRs, ↓retW_eq, ↓extW_eq, ↓rowW_eq, ↓aggW_eq, ↓plv_nil, ↓plv_tk, ↓plv_fz, ↓plv_ld, ↓pt_eq, ↓pz_eq, ↓pl_eq, ↓delAll, ↓keepM_nil, ↓keepM, ↓extE, ↓extM, ↓leS, ↓leA, ↓retVC, ↓retR, ↓resVC, ↓resV1, ↓ressVC, ↓strU, ↓xAdd64, ↓xSub64, ↓vc_jn, ↓vc_je, ↓vc_jr, ↓pickA, ↓stU_env, ↓stU_mem, frz, both_true, both_false, both_dec, both_ndec, ev, absC, getA, setA, delA, tt, AV.good, AV.plain, AV.isSl, AV.cells, AV.one, Cells.len, Cells.get, Cells.sub, Cells.part, Cells.agg, Cells.upd, Cells.set, Cells.cat, Cells.rep, Cells.ones, TDsc.agg, zOf, putE, dstB, letGo, quietOp, slotOp, pickA, true_or, or_true, List.append_eq, Int.cast_ofNat_Int, List.any_cons, List.any_nil, beq_iff_eq, Bool.decide_eq_true, Option.getD_some, Option.getD_none, Option.map_some, Option.map_none, Option.bind_some, Option.isSome_some, Option.isNone_some, Option.isNone_none, Option.isSome_none, ↓reduceIte, Nat.reduceEqDiff, Nat.reduceLT, Nat.reduceLeDiff, Nat.reduceAdd, Nat.reduceSub, Nat.reduceMul, Nat.reduceBEq, Int.reduceLE, Int.reduceLT, Int.reduceToNat, Int.reduceNeg, BitVec.reduceToNat, decide_true, decide_false, and_true, true_and, and_self, Bool.or_true, Bool.true_or, Bool.or_false, Bool.false_or, Bool.not_true, Bool.not_false, List.map_cons, List.map_nil, List.length_cons, List.length_nil, List.getElem?_toArray, List.getElem?_cons_zero, List.getElem?_cons_succ, List.getElem?_nil, forall_const, true_implies, reduceCtorEq, false_and, and_false, false_implies, implies_true, Bool.false_eq_true, Bool.true_eq_false, ne_eq, not_true, not_false_iff, Nat.sub_zero, Nat.zero_add, Nat.add_zero, List.drop_zero, List.drop_succ_cons, List.drop_nil, List.take_zero, List.take_succ_cons, List.take_nil, List.set_cons_zero, List.set_cons_succ, List.nil_append, List.cons_append, List.append_nil, List.replicate_zero, List.replicate_succ, BitVec.ofNat_eq_ofNat, Option.some.injEq, AV.int.injEq, AV.u64.injEq, AV.u32.injEq, AV.u8.injEq, AV.bool.injEq, AV.a64.injEq, AV.a32.injEq, AV.a8.injEq, Nat.zero_le, Int.toNat_natCast, mx2, cMulM, cOneM, cRed, cFromR, cDivM, cMulU, cCmpU, cAddU, cSubN, cBits, cBit, cBytes, cReadN, cDigits, cWhole, List.getD_cons_zero, hm0, Int.reduceEq, Int.reduceNe]
      refine ⟨fun hlt => ?_, fun hge => ?_⟩
      · obtain ⟨k, rfl⟩ : ∃ k, j = k + 1 := ⟨j - 1, by omega⟩
        have e1 : ((k + 1 : Nat) : Int) - 1 = k := by omega
        obtain ⟨s1, s2⟩ := exp_hi (n := nv32 n) (j := k) hov
        have hb := bit_val n k
        simp only [e1]
        refine ⟨⟨by omega, by omega, by omega⟩, fun o2 ho2 ho2v ho2l Ao2 co2 _ => ⟨⟨by omega, by simp only [intIn]; omega⟩, fun hb1 => ⟨⟨by omega, by omega, by omega⟩, fun o3 ho3 ho3v ho3l Ao3 co3 _ => ⟨by simp only [intIn]; omega, ?_⟩⟩, fun hb1 => ⟨by simp only [intIn]; omega, ?_⟩⟩⟩
        · refine LeJ.rel 8 100 rfl rfl ?_
          refine LeJ.mk ⟨(k, (o3, Ao3, co3)), by dsimp only; omega, ho3, ho3l, ?_⟩ (by dsimp only; omega) ?_
          · dsimp only; rw [ho3v, ho2v]; exact s1 (by omega)
          · simp (maxSteps := 1000000) only [leS, leA, stU_env, stU_mem, pickA, getA, delA, setA, Cells.part, Cells.len, List.take_nil, List.drop_nil, List.length_nil, Nat.zero_add, ↓reduceIte, Nat.reduceEqDiff, Option.some.injEq, List.nil_append, List.cons_append, true_and, and_true, and_self, reduceCtorEq, AV.int.injEq, ME.own.injEq, ME.row.injEq, Cells.c32.injEq, Cells.c64.injEq, Cells.c8.injEq, AV.ptr.injEq, AV.ros.injEq, AV.grow.injEq, AV.u64.injEq, AV.u32.injEq]
            first | done | rfl | trivial | omega | exact ⟨rfl, rfl⟩
        · refine LeJ.rel 8 100 rfl rfl ?_
          refine LeJ.mk ⟨(k, (o2, Ao2, co2)), by dsimp only; omega, ho2, ho2l, ?_⟩ (by dsimp only; omega) ?_
          · dsimp only; rw [ho2v]; exact s2 (by omega)
          · simp (maxSteps := 1000000) only [leS, leA, stU_env, stU_mem, pickA, getA, delA, setA, Cells.part, Cells.len, List.take_nil, List.drop_nil, List.length_nil, Nat.zero_add, ↓reduceIte, Nat.reduceEqDiff, Option.some.injEq, List.nil_append, List.cons_append, true_and, and_true, and_self, reduceCtorEq, AV.int.injEq, ME.own.injEq, ME.row.injEq, Cells.c32.injEq, Cells.c64.injEq, Cells.c8.injEq, AV.ptr.injEq, AV.ros.injEq, AV.grow.injEq, AV.u64.injEq, AV.u32.injEq]
            first | done | rfl | trivial | omega | exact ⟨rfl, rfl⟩
      · obtain rfl : j = 0 := by omega
        exact h1 hm0 o hoc (by rw [hov, Nat.pow_zero, Nat.div_one]) hol
  · exact h.elim
end Go.Proofs.Ytkpbjkhgiackpaa
