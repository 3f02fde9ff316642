/- The laws of powers and so on: what they share. -/
import Derived.Test.YtkpbjkhgiackpaaMx1
import Derived.Test.YtkpbjkhgiackpaaEng3
namespace Go.Proofs.Ytkpbjkhgiackpaa
open Go Go.RowKit
set_option linter.unusedVariables false
set_option linter.unusedSimpArgs false

def cTrue0 : CT := fun cas K => match cas with
  | [] => K (.one (.v (.bool true)))
  | _ => False
def cLawM3 : CT := fun cas K => match cas with
  | [.s (.c32 a), .s (.c32 b), .s (.c32 m)] => K (.one (.v (.bool true)))
  | _ => False
def cLawM2 : CT := fun cas K => match cas with
  | [.s (.c32 a), .s (.c32 b)] => K (.one (.v (.bool true)))
  | _ => False
def cLawMP : CT := fun cas K => match cas with
  | [.s (.c32 a), .s (.c32 m), .v (.a32 x)] => x.length = 2 ∧ K (.one (.v (.bool true)))
  | _ => False
theorem blZ (v : Nat) : ((blN v : Nat) : Int) = 0 ↔ v = 0 := by
  have := blPos v
  omega
theorem e1n : nv32 [1#32] = 1 := rfl
theorem hdd (x y : List U32) (hx : Can32 x) (hy : Can32 y) (h : nv32 x = nv32 y) : decide (x = y) = true := decide_eq_true (Can32.inj hx hy h)
theorem hdn {p : Prop} [Decidable p] (h : p) : decide p = true := decide_eq_true h
theorem same_can {x y : List U32} (hx : Can32 x) (hy : Can32 y) (h : nv32 x = nv32 y) : x = y := Can32.inj hx hy h
def lm0 : CTab := fun F => match F with
  | 26 => .fn cExpM
  | 27 => .fn cExpM
  | 28 => .fn cInvM
  | 21 => .fn cMulM
  | 22 => .fn cMulM
  | 23 => .fn cRed
  | 24 => .fn cRed
  | 34 => .fn cGcdM
  | 31 => .fn cGcdM
  | 25 => .fn cSame
  | 29 => .fn cBits
  | 30 => .fn cCmpU
  | 32 => .fn cAddU
  | 33 => .fn cMulU
  | _ => .fn noCT
theorem lm0_ok : CTok Try.prog lm0 := by
  intro F
  unfold lm0
  split
  · exact sExpP
  · exact sExpR
  · exact sInvP
  · exact sMulP
  · exact sMulR5
  · exact sRedP
  · exact sRedR
  · exact sGcdP
  · exact sGcdR
  · exact sSame
  · exact sBitsN
  · exact sCmpU
  · exact sAddU
  · exact sMulU
  · exact sound_none _ _
set_option maxRecDepth 100000 in
set_option maxHeartbeats 1000000 in
theorem sAliveM : Sound Try.prog 20 cTrue0 := by
  refine sound_vc (tt := tt) (ct := lm0) ttok lm0_ok mixed Try.func20 rfl (by decide) (rs := [.tmp 0]) rfl (ts := [4]) (k := 0) ?_
  intro cas K h
  unfold cTrue0 at h
  split at h
  · skip
    rw [Try.ntmps20]
    refine ⟨by simp, ?_⟩
    simp (maxSteps := 10000000) (implicitDefEqProofs := false) only [↓both_true, ↓both_false, ↓entryVC, ↓vc_skip, ↓vc_draw, ↓vc_list, ↓vc_seq, ↓vc_seqn, ↓vc_seqe, ↓vc_seqr, ↓vc_cond, ↓condVC, ↓vc_block, ↓vc_blockn, ↓vc_blockr, ↓vc_blocke, ↓vc_loop, ↓vc_exit, ↓vc_ret, ↓vc_loopn, ↓vc_loope, ↓vc_loopr, ↓vcl_nil, ↓vcl_cons, ↓lw_eq, ↓listVC, ↓memK, ↓memR, ↓envOf, ↓guardVC, ↓opVC, ↓pureVC, ↓binT, ↓wrapT, ↓TDsc.isW, ↓binW, ↓binVC, ↓bin8, ↓bin32, ↓bin64, ↓binInt, ↓shVC, ↓unVC, ↓cvVC, ↓rdVC, ↓loadVC, ↓pickC, ↓fillVC, ↓bndVC, ↓sliceVC, ↓bltVC, ↓storeVC, ↓appVC, ↓apzVC, ↓markVC, ↓copyVC, ↓callVC, ↓argsVC, ↓argVC, ↓bindR, ↓bindR1, ↓bindRs, ↓retW_eq, ↓extW_eq, ↓rowW_eq, ↓aggW_eq, ↓plv_nil, ↓plv_tk, ↓plv_fz, ↓plv_ld, ↓pt_eq, ↓pz_eq, ↓pl_eq, ↓delAll, ↓keepM_nil, ↓keepM, ↓extE, ↓extM, ↓leS, ↓leA, ↓retVC, ↓retR, ↓resVC, ↓resV1, ↓ressVC, ↓strU, ↓xAdd64, ↓xSub64, ↓vc_jn, ↓vc_je, ↓vc_jr, ↓pickA, ↓stU_env, ↓stU_mem, frz, frzs, both_true, both_false, both_dec, both_ndec, ev, absC, getA, setA, delA, tt, AV.good, AV.plain, AV.isSl, AV.cells, AV.one, Cells.len, Cells.get, Cells.sub, Cells.part, Cells.agg, Cells.upd, Cells.set, Cells.cat, Cells.rep, Cells.ones, TDsc.agg, zOf, putE, dstB, letGo, quietOp, slotOp, pickA, true_or, or_true, List.append_eq, Int.cast_ofNat_Int, List.any_cons, List.any_nil, beq_iff_eq, Bool.decide_eq_true, Option.getD_some, Option.getD_none, Option.map_some, Option.map_none, Option.bind_some, Option.isSome_some, Option.isNone_some, Option.isNone_none, Option.isSome_none, ↓reduceIte, Nat.reduceEqDiff, Nat.reduceLT, Nat.reduceLeDiff, Nat.reduceAdd, Nat.reduceSub, Nat.reduceMul, Nat.reduceBEq, Int.reduceLE, Int.reduceLT, Int.reduceToNat, Int.reduceNeg, BitVec.reduceToNat, decide_true, decide_false, and_true, true_and, and_self, Bool.or_true, Bool.true_or, Bool.or_false, Bool.false_or, Bool.not_true, Bool.not_false, List.map_cons, List.map_nil, List.length_cons, List.length_nil, List.getElem?_toArray, List.getElem?_cons_zero, List.getElem?_cons_succ, List.getElem?_nil, forall_const, true_implies, reduceCtorEq, false_and, and_false, false_implies, implies_true, Bool.false_eq_true, Bool.true_eq_false, ne_eq, not_true, not_false_iff, Nat.sub_zero, Nat.zero_add, Nat.add_zero, List.drop_zero, List.drop_succ_cons, List.drop_nil, List.take_zero, List.take_succ_cons, List.take_nil, List.set_cons_zero, List.set_cons_succ, List.nil_append, List.cons_append, List.append_nil, List.replicate_zero, List.replicate_succ, BitVec.ofNat_eq_ofNat, Option.some.injEq, AV.int.injEq, AV.u64.injEq, AV.u32.injEq, AV.u8.injEq, AV.bool.injEq, AV.a64.injEq, AV.a32.injEq, AV.a8.injEq, Nat.zero_le, Int.toNat_natCast, lm0, cExpM, cInvM, cMulM, cRed, cGcdM, cSame, cBits, cCmpU, cAddU, cMulU, List.getD_cons_zero, Int.reduceEq, Int.reduceNe, nv32]
    have c4 : Can32 [4#32] := by simp [Can32]
    have c5 : Can32 [5#32] := by simp [Can32]
    have v4 : nv32 [4#32] = 4 := rfl
    have v5 : nv32 [5#32] = 5 := rfl
    refine fun r hr hrv hrl c hc => ⟨fun hg => absurd (by decide) hg, fun _ x hx hx7 hxv hxl c2 hc2 => ⟨by omega, fun _ => ⟨by omega, fun _ => h, fun hn => absurd (Can32.inj hx c5 (by omega)) hn⟩, fun hn => absurd (Can32.inj hr c4 (hrv.trans (by decide))) hn⟩⟩
  · exact h.elim
def lm1 : CTab := fun F => match F with
  | 20 => .fn cTrue0
  | 26 => .fn cExpM
  | 27 => .fn cExpM
  | 28 => .fn cInvM
  | 21 => .fn cMulM
  | 22 => .fn cMulM
  | 23 => .fn cRed
  | 24 => .fn cRed
  | 34 => .fn cGcdM
  | 31 => .fn cGcdM
  | 25 => .fn cSame
  | 29 => .fn cBits
  | 30 => .fn cCmpU
  | 32 => .fn cAddU
  | 33 => .fn cMulU
  | _ => .fn noCT
theorem lm1_ok : CTok Try.prog lm1 := by
  intro F
  unfold lm1
  split
  · exact sAliveM
  · exact sExpP
  · exact sExpR
  · exact sInvP
  · exact sMulP
  · exact sMulR5
  · exact sRedP
  · exact sRedR
  · exact sGcdP
  · exact sGcdR
  · exact sSame
  · exact sBitsN
  · exact sCmpU
  · exact sAddU
  · exact sMulU
  · exact sound_none _ _
end Go.Proofs.Ytkpbjkhgiackpaa
