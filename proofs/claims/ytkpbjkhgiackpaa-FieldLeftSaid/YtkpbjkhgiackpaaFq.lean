/- The field: its live question, walked. -/
import Derived.Test.YtkpbjkhgiackpaaFd4
namespace Go.Proofs.Ytkpbjkhgiackpaa.Fld
open Go Go.RowKit
set_option linter.unusedSimpArgs false
set_option linter.unusedVariables false
/-- A power, square by square. -/
def pwm : Nat → Nat → Nat → Nat
  | 0, _, _ => 1
  | f + 1, a, n => if n = 0 then 1 else if n % 2 = 1 then pwm f (a * a % PP) (n / 2) * a % PP else pwm f (a * a % PP) (n / 2)
theorem pwm_ok : ∀ (f a n : Nat), n < 2 ^ f → pwm f a n = powP a n
  | 0, a, n, h => by
    have : n = 0 := by simpa using h
    subst this; rw [powP_zero]; rfl
  | f + 1, a, n, h => by
    unfold pwm
    have hh : n / 2 < 2 ^ f := by rw [Nat.pow_succ] at h; omega
    have hsq : powP (a * a % PP) (n / 2) = powP a (n / 2 + n / 2) := by
      rw [powP_base]
      simp only [powP]
      rw [← Nat.pow_two, ← Nat.pow_mul]
      congr 2; omega
    split
    · rename_i h0; subst h0; rw [powP_zero]
    · rw [pwm_ok f _ _ hh, hsq]
      split
      · rename_i hb
        have e1 := powP_mul a (n / 2 + n / 2) 1
        rw [powP_one, Nat.mul_mod, Nat.mod_mod] at e1
        rw [Nat.mul_mod, e1]; congr 1; omega
      · congr 1; omega
theorem four_E8 : powP 4 7237005577332262213973186563042994240829374041602535252466099000494570602494 = pwm 256 4 7237005577332262213973186563042994240829374041602535252466099000494570602494 := (pwm_ok 256 4 _ (by decide)).symm
theorem two_Q4 : powP 2 14474011154664524427946373126085988481658748083205070504932198000989141204987 = pwm 256 2 14474011154664524427946373126085988481658748083205070504932198000989141204987 := (pwm_ok 256 2 _ (by decide)).symm
theorem four_no : ¬ pwm 256 4 7237005577332262213973186563042994240829374041602535252466099000494570602494 * pwm 256 4 7237005577332262213973186563042994240829374041602535252466099000494570602494 % PP = 4 % PP := by decide +kernel
theorem four_root : pwm 256 4 7237005577332262213973186563042994240829374041602535252466099000494570602494 * pwm 256 2 14474011154664524427946373126085988481658748083205070504932198000989141204987 % PP = PP - 2 := by decide +kernel
theorem rootF_four : rootF 4 = (2, true) := by
  have e : rootR 4 = PP - 2 := by
    rw [rootR_two (by rw [four_E8]; exact four_no), four_E8, two_Q4, four_root]
  exact (root_odd e (by decide) (by decide)).trans (by decide)
theorem rootF_four1 : (rootF 4).1 = 2 := by rw [rootF_four]
theorem rootF_four2 : (rootF 4).2 = true := by rw [rootF_four]
theorem al_add : words 4 ((val [18446744073709551596#64, 18446744073709551615#64, 18446744073709551615#64, 9223372036854775807#64] + val [2#64, 0#64, 0#64, 0#64]) % PP) = [1#64, 0#64, 0#64, 0#64] := by decide
theorem al_four : val [4#64, 0#64, 0#64, 0#64] = 4 := by decide
theorem al_two : words 4 2 = [2#64, 0#64, 0#64, 0#64] := by decide
theorem al_mul : words 4 (val [3#64, 0#64, 0#64, 0#64] * val [5#64, 0#64, 0#64, 0#64] % PP) = [15#64, 0#64, 0#64, 0#64] := by decide
def cAlive : CT := fun cas K => match cas with
  | [] => K (.one (.v (.bool true)))
  | _ => False
def cLaw1 : CT := fun cas K => match cas with
  | [.v (.a64 xs)] => xs.length = 4 ∧ K (.one (.v (.bool true)))
  | _ => False
def cLaw2 : CT := fun cas K => match cas with
  | [.v (.a64 xs), .v (.a64 ys)] => (xs.length = 4 ∧ ys.length = 4) ∧ K (.one (.v (.bool true)))
  | _ => False
def cLaw3 : CT := fun cas K => match cas with
  | [.v (.a64 xs), .v (.a64 ys), .v (.a64 zs)] => (xs.length = 4 ∧ ys.length = 4 ∧ zs.length = 4) ∧ K (.one (.v (.bool true)))
  | _ => False

/-- A root, of whatever way it is found. -/
def cRootV (Fr : List U64 → List U64) (Gr : List U64 → Bool) : CT := fun cas K => match cas with
  | [.v (.a64 xs)] => xs.length = 4 ∧ (Fr xs).length = 4 ∧ K (.tup [.v (.a64 (Fr xs)), .v (.bool (Gr xs))])
  | _ => False
theorem sRootV : Sound Try.prog 121 (cRootV (fun xs => words 4 (rootF (val xs)).1) (fun xs => (rootF (val xs)).2)) := fun cas K W vals ha hC => by
  refine sRoot cas K W vals ha ?_
  unfold cRootV at hC
  split at hC
  · exact ⟨hC.1, hC.2.2⟩
  · exact hC.elim
def cw0 (Fr : List U64 → List U64) (Gr : List U64 → Bool) : CTab := fun F => match F with
  | 146 => .fn cPrime
  | 141 => .fn cFrom
  | 125 => .fn cReduce
  | 73 => .fn cMul
  | 74 => .fn cAdd
  | 142 => .fn cSub
  | 139 => .fn cPow
  | 121 => .fn (cRootV Fr Gr)
  | _ => .fn noCT
theorem cw0_ok {Fr : List U64 → List U64} {Gr : List U64 → Bool} (hS : Sound Try.prog 121 (cRootV Fr Gr)) : CTok Try.prog (cw0 Fr Gr) := by
  intro F
  unfold cw0
  split
  · exact sPrime
  · exact sFrom
  · exact sReduce
  · exact sMul
  · exact sAdd
  · exact sSub
  · exact sPow
  · exact hS
  · exact sound_none _ _
set_option maxRecDepth 100000 in
set_option maxHeartbeats 1000000 in
theorem sAlive_ {Fr : List U64 → List U64} {Gr : List U64 → Bool} (hS : Sound Try.prog 121 (cRootV Fr Gr)) (hF : Fr [4#64, 0#64, 0#64, 0#64] = [2#64, 0#64, 0#64, 0#64]) (hG : Gr [4#64, 0#64, 0#64, 0#64] = true) : Sound Try.prog 72 cAlive := by
  refine sound_vc (tt := tt) (ct := (cw0 Fr Gr)) ttok (cw0_ok hS) mixed Try.func72 rfl (by decide) (rs := [.tmp 0]) rfl (ts := [4]) (k := 0) ?_
  intro cas K h
  unfold cAlive at h
  split at h
  · skip
    rw [Try.ntmps72]
    refine ⟨by simp, ?_⟩
    simp (maxSteps := 10000000) (implicitDefEqProofs := false) only [↓both_true, ↓both_false, ↓entryVC, ↓vc_skip, ↓vc_draw, ↓vc_list, ↓vc_seq, ↓vc_seqn, ↓vc_seqe, ↓vc_seqr, ↓vc_cond, ↓condVC, ↓vc_block, ↓vc_blockn, ↓vc_blockr, ↓vc_blocke, ↓vc_loop, ↓vc_exit, ↓vc_ret, ↓vc_loopn, ↓vc_loope, ↓vc_loopr, ↓vcl_nil, ↓vcl_cons, ↓lw_eq, ↓listVC, ↓memK, ↓memR, ↓envOf, ↓guardVC, ↓opVC, ↓pureVC, ↓binT, ↓wrapT, ↓TDsc.isW, ↓binW, ↓binVC, ↓bin8, ↓bin32, ↓bin64, ↓binInt, ↓shVC, ↓unVC, ↓cvVC, ↓rdVC, ↓loadVC, ↓pickC, ↓fillVC, ↓bndVC, ↓sliceVC, ↓bltVC, ↓storeVC, ↓appVC, ↓apzVC, ↓markVC, ↓copyVC, ↓callVC, ↓argsVC, ↓argVC, ↓bindR, ↓bindR1, ↓bindRs, ↓retW_eq, ↓extW_eq, ↓rowW_eq, ↓aggW_eq, ↓plv_nil, ↓plv_tk, ↓plv_fz, ↓plv_ld, ↓pt_eq, ↓pz_eq, ↓pl_eq, ↓delAll, ↓keepM_nil, ↓keepM, ↓extE, ↓extM, ↓leS, ↓leA, ↓retVC, ↓retR, ↓resVC, ↓resV1, ↓ressVC, ↓strU, ↓xAdd64, ↓xSub64, frz, frzs, both_true, both_false, both_dec, both_ndec, ev, absC, getA, setA, delA, tt, AV.good, AV.plain, AV.isSl, AV.cells, AV.one, Cells.len, Cells.get, Cells.sub, Cells.part, Cells.agg, Cells.upd, Cells.set, Cells.cat, Cells.rep, Cells.ones, TDsc.agg, zOf, putE, dstB, letGo, quietOp, slotOp, true_or, or_true, List.append_eq, Int.cast_ofNat_Int, words_len, List.any_cons, List.any_nil, beq_iff_eq, Bool.decide_eq_true, Option.getD_some, Option.getD_none, Option.map_some, Option.map_none, Option.bind_some, Option.isSome_some, Option.isNone_some, Option.isNone_none, Option.isSome_none, ↓reduceIte, Nat.reduceEqDiff, Nat.reduceLT, Nat.reduceLeDiff, Nat.reduceAdd, Nat.reduceSub, Nat.reduceMul, Nat.reduceBEq, Int.reduceLE, Int.reduceLT, Int.reduceToNat, Int.reduceNeg, BitVec.reduceToNat, decide_true, decide_false, and_true, true_and, and_self, Bool.or_true, Bool.true_or, Bool.or_false, Bool.false_or, Bool.not_true, Bool.not_false, List.map_cons, List.map_nil, List.length_cons, List.length_nil, List.getElem?_toArray, List.getElem?_cons_zero, List.getElem?_cons_succ, List.getElem?_nil, forall_const, true_implies, reduceCtorEq, false_and, and_false, false_implies, implies_true, Bool.false_eq_true, Bool.true_eq_false, ne_eq, not_true, not_false_iff, Nat.sub_zero, Nat.zero_add, Nat.add_zero, List.drop_zero, List.drop_succ_cons, List.drop_nil, List.take_zero, List.take_succ_cons, List.take_nil, List.set_cons_zero, List.set_cons_succ, List.nil_append, List.cons_append, List.append_nil, List.replicate_zero, List.replicate_succ, BitVec.ofNat_eq_ofNat, Option.some.injEq, AV.int.injEq, AV.u64.injEq, AV.u32.injEq, AV.u8.injEq, AV.bool.injEq, AV.a64.injEq, AV.a32.injEq, AV.a8.injEq, Nat.zero_le, Int.toNat_natCast, cw0, cMul, cRootV, cAdd, al_add, al_mul, hF, hG]
    exact h
  · exact h.elim

theorem sAlive : Sound Try.prog 72 cAlive := sAlive_ sRootV (by rw [al_four, rootF_four1]; exact al_two) (by rw [al_four]; exact rootF_four2)
end Go.Proofs.Ytkpbjkhgiackpaa.Fld
