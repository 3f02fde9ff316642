/- The curve's prime field, walked: powers, inverses, roots. -/
import Derived.Test.YtkpbjkhgiackpaaFd3
namespace Go.Proofs.Ytkpbjkhgiackpaa.Fld
open Go Go.RowKit
set_option linter.unusedVariables false
set_option linter.unusedSimpArgs false

def ct6 : CTab := fun F => match F with
  | 144 => .ext xAdd64
  | 148 => .ext xSub64
  | 124 => .fn cPlus
  | 145 => .fn cMinus
  | 146 => .fn cPrime
  | 141 => .fn cFrom
  | 125 => .fn cReduce
  | 143 => .fn cMul64
  | 122 => .fn cProduct
  | 123 => .fn cTimes
  | 73 => .fn cMul
  | 74 => .fn cAdd
  | 142 => .fn cSub
  | _ => .fn noCT
theorem ct6_ok : CTok Try.prog ct6 := by
  intro F
  unfold ct6
  split
  · exact sAdd64
  · exact sSub64
  · exact sPlus
  · exact sMinus
  · exact sPrime
  · exact sFrom
  · exact sReduce
  · exact sMul64
  · exact sProduct
  · exact sTimes
  · exact sMul
  · exact sAdd
  · exact sSub
  · exact sound_none _ _

/-- A power modulo the prime. -/
def powP (a n : Nat) : Nat := a ^ n % PP
theorem PP_pos : 0 < PP := by decide
theorem powP_lt (a n : Nat) : powP a n < PP := Nat.mod_lt _ PP_pos
theorem powP_zero (a : Nat) : powP a 0 = 1 := by simp [powP]; decide
theorem powP_mul (a m n : Nat) : powP a m * powP a n % PP = powP a (m + n) := by
  simp only [powP]
  rw [← Nat.mul_mod, ← Nat.pow_add]
theorem powP_base (a n : Nat) : powP (a % PP) n = powP a n := by simp only [powP]; rw [← Nat.pow_mod]
theorem powP_one (a : Nat) : powP a 1 = a % PP := by simp only [powP, Nat.pow_one]
theorem lt_M {n : Nat} (h : n < PP) : n % 115792089237316195423570985008687907853269984665640564039457584007913129639936 = n := Nat.mod_eq_of_lt (Nat.lt_trans h (by decide))
theorem mod_M (n : Nat) : n % PP % 115792089237316195423570985008687907853269984665640564039457584007913129639936 = n % PP := lt_M (Nat.mod_lt _ PP_pos)
theorem val4P (n : Nat) : val (words 4 (n % PP)) = n % PP := by rw [val4, mod_M]
theorem val4p (a n : Nat) : val (words 4 (powP a n)) = powP a n := val4P _
theorem words_inj {u v : Nat} (hu : u < PP) (hv : v < PP) : (words 4 u = words 4 v) = (u = v) := by
  apply propext
  constructor
  · intro h
    have := congrArg val h
    rwa [val4, val4, lt_M hu, lt_M hv] at this
  · exact fun h => by rw [h]
/-- A round of the power: how many bits of the word are done, the product so far, the square, the word. -/
def PowI (a0 : Nat) (ns : List U64) (i : Nat) (s : Nat × List U64 × List U64 × U64) : Prop :=
  s.1 ≤ 64 ∧ s.2.1.length = 4 ∧ s.2.2.1.length = 4 ∧ s.2.2.2.toNat = (g64 ns i).toNat / 2 ^ s.1 ∧ val s.2.1 = powP a0 (val (ns.take i) + 18446744073709551616 ^ i * ((g64 ns i).toNat % 2 ^ s.1)) ∧ val s.2.2.1 % PP = powP a0 (18446744073709551616 ^ i * 2 ^ s.1)
def PowO (a0 : Nat) (ns : List U64) (s : Nat × List U64 × List U64 × U64) : Prop :=
  s.1 ≤ 4 ∧ s.2.1.length = 4 ∧ s.2.2.1.length = 4 ∧ val s.2.1 = powP a0 (val (ns.take s.1)) ∧ val s.2.2.1 % PP = powP a0 (18446744073709551616 ^ s.1)
theorem pow_sq {a0 : Nat} {a : List U64} {B : Nat} (h : val a % PP = powP a0 B) : val a * val a % PP = powP a0 (B * 2) := by
  rw [Nat.mul_mod, h, powP_mul]; congr 1; omega
theorem pow_step {a0 i j : Nat} {ns out a : List U64} {w : U64} (hj : j < 64) (h : PowI a0 ns i (j, out, a, w)) :
    (w &&& 1#64 ≠ 0#64 → PowI a0 ns i (j + 1, words 4 (val out * val a % PP), words 4 (val a * val a % PP), w >>> 1)) ∧ (w &&& 1#64 = 0#64 → PowI a0 ns i (j + 1, out, words 4 (val a * val a % PP), w >>> 1)) := by
  obtain ⟨h1, h2, h3, h4, h5, h6⟩ := h
  dsimp only at h1 h2 h3 h4 h5 h6
  have hw : (w &&& 1#64).toNat = w.toNat % 2 := by rw [BitVec.toNat_and]; exact Nat.and_two_pow_sub_one_eq_mod w.toNat 1
  have hs : (w >>> 1).toNat = (g64 ns i).toNat / 2 ^ (j + 1) := by rw [BitVec.toNat_ushiftRight, Nat.shiftRight_eq_div_pow, h4, Nat.div_div_eq_div_mul, ← Nat.pow_add]
  have hbit : (g64 ns i).toNat % 2 ^ (j + 1) = (g64 ns i).toNat % 2 ^ j + 2 ^ j * (w.toNat % 2) := by
    rw [Nat.pow_succ, Nat.mod_mul, h4]
  have hsq : val (words 4 (val a * val a % PP)) % PP = powP a0 (18446744073709551616 ^ i * 2 ^ (j + 1)) := by
    rw [val4P, Nat.mod_mod, pow_sq h6, Nat.pow_succ, Nat.mul_assoc]
  constructor
  · intro hb
    have hb1 : w.toNat % 2 = 1 := by
      have : w.toNat % 2 ≠ 0 := fun e => hb (BitVec.eq_of_toNat_eq (by rw [hw, e]; rfl))
      omega
    refine ⟨by dsimp only; omega, words_len _ _, words_len _ _, hs, ?_, hsq⟩
    dsimp only
    rw [val4P, hbit, hb1, Nat.mul_one, Nat.mul_add, ← Nat.add_assoc, ← powP_mul, ← h5, ← h6, Nat.mul_mod, Nat.mod_eq_of_lt (a := val out) (by rw [h5]; exact powP_lt _ _)]
  · intro hb
    have hb0 : w.toNat % 2 = 0 := by rw [← hw, hb]; rfl
    refine ⟨by dsimp only; omega, h2, words_len _ _, hs, ?_, hsq⟩
    dsimp only
    rw [hbit, hb0, Nat.mul_zero, Nat.add_zero, h5]
theorem pow_row {a0 i : Nat} {ns out a : List U64} {w : U64} (hi : i < 4) (hn : ns.length = 4) (h : PowI a0 ns i (64, out, a, w)) : PowO a0 ns (i + 1, out, a, w) := by
  obtain ⟨h1, h2, h3, h4, h5, h6⟩ := h
  dsimp only at h1 h2 h3 h4 h5 h6
  refine ⟨by dsimp only; omega, h2, h3, ?_, ?_⟩
  · dsimp only
    rw [val_take_succ ns i (by omega), h5, Nat.mod_eq_of_lt (g64 ns i).isLt]
  · dsimp only
    rw [h6, Nat.pow_succ (n := 18446744073709551616)]
theorem pow_start {a0 i : Nat} {ns out a : List U64} {w : U64} (h : PowO a0 ns (i, out, a, w)) : PowI a0 ns i (0, out, a, g64 ns i) := by
  obtain ⟨h1, h2, h3, h4, h5⟩ := h
  dsimp only at h1 h2 h3 h4 h5
  exact ⟨Nat.zero_le _, h2, h3, by simp, by simp [Nat.mod_one, h4], by simp [h5]⟩
theorem pow_end {a0 : Nat} {ns out a : List U64} {w : U64} (hn : ns.length = 4) (h : PowO a0 ns (4, out, a, w)) : out = words 4 (powP a0 (val ns)) := by
  obtain ⟨h1, h2, h3, h4, h5⟩ := h
  dsimp only at h1 h2 h3 h4 h5
  rw [List.take_of_length_le (by omega)] at h4
  exact eq_words h2 (by rw [h4]; exact (lt_M (powP_lt _ _)).symm)
def cPow : CT := fun cas K => match cas with
  | [.v (.a64 xs), .v (.a64 ns)] => (xs.length = 4 ∧ ns.length = 4) ∧ K (.one (.v (.a64 (words 4 (powP (val xs) (val ns))))))
  | _ => False
set_option maxRecDepth 100000 in
set_option maxHeartbeats 1000000 in
theorem sPow : Sound Try.prog 139 cPow := by
  refine sound_vc (tt := tt) (ct := ct6) ttok ct6_ok mixed Try.func139 rfl (by decide) (rs := [.cell 4 39]) rfl (ts := [39]) (k := 0) ?_
  intro cas K h
  unfold cPow at h
  split at h
  · rename_i xs ns
    rw [Try.ntmps139]
    refine ⟨by simp, ?_⟩
    obtain ⟨⟨hx, hn⟩, h⟩ := h
    simp (maxSteps := 10000000) (implicitDefEqProofs := false) only [↓both_true, ↓both_false, ↓entryVC, ↓vc_skip, ↓vc_draw, ↓vc_list, ↓vc_seq, ↓vc_seqn, ↓vc_seqe, ↓vc_seqr, ↓vc_cond, ↓condVC, ↓vc_block, ↓vc_blockn, ↓vc_blockr, ↓vc_blocke, ↓vc_loop, ↓vc_exit, ↓vc_ret, ↓vc_loopn, ↓vc_loope, ↓vc_loopr, ↓vcl_nil, ↓vcl_cons, ↓lw_eq, ↓listVC, ↓memK, ↓memR, ↓envOf, ↓guardVC, ↓opVC, ↓pureVC, ↓binT, ↓wrapT, ↓TDsc.isW, ↓binW, ↓binVC, ↓bin8, ↓bin32, ↓bin64, ↓binInt, ↓shVC, ↓unVC, ↓cvVC, ↓rdVC, ↓loadVC, ↓pickC, ↓fillVC, ↓bndVC, ↓sliceVC, ↓bltVC, ↓storeVC, ↓appVC, ↓apzVC, ↓markVC, ↓copyVC, ↓callVC, ↓argsVC, ↓argVC, ↓bindR, ↓bindR1, ↓bindRs, ↓retW_eq, ↓extW_eq, ↓rowW_eq, ↓aggW_eq, ↓plv_nil, ↓plv_tk, ↓plv_fz, ↓plv_ld, ↓pt_eq, ↓pz_eq, ↓pl_eq, ↓delAll, ↓keepM_nil, ↓keepM, ↓extE, ↓extM, ↓leS, ↓leA, ↓retVC, ↓retR, ↓resVC, ↓resV1, ↓ressVC, ↓strU, ↓xAdd64, ↓xSub64, frz, frzs, both_true, both_false, both_dec, both_ndec, ev, absC, getA, setA, delA, tt, AV.good, AV.plain, AV.isSl, AV.cells, AV.one, Cells.len, Cells.get, Cells.sub, Cells.part, Cells.agg, Cells.upd, Cells.set, Cells.cat, Cells.rep, Cells.ones, TDsc.agg, zOf, putE, dstB, letGo, quietOp, slotOp, true_or, or_true, List.append_eq, Int.cast_ofNat_Int, words_len, List.any_cons, List.any_nil, beq_iff_eq, Bool.decide_eq_true, Option.getD_some, Option.getD_none, Option.map_some, Option.map_none, Option.bind_some, Option.isSome_some, Option.isNone_some, Option.isNone_none, Option.isSome_none, ↓reduceIte, Nat.reduceEqDiff, Nat.reduceLT, Nat.reduceLeDiff, Nat.reduceAdd, Nat.reduceSub, Nat.reduceMul, Nat.reduceBEq, Int.reduceLE, Int.reduceLT, Int.reduceToNat, Int.reduceNeg, BitVec.reduceToNat, decide_true, decide_false, and_true, true_and, and_self, Bool.or_true, Bool.true_or, Bool.or_false, Bool.false_or, Bool.not_true, Bool.not_false, List.map_cons, List.map_nil, List.length_cons, List.length_nil, List.getElem?_toArray, List.getElem?_cons_zero, List.getElem?_cons_succ, List.getElem?_nil, forall_const, true_implies, reduceCtorEq, false_and, and_false, false_implies, implies_true, Bool.false_eq_true, Bool.true_eq_false, ne_eq, not_true, not_false_iff, Nat.sub_zero, Nat.zero_add, Nat.add_zero, List.drop_zero, List.drop_succ_cons, List.drop_nil, List.take_zero, List.take_succ_cons, List.take_nil, List.set_cons_zero, List.set_cons_succ, List.nil_append, List.cons_append, List.append_nil, List.replicate_zero, List.replicate_succ, BitVec.ofNat_eq_ofNat, Option.some.injEq, AV.int.injEq, AV.u64.injEq, AV.u32.injEq, AV.u8.injEq, AV.bool.injEq, AV.a64.injEq, AV.a32.injEq, AV.a8.injEq, Nat.zero_le, Int.toNat_natCast, ct6, cFrom, cMul, hx, hn]
    intro g0 g1 g2 g3
    refine loop_ _ _ _ (ι := {s : Nat × List U64 × List U64 × U64 // PowO (val xs) ns s}) (fun s => ⟨[(10, .int (s.1.1 : Int)), (9, .a64 ns), (5, .ptr 5 g3 0), (4, .ptr 4 g2 0), (3, .ptr 3 g1 0), (2, .ptr 2 g0 0)], [(5, .own g3 39 (.c64 s.1.2.1)), (4, .own g2 39 (.c64 [0, 0, 0, 0])), (3, .own g1 39 (.c64 ns)), (2, .own g0 39 (.c64 s.1.2.2.1))], 6⟩) (fun s => 4 - s.1.1) ⟨(0, words 4 1, xs, 0), ⟨Nat.zero_le _, rfl, hx, by rw [val4]; simp [val, powP_zero], by simp [powP_one]⟩⟩ ?_ ?_
    · simp (maxSteps := 10000000) (implicitDefEqProofs := false) only [↓both_true, ↓both_false, ↓entryVC, ↓vc_skip, ↓vc_draw, ↓vc_list, ↓vc_seq, ↓vc_seqn, ↓vc_seqe, ↓vc_seqr, ↓vc_cond, ↓condVC, ↓vc_block, ↓vc_blockn, ↓vc_blockr, ↓vc_blocke, ↓vc_loop, ↓vc_exit, ↓vc_ret, ↓vc_loopn, ↓vc_loope, ↓vc_loopr, ↓vcl_nil, ↓vcl_cons, ↓lw_eq, ↓listVC, ↓memK, ↓memR, ↓envOf, ↓guardVC, ↓opVC, ↓pureVC, ↓binT, ↓wrapT, ↓TDsc.isW, ↓binW, ↓binVC, ↓bin8, ↓bin32, ↓bin64, ↓binInt, ↓shVC, ↓unVC, ↓cvVC, ↓rdVC, ↓loadVC, ↓pickC, ↓fillVC, ↓bndVC, ↓sliceVC, ↓bltVC, ↓storeVC, ↓appVC, ↓apzVC, ↓markVC, ↓copyVC, ↓callVC, ↓argsVC, ↓argVC, ↓bindR, ↓bindR1, ↓bindRs, ↓retW_eq, ↓extW_eq, ↓rowW_eq, ↓aggW_eq, ↓plv_nil, ↓plv_tk, ↓plv_fz, ↓plv_ld, ↓pt_eq, ↓pz_eq, ↓pl_eq, ↓delAll, ↓keepM_nil, ↓keepM, ↓extE, ↓extM, ↓leS, ↓leA, ↓retVC, ↓retR, ↓resVC, ↓resV1, ↓ressVC, ↓strU, ↓xAdd64, ↓xSub64, frz, frzs, both_true, both_false, both_dec, both_ndec, ev, absC, getA, setA, delA, tt, AV.good, AV.plain, AV.isSl, AV.cells, AV.one, Cells.len, Cells.get, Cells.sub, Cells.part, Cells.agg, Cells.upd, Cells.set, Cells.cat, Cells.rep, Cells.ones, TDsc.agg, zOf, putE, dstB, letGo, quietOp, slotOp, true_or, or_true, List.append_eq, Int.cast_ofNat_Int, words_len, List.any_cons, List.any_nil, beq_iff_eq, Bool.decide_eq_true, Option.getD_some, Option.getD_none, Option.map_some, Option.map_none, Option.bind_some, Option.isSome_some, Option.isNone_some, Option.isNone_none, Option.isSome_none, ↓reduceIte, Nat.reduceEqDiff, Nat.reduceLT, Nat.reduceLeDiff, Nat.reduceAdd, Nat.reduceSub, Nat.reduceMul, Nat.reduceBEq, Int.reduceLE, Int.reduceLT, Int.reduceToNat, Int.reduceNeg, BitVec.reduceToNat, decide_true, decide_false, and_true, true_and, and_self, Bool.or_true, Bool.true_or, Bool.or_false, Bool.false_or, Bool.not_true, Bool.not_false, List.map_cons, List.map_nil, List.length_cons, List.length_nil, List.getElem?_toArray, List.getElem?_cons_zero, List.getElem?_cons_succ, List.getElem?_nil, forall_const, true_implies, reduceCtorEq, false_and, and_false, false_implies, implies_true, Bool.false_eq_true, Bool.true_eq_false, ne_eq, not_true, not_false_iff, Nat.sub_zero, Nat.zero_add, Nat.add_zero, List.drop_zero, List.drop_succ_cons, List.drop_nil, List.take_zero, List.take_succ_cons, List.take_nil, List.set_cons_zero, List.set_cons_succ, List.nil_append, List.cons_append, List.append_nil, List.replicate_zero, List.replicate_succ, BitVec.ofNat_eq_ofNat, Option.some.injEq, AV.int.injEq, AV.u64.injEq, AV.u32.injEq, AV.u8.injEq, AV.bool.injEq, AV.a64.injEq, AV.a32.injEq, AV.a8.injEq, Nat.zero_le, Int.toNat_natCast, ct6, hx]
      try trivial
    · rintro ⟨⟨i, out, a, w⟩, hI⟩
      obtain ⟨hi, ho, ha, _, _⟩ := id hI
      dsimp only at hi ho ha
      simp (maxSteps := 10000000) (implicitDefEqProofs := false) only [↓both_true, ↓both_false, ↓entryVC, ↓vc_skip, ↓vc_draw, ↓vc_list, ↓vc_seq, ↓vc_seqn, ↓vc_seqe, ↓vc_seqr, ↓vc_cond, ↓condVC, ↓vc_block, ↓vc_blockn, ↓vc_blockr, ↓vc_blocke, ↓vc_loop, ↓vc_exit, ↓vc_ret, ↓vc_loopn, ↓vc_loope, ↓vc_loopr, ↓vcl_nil, ↓vcl_cons, ↓lw_eq, ↓listVC, ↓memK, ↓memR, ↓envOf, ↓guardVC, ↓opVC, ↓pureVC, ↓binT, ↓wrapT, ↓TDsc.isW, ↓binW, ↓binVC, ↓bin8, ↓bin32, ↓bin64, ↓binInt, ↓shVC, ↓unVC, ↓cvVC, ↓rdVC, ↓loadVC, ↓pickC, ↓fillVC, ↓bndVC, ↓sliceVC, ↓bltVC, ↓storeVC, ↓appVC, ↓apzVC, ↓markVC, ↓copyVC, ↓callVC, ↓argsVC, ↓argVC, ↓bindR, ↓bindR1, ↓bindRs, ↓retW_eq, ↓extW_eq, ↓rowW_eq, ↓aggW_eq, ↓plv_nil, ↓plv_tk, ↓plv_fz, ↓plv_ld, ↓pt_eq, ↓pz_eq, ↓pl_eq, ↓delAll, ↓keepM_nil, ↓keepM, ↓extE, ↓extM, ↓leS, ↓leA, ↓retVC, ↓retR, ↓resVC, ↓resV1, ↓ressVC, ↓strU, ↓xAdd64, ↓xSub64, frz, frzs, both_true, both_false, both_dec, both_ndec, ev, absC, getA, setA, delA, tt, AV.good, AV.plain, AV.isSl, AV.cells, AV.one, Cells.len, Cells.get, Cells.sub, Cells.part, Cells.agg, Cells.upd, Cells.set, Cells.cat, Cells.rep, Cells.ones, TDsc.agg, zOf, putE, dstB, letGo, quietOp, slotOp, true_or, or_true, List.append_eq, Int.cast_ofNat_Int, words_len, List.any_cons, List.any_nil, beq_iff_eq, Bool.decide_eq_true, Option.getD_some, Option.getD_none, Option.map_some, Option.map_none, Option.bind_some, Option.isSome_some, Option.isNone_some, Option.isNone_none, Option.isSome_none, ↓reduceIte, Nat.reduceEqDiff, Nat.reduceLT, Nat.reduceLeDiff, Nat.reduceAdd, Nat.reduceSub, Nat.reduceMul, Nat.reduceBEq, Int.reduceLE, Int.reduceLT, Int.reduceToNat, Int.reduceNeg, BitVec.reduceToNat, decide_true, decide_false, and_true, true_and, and_self, Bool.or_true, Bool.true_or, Bool.or_false, Bool.false_or, Bool.not_true, Bool.not_false, List.map_cons, List.map_nil, List.length_cons, List.length_nil, List.getElem?_toArray, List.getElem?_cons_zero, List.getElem?_cons_succ, List.getElem?_nil, forall_const, true_implies, reduceCtorEq, false_and, and_false, false_implies, implies_true, Bool.false_eq_true, Bool.true_eq_false, ne_eq, not_true, not_false_iff, Nat.sub_zero, Nat.zero_add, Nat.add_zero, List.drop_zero, List.drop_succ_cons, List.drop_nil, List.take_zero, List.take_succ_cons, List.take_nil, List.set_cons_zero, List.set_cons_succ, List.nil_append, List.cons_append, List.append_nil, List.replicate_zero, List.replicate_succ, BitVec.ofNat_eq_ofNat, Option.some.injEq, AV.int.injEq, AV.u64.injEq, AV.u32.injEq, AV.u8.injEq, AV.bool.injEq, AV.a64.injEq, AV.a32.injEq, AV.a8.injEq, Nat.zero_le, Int.toNat_natCast, ct6, hx, hn, ho, ha, cMul]
      refine ⟨fun hlt => ?_, fun hge => ?_⟩
      · have hlt : i < 4 := by omega
        refine ⟨by omega, hlt, loop_ _ _ _ (ι := {s : Nat × List U64 × List U64 × U64 // PowI (val xs) ns i s}) (fun s => ⟨[(13, .int (s.1.1 : Int)), (7, .u64 s.1.2.2.2), (10, .int (i : Int)), (9, .a64 ns), (5, .ptr 5 g3 0), (4, .ptr 4 g2 0), (3, .ptr 3 g1 0), (2, .ptr 2 g0 0)], [(5, .own g3 39 (.c64 s.1.2.1)), (4, .own g2 39 (.c64 [0, 0, 0, 0])), (3, .own g1 39 (.c64 ns)), (2, .own g0 39 (.c64 s.1.2.2.1))], 6⟩) (fun s => 64 - s.1.1) ⟨(0, out, a, g64 ns i), pow_start hI⟩ ?_ ?_⟩
        · simp (maxSteps := 10000000) (implicitDefEqProofs := false) only [↓both_true, ↓both_false, ↓entryVC, ↓vc_skip, ↓vc_draw, ↓vc_list, ↓vc_seq, ↓vc_seqn, ↓vc_seqe, ↓vc_seqr, ↓vc_cond, ↓condVC, ↓vc_block, ↓vc_blockn, ↓vc_blockr, ↓vc_blocke, ↓vc_loop, ↓vc_exit, ↓vc_ret, ↓vc_loopn, ↓vc_loope, ↓vc_loopr, ↓vcl_nil, ↓vcl_cons, ↓lw_eq, ↓listVC, ↓memK, ↓memR, ↓envOf, ↓guardVC, ↓opVC, ↓pureVC, ↓binT, ↓wrapT, ↓TDsc.isW, ↓binW, ↓binVC, ↓bin8, ↓bin32, ↓bin64, ↓binInt, ↓shVC, ↓unVC, ↓cvVC, ↓rdVC, ↓loadVC, ↓pickC, ↓fillVC, ↓bndVC, ↓sliceVC, ↓bltVC, ↓storeVC, ↓appVC, ↓apzVC, ↓markVC, ↓copyVC, ↓callVC, ↓argsVC, ↓argVC, ↓bindR, ↓bindR1, ↓bindRs, ↓retW_eq, ↓extW_eq, ↓rowW_eq, ↓aggW_eq, ↓plv_nil, ↓plv_tk, ↓plv_fz, ↓plv_ld, ↓pt_eq, ↓pz_eq, ↓pl_eq, ↓delAll, ↓keepM_nil, ↓keepM, ↓extE, ↓extM, ↓leS, ↓leA, ↓retVC, ↓retR, ↓resVC, ↓resV1, ↓ressVC, ↓strU, ↓xAdd64, ↓xSub64, frz, frzs, both_true, both_false, both_dec, both_ndec, ev, absC, getA, setA, delA, tt, AV.good, AV.plain, AV.isSl, AV.cells, AV.one, Cells.len, Cells.get, Cells.sub, Cells.part, Cells.agg, Cells.upd, Cells.set, Cells.cat, Cells.rep, Cells.ones, TDsc.agg, zOf, putE, dstB, letGo, quietOp, slotOp, true_or, or_true, List.append_eq, Int.cast_ofNat_Int, words_len, List.any_cons, List.any_nil, beq_iff_eq, Bool.decide_eq_true, Option.getD_some, Option.getD_none, Option.map_some, Option.map_none, Option.bind_some, Option.isSome_some, Option.isNone_some, Option.isNone_none, Option.isSome_none, ↓reduceIte, Nat.reduceEqDiff, Nat.reduceLT, Nat.reduceLeDiff, Nat.reduceAdd, Nat.reduceSub, Nat.reduceMul, Nat.reduceBEq, Int.reduceLE, Int.reduceLT, Int.reduceToNat, Int.reduceNeg, BitVec.reduceToNat, decide_true, decide_false, and_true, true_and, and_self, Bool.or_true, Bool.true_or, Bool.or_false, Bool.false_or, Bool.not_true, Bool.not_false, List.map_cons, List.map_nil, List.length_cons, List.length_nil, List.getElem?_toArray, List.getElem?_cons_zero, List.getElem?_cons_succ, List.getElem?_nil, forall_const, true_implies, reduceCtorEq, false_and, and_false, false_implies, implies_true, Bool.false_eq_true, Bool.true_eq_false, ne_eq, not_true, not_false_iff, Nat.sub_zero, Nat.zero_add, Nat.add_zero, List.drop_zero, List.drop_succ_cons, List.drop_nil, List.take_zero, List.take_succ_cons, List.take_nil, List.set_cons_zero, List.set_cons_succ, List.nil_append, List.cons_append, List.append_nil, List.replicate_zero, List.replicate_succ, BitVec.ofNat_eq_ofNat, Option.some.injEq, AV.int.injEq, AV.u64.injEq, AV.u32.injEq, AV.u8.injEq, AV.bool.injEq, AV.a64.injEq, AV.a32.injEq, AV.a8.injEq, Nat.zero_le, Int.toNat_natCast, ct6, hx]
          try trivial
        · rintro ⟨⟨j, out, a, w⟩, hJ⟩
          obtain ⟨hj, ho, ha, _, _⟩ := id hJ
          dsimp only at hj ho ha
          simp (maxSteps := 10000000) (implicitDefEqProofs := false) only [↓both_true, ↓both_false, ↓entryVC, ↓vc_skip, ↓vc_draw, ↓vc_list, ↓vc_seq, ↓vc_seqn, ↓vc_seqe, ↓vc_seqr, ↓vc_cond, ↓condVC, ↓vc_block, ↓vc_blockn, ↓vc_blockr, ↓vc_blocke, ↓vc_loop, ↓vc_exit, ↓vc_ret, ↓vc_loopn, ↓vc_loope, ↓vc_loopr, ↓vcl_nil, ↓vcl_cons, ↓lw_eq, ↓listVC, ↓memK, ↓memR, ↓envOf, ↓guardVC, ↓opVC, ↓pureVC, ↓binT, ↓wrapT, ↓TDsc.isW, ↓binW, ↓binVC, ↓bin8, ↓bin32, ↓bin64, ↓binInt, ↓shVC, ↓unVC, ↓cvVC, ↓rdVC, ↓loadVC, ↓pickC, ↓fillVC, ↓bndVC, ↓sliceVC, ↓bltVC, ↓storeVC, ↓appVC, ↓apzVC, ↓markVC, ↓copyVC, ↓callVC, ↓argsVC, ↓argVC, ↓bindR, ↓bindR1, ↓bindRs, ↓retW_eq, ↓extW_eq, ↓rowW_eq, ↓aggW_eq, ↓plv_nil, ↓plv_tk, ↓plv_fz, ↓plv_ld, ↓pt_eq, ↓pz_eq, ↓pl_eq, ↓delAll, ↓keepM_nil, ↓keepM, ↓extE, ↓extM, ↓leS, ↓leA, ↓retVC, ↓retR, ↓resVC, ↓resV1, ↓ressVC, ↓strU, ↓xAdd64, ↓xSub64, frz, frzs, both_true, both_false, both_dec, both_ndec, ev, absC, getA, setA, delA, tt, AV.good, AV.plain, AV.isSl, AV.cells, AV.one, Cells.len, Cells.get, Cells.sub, Cells.part, Cells.agg, Cells.upd, Cells.set, Cells.cat, Cells.rep, Cells.ones, TDsc.agg, zOf, putE, dstB, letGo, quietOp, slotOp, true_or, or_true, List.append_eq, Int.cast_ofNat_Int, words_len, List.any_cons, List.any_nil, beq_iff_eq, Bool.decide_eq_true, Option.getD_some, Option.getD_none, Option.map_some, Option.map_none, Option.bind_some, Option.isSome_some, Option.isNone_some, Option.isNone_none, Option.isSome_none, ↓reduceIte, Nat.reduceEqDiff, Nat.reduceLT, Nat.reduceLeDiff, Nat.reduceAdd, Nat.reduceSub, Nat.reduceMul, Nat.reduceBEq, Int.reduceLE, Int.reduceLT, Int.reduceToNat, Int.reduceNeg, BitVec.reduceToNat, decide_true, decide_false, and_true, true_and, and_self, Bool.or_true, Bool.true_or, Bool.or_false, Bool.false_or, Bool.not_true, Bool.not_false, List.map_cons, List.map_nil, List.length_cons, List.length_nil, List.getElem?_toArray, List.getElem?_cons_zero, List.getElem?_cons_succ, List.getElem?_nil, forall_const, true_implies, reduceCtorEq, false_and, and_false, false_implies, implies_true, Bool.false_eq_true, Bool.true_eq_false, ne_eq, not_true, not_false_iff, Nat.sub_zero, Nat.zero_add, Nat.add_zero, List.drop_zero, List.drop_succ_cons, List.drop_nil, List.take_zero, List.take_succ_cons, List.take_nil, List.set_cons_zero, List.set_cons_succ, List.nil_append, List.cons_append, List.append_nil, List.replicate_zero, List.replicate_succ, BitVec.ofNat_eq_ofNat, Option.some.injEq, AV.int.injEq, AV.u64.injEq, AV.u32.injEq, AV.u8.injEq, AV.bool.injEq, AV.a64.injEq, AV.a32.injEq, AV.a8.injEq, Nat.zero_le, Int.toNat_natCast, ct6, hx, hn, ho, ha, cMul]
          refine ⟨fun hlt => ?_, fun hge => ?_⟩
          · have hlt : j < 64 := by omega
            obtain ⟨e1, e2⟩ := pow_step hlt hJ
            refine ⟨fun hb => ?_, fun hb => ?_⟩
            · have hb : w &&& 1#64 ≠ 0#64 := by first | exact hb | (simpa using hb)
              exact ⟨by simp [intIn]; omega, ⟨_, e1 hb⟩, by dsimp only; omega, ⟨by simp, rfl⟩, rfl, rfl⟩
            · have hb : w &&& 1#64 = 0#64 := by first | exact hb | (simpa using hb)
              exact ⟨by simp [intIn]; omega, ⟨_, e2 hb⟩, by dsimp only; omega, ⟨by simp, rfl⟩, rfl, rfl⟩
          · obtain rfl : j = 64 := by omega
            exact ⟨by simp [intIn]; omega, ⟨_, pow_row hlt hn hJ⟩, by dsimp only; omega, by simp, rfl, rfl⟩
      · obtain rfl : i = 4 := by omega
        rw [pow_end hn hI]
        exact h
  · exact h.elim

def cSquare : CT := fun cas K => match cas with
  | [.v (.a64 xs), .v (.a64 ys)] => (xs.length = 4 ∧ ys.length = 4) ∧ K (.one (.v (.bool (decide (val xs * val xs % PP = val ys % PP)))))
  | _ => False
def cInv : CT := fun cas K => match cas with
  | [.v (.a64 xs)] => xs.length = 4 ∧ K (.one (.v (.a64 (words 4 (powP (val xs) 57896044618658097711785492504343953926634992332820282019728792003956564819947)))))
  | _ => False
/-- What is tried as a root. -/
def rootR (a : Nat) : Nat := if powP a 7237005577332262213973186563042994240829374041602535252466099000494570602494 * powP a 7237005577332262213973186563042994240829374041602535252466099000494570602494 % PP = a % PP then powP a 7237005577332262213973186563042994240829374041602535252466099000494570602494 else powP a 7237005577332262213973186563042994240829374041602535252466099000494570602494 * powP 2 14474011154664524427946373126085988481658748083205070504932198000989141204987 % PP
/-- A square root, the even one. -/
def rootF (a : Nat) : Nat × Bool := if rootR a * rootR a % PP = a % PP then (if rootR a % 2 = 1 then (PP - rootR a) % PP else rootR a, true) else (0, false)
theorem rootR_lt (a : Nat) : rootR a < PP := by unfold rootR; split; exact powP_lt _ _; exact Nat.mod_lt _ PP_pos
theorem E8_words : words 4 7237005577332262213973186563042994240829374041602535252466099000494570602494 = [18446744073709551614, 18446744073709551615, 18446744073709551615, 1152921504606846975] := by decide
theorem Q4_words : words 4 14474011154664524427946373126085988481658748083205070504932198000989141204987 = [18446744073709551611, 18446744073709551615, 18446744073709551615, 2305843009213693951] := by decide
theorem val_E8 : val [18446744073709551614#64, 18446744073709551615#64, 18446744073709551615#64, 1152921504606846975#64] = 7237005577332262213973186563042994240829374041602535252466099000494570602494 := by decide
theorem val_Q4 : val [18446744073709551611#64, 18446744073709551615#64, 18446744073709551615#64, 2305843009213693951#64] = 14474011154664524427946373126085988481658748083205070504932198000989141204987 := by decide
theorem low_bit (r : Nat) : (g64 (words 4 r) 0 &&& 1#64 = 0#64) = (r % 2 = 0) := by
  have e : (g64 (words 4 r) 0 &&& 1#64).toNat = r % 2 := by
    rw [show g64 (words 4 r) 0 = BitVec.ofNat 64 r from rfl, BitVec.toNat_and, show (1#64).toNat = 2 ^ 1 - 1 from rfl, Nat.and_two_pow_sub_one_eq_mod, BitVec.toNat_ofNat]
    omega
  apply propext
  constructor
  · intro h; rw [← e, h]; rfl
  · intro h; exact BitVec.eq_of_toNat_eq (by rw [e, h]; rfl)
theorem val_two : val (words 4 2) = 2 := by decide
theorem val_zero : val [0#64, 0#64, 0#64, 0#64] = 0 := by decide
theorem sub_zero {r : Nat} (h : r < PP) : (0 % PP + PP - r % PP) % PP = (PP - r) % PP := by rw [Nat.zero_mod, Nat.zero_add, Nat.mod_eq_of_lt h]
theorem zero_words : words 4 0 = [0#64, 0#64, 0#64, 0#64] := by decide
theorem root_none {a r : Nat} (e : rootR a = r) (h : ¬ r * r % PP = a % PP) : rootF a = (0, false) := by unfold rootF; rw [e, if_neg h]
theorem root_odd {a r : Nat} (e : rootR a = r) (h : r * r % PP = a % PP) (h2 : ¬ r % 2 = 0) : rootF a = ((PP - r) % PP, true) := by unfold rootF; rw [e, if_pos h, if_pos (by omega)]
theorem root_even {a r : Nat} (e : rootR a = r) (h : r * r % PP = a % PP) (h2 : r % 2 = 0) : rootF a = (r, true) := by unfold rootF; rw [e, if_pos h, if_neg (by omega)]
theorem root_none2 {a r : Nat} (e : rootR a = r) (h : ¬ r * r % PP = a % PP) : (rootF a).1 = 0 ∧ (rootF a).2 = false := by rw [root_none e h]; exact ⟨rfl, rfl⟩
theorem root_odd2 {a r : Nat} (e : rootR a = r) (h : r * r % PP = a % PP) (h2 : ¬ r % 2 = 0) : (rootF a).1 = (PP - r) % PP ∧ (rootF a).2 = true := by rw [root_odd e h h2]; exact ⟨rfl, rfl⟩
theorem root_even2 {a r : Nat} (e : rootR a = r) (h : r * r % PP = a % PP) (h2 : r % 2 = 0) : (rootF a).1 = r ∧ (rootF a).2 = true := by rw [root_even e h h2]; exact ⟨rfl, rfl⟩
theorem rootR_one {a : Nat} (h : powP a 7237005577332262213973186563042994240829374041602535252466099000494570602494 * powP a 7237005577332262213973186563042994240829374041602535252466099000494570602494 % PP = a % PP) : rootR a = powP a 7237005577332262213973186563042994240829374041602535252466099000494570602494 := if_pos h
theorem rootR_two {a : Nat} (h : ¬ powP a 7237005577332262213973186563042994240829374041602535252466099000494570602494 * powP a 7237005577332262213973186563042994240829374041602535252466099000494570602494 % PP = a % PP) : rootR a = powP a 7237005577332262213973186563042994240829374041602535252466099000494570602494 * powP 2 14474011154664524427946373126085988481658748083205070504932198000989141204987 % PP := if_neg h
def cRoot : CT := fun cas K => match cas with
  | [.v (.a64 xs)] => xs.length = 4 ∧ K (.tup [.v (.a64 (words 4 (rootF (val xs)).1)), .v (.bool (rootF (val xs)).2)])
  | _ => False
def ct7 : CTab := fun F => match F with
  | 144 => .ext xAdd64
  | 148 => .ext xSub64
  | 124 => .fn cPlus
  | 145 => .fn cMinus
  | 146 => .fn cPrime
  | 141 => .fn cFrom
  | 125 => .fn cReduce
  | 143 => .fn cMul64
  | 122 => .fn cProduct
  | 123 => .fn cTimes
  | 73 => .fn cMul
  | 74 => .fn cAdd
  | 142 => .fn cSub
  | 139 => .fn cPow
  | _ => .fn noCT
theorem ct7_ok : CTok Try.prog ct7 := by
  intro F
  unfold ct7
  split
  · exact sAdd64
  · exact sSub64
  · exact sPlus
  · exact sMinus
  · exact sPrime
  · exact sFrom
  · exact sReduce
  · exact sMul64
  · exact sProduct
  · exact sTimes
  · exact sMul
  · exact sAdd
  · exact sSub
  · exact sPow
  · exact sound_none _ _
set_option maxRecDepth 100000 in
set_option maxHeartbeats 1000000 in
theorem sSquare : Sound Try.prog 140 cSquare := by
  refine sound_vc (tt := tt) (ct := ct7) ttok ct7_ok mixed Try.func140 rfl (by decide) (rs := [.tmp 4]) rfl (ts := [4]) (k := 0) ?_
  intro cas K h
  unfold cSquare at h
  split at h
  · rename_i xs ys
    rw [Try.ntmps140]
    refine ⟨by simp, ?_⟩
    obtain ⟨⟨hx, hy⟩, h⟩ := h
    simp (maxSteps := 10000000) (implicitDefEqProofs := false) only [↓both_true, ↓both_false, ↓entryVC, ↓vc_skip, ↓vc_draw, ↓vc_list, ↓vc_seq, ↓vc_seqn, ↓vc_seqe, ↓vc_seqr, ↓vc_cond, ↓condVC, ↓vc_block, ↓vc_blockn, ↓vc_blockr, ↓vc_blocke, ↓vc_loop, ↓vc_exit, ↓vc_ret, ↓vc_loopn, ↓vc_loope, ↓vc_loopr, ↓vcl_nil, ↓vcl_cons, ↓lw_eq, ↓listVC, ↓memK, ↓memR, ↓envOf, ↓guardVC, ↓opVC, ↓pureVC, ↓binT, ↓wrapT, ↓TDsc.isW, ↓binW, ↓binVC, ↓bin8, ↓bin32, ↓bin64, ↓binInt, ↓shVC, ↓unVC, ↓cvVC, ↓rdVC, ↓loadVC, ↓pickC, ↓fillVC, ↓bndVC, ↓sliceVC, ↓bltVC, ↓storeVC, ↓appVC, ↓apzVC, ↓markVC, ↓copyVC, ↓callVC, ↓argsVC, ↓argVC, ↓bindR, ↓bindR1, ↓bindRs, ↓retW_eq, ↓extW_eq, ↓rowW_eq, ↓aggW_eq, ↓plv_nil, ↓plv_tk, ↓plv_fz, ↓plv_ld, ↓pt_eq, ↓pz_eq, ↓pl_eq, ↓delAll, ↓keepM_nil, ↓keepM, ↓extE, ↓extM, ↓leS, ↓leA, ↓retVC, ↓retR, ↓resVC, ↓resV1, ↓ressVC, ↓strU, ↓xAdd64, ↓xSub64, frz, frzs, both_true, both_false, both_dec, both_ndec, ev, absC, getA, setA, delA, tt, AV.good, AV.plain, AV.isSl, AV.cells, AV.one, Cells.len, Cells.get, Cells.sub, Cells.part, Cells.agg, Cells.upd, Cells.set, Cells.cat, Cells.rep, Cells.ones, TDsc.agg, zOf, putE, dstB, letGo, quietOp, slotOp, true_or, or_true, List.append_eq, Int.cast_ofNat_Int, words_len, List.any_cons, List.any_nil, beq_iff_eq, Bool.decide_eq_true, Option.getD_some, Option.getD_none, Option.map_some, Option.map_none, Option.bind_some, Option.isSome_some, Option.isNone_some, Option.isNone_none, Option.isSome_none, ↓reduceIte, Nat.reduceEqDiff, Nat.reduceLT, Nat.reduceLeDiff, Nat.reduceAdd, Nat.reduceSub, Nat.reduceMul, Nat.reduceBEq, Int.reduceLE, Int.reduceLT, Int.reduceToNat, Int.reduceNeg, BitVec.reduceToNat, decide_true, decide_false, and_true, true_and, and_self, Bool.or_true, Bool.true_or, Bool.or_false, Bool.false_or, Bool.not_true, Bool.not_false, List.map_cons, List.map_nil, List.length_cons, List.length_nil, List.getElem?_toArray, List.getElem?_cons_zero, List.getElem?_cons_succ, List.getElem?_nil, forall_const, true_implies, reduceCtorEq, false_and, and_false, false_implies, implies_true, Bool.false_eq_true, Bool.true_eq_false, ne_eq, not_true, not_false_iff, Nat.sub_zero, Nat.zero_add, Nat.add_zero, List.drop_zero, List.drop_succ_cons, List.drop_nil, List.take_zero, List.take_succ_cons, List.take_nil, List.set_cons_zero, List.set_cons_succ, List.nil_append, List.cons_append, List.append_nil, List.replicate_zero, List.replicate_succ, BitVec.ofNat_eq_ofNat, Option.some.injEq, AV.int.injEq, AV.u64.injEq, AV.u32.injEq, AV.u8.injEq, AV.bool.injEq, AV.a64.injEq, AV.a32.injEq, AV.a8.injEq, Nat.zero_le, Int.toNat_natCast, ct7, cMul, cReduce, hx, hy]
    intro g0 g1
    refine draw_ _ _ _ [(.tk, 0), (.tk, 1), (.tk, 3), (.ld, 2), (.ld, 4), (.fz, 5), (.fz, 6)] [] [] (by kernel_rfl) ?_
    simp (maxSteps := 10000000) (implicitDefEqProofs := false) only [↓both_true, ↓both_false, ↓entryVC, ↓vc_skip, ↓vc_draw, ↓vc_list, ↓vc_seq, ↓vc_seqn, ↓vc_seqe, ↓vc_seqr, ↓vc_cond, ↓condVC, ↓vc_block, ↓vc_blockn, ↓vc_blockr, ↓vc_blocke, ↓vc_loop, ↓vc_exit, ↓vc_ret, ↓vc_loopn, ↓vc_loope, ↓vc_loopr, ↓vcl_nil, ↓vcl_cons, ↓lw_eq, ↓listVC, ↓memK, ↓memR, ↓envOf, ↓guardVC, ↓opVC, ↓pureVC, ↓binT, ↓wrapT, ↓TDsc.isW, ↓binW, ↓binVC, ↓bin8, ↓bin32, ↓bin64, ↓binInt, ↓shVC, ↓unVC, ↓cvVC, ↓rdVC, ↓loadVC, ↓pickC, ↓fillVC, ↓bndVC, ↓sliceVC, ↓bltVC, ↓storeVC, ↓appVC, ↓apzVC, ↓markVC, ↓copyVC, ↓callVC, ↓argsVC, ↓argVC, ↓bindR, ↓bindR1, ↓bindRs, ↓retW_eq, ↓extW_eq, ↓rowW_eq, ↓aggW_eq, ↓plv_nil, ↓plv_tk, ↓plv_fz, ↓plv_ld, ↓pt_eq, ↓pz_eq, ↓pl_eq, ↓delAll, ↓keepM_nil, ↓keepM, ↓extE, ↓extM, ↓leS, ↓leA, ↓retVC, ↓retR, ↓resVC, ↓resV1, ↓ressVC, ↓strU, ↓xAdd64, ↓xSub64, frz, frzs, both_true, both_false, both_dec, both_ndec, ev, absC, getA, setA, delA, tt, AV.good, AV.plain, AV.isSl, AV.cells, AV.one, Cells.len, Cells.get, Cells.sub, Cells.part, Cells.agg, Cells.upd, Cells.set, Cells.cat, Cells.rep, Cells.ones, TDsc.agg, zOf, putE, dstB, letGo, quietOp, slotOp, true_or, or_true, List.append_eq, Int.cast_ofNat_Int, words_len, List.any_cons, List.any_nil, beq_iff_eq, Bool.decide_eq_true, Option.getD_some, Option.getD_none, Option.map_some, Option.map_none, Option.bind_some, Option.isSome_some, Option.isNone_some, Option.isNone_none, Option.isSome_none, ↓reduceIte, Nat.reduceEqDiff, Nat.reduceLT, Nat.reduceLeDiff, Nat.reduceAdd, Nat.reduceSub, Nat.reduceMul, Nat.reduceBEq, Int.reduceLE, Int.reduceLT, Int.reduceToNat, Int.reduceNeg, BitVec.reduceToNat, decide_true, decide_false, and_true, true_and, and_self, Bool.or_true, Bool.true_or, Bool.or_false, Bool.false_or, Bool.not_true, Bool.not_false, List.map_cons, List.map_nil, List.length_cons, List.length_nil, List.getElem?_toArray, List.getElem?_cons_zero, List.getElem?_cons_succ, List.getElem?_nil, forall_const, true_implies, reduceCtorEq, false_and, and_false, false_implies, implies_true, Bool.false_eq_true, Bool.true_eq_false, ne_eq, not_true, not_false_iff, Nat.sub_zero, Nat.zero_add, Nat.add_zero, List.drop_zero, List.drop_succ_cons, List.drop_nil, List.take_zero, List.take_succ_cons, List.take_nil, List.set_cons_zero, List.set_cons_succ, List.nil_append, List.cons_append, List.append_nil, List.replicate_zero, List.replicate_succ, BitVec.ofNat_eq_ofNat, Option.some.injEq, AV.int.injEq, AV.u64.injEq, AV.u32.injEq, AV.u8.injEq, AV.bool.injEq, AV.a64.injEq, AV.a32.injEq, AV.a8.injEq, Nat.zero_le, Int.toNat_natCast, ct7, cMul, cReduce, hx, hy]
    simp only [words_inj (Nat.mod_lt (val xs * val xs) PP_pos) (Nat.mod_lt (val ys) PP_pos)]
    exact h
  · exact h.elim
def ct8 : CTab := fun F => match F with
  | 144 => .ext xAdd64
  | 148 => .ext xSub64
  | 124 => .fn cPlus
  | 145 => .fn cMinus
  | 146 => .fn cPrime
  | 141 => .fn cFrom
  | 125 => .fn cReduce
  | 143 => .fn cMul64
  | 122 => .fn cProduct
  | 123 => .fn cTimes
  | 73 => .fn cMul
  | 74 => .fn cAdd
  | 142 => .fn cSub
  | 139 => .fn cPow
  | 140 => .fn cSquare
  | _ => .fn noCT
theorem ct8_ok : CTok Try.prog ct8 := by
  intro F
  unfold ct8
  split
  · exact sAdd64
  · exact sSub64
  · exact sPlus
  · exact sMinus
  · exact sPrime
  · exact sFrom
  · exact sReduce
  · exact sMul64
  · exact sProduct
  · exact sTimes
  · exact sMul
  · exact sAdd
  · exact sSub
  · exact sPow
  · exact sSquare
  · exact sound_none _ _
set_option maxRecDepth 100000 in
set_option maxHeartbeats 1000000 in
theorem sRoot : Sound Try.prog 121 cRoot := by
  refine sound_vc (tt := tt) (ct := ct8) ttok ct8_ok mixed Try.func121 rfl (by decide) (rs := [.cell 2 39, .tmp 3]) rfl (ts := [39, 4]) (k := 0) ?_
  intro cas K h
  unfold cRoot at h
  split at h
  · rename_i xs
    rw [Try.ntmps121]
    refine ⟨by simp, ?_⟩
    obtain ⟨hx, h⟩ := h
    simp (maxSteps := 10000000) (implicitDefEqProofs := false) only [↓both_true, ↓both_false, ↓entryVC, ↓vc_skip, ↓vc_draw, ↓vc_list, ↓vc_seq, ↓vc_seqn, ↓vc_seqe, ↓vc_seqr, ↓vc_cond, ↓condVC, ↓vc_block, ↓vc_blockn, ↓vc_blockr, ↓vc_blocke, ↓vc_loop, ↓vc_exit, ↓vc_ret, ↓vc_loopn, ↓vc_loope, ↓vc_loopr, ↓vcl_nil, ↓vcl_cons, ↓lw_eq, ↓listVC, ↓memK, ↓memR, ↓envOf, ↓guardVC, ↓opVC, ↓pureVC, ↓binT, ↓wrapT, ↓TDsc.isW, ↓binW, ↓binVC, ↓bin8, ↓bin32, ↓bin64, ↓binInt, ↓shVC, ↓unVC, ↓cvVC, ↓rdVC, ↓loadVC, ↓pickC, ↓fillVC, ↓bndVC, ↓sliceVC, ↓bltVC, ↓storeVC, ↓appVC, ↓apzVC, ↓markVC, ↓copyVC, ↓callVC, ↓argsVC, ↓argVC, ↓bindR, ↓bindR1, ↓bindRs, ↓retW_eq, ↓extW_eq, ↓rowW_eq, ↓aggW_eq, ↓plv_nil, ↓plv_tk, ↓plv_fz, ↓plv_ld, ↓pt_eq, ↓pz_eq, ↓pl_eq, ↓delAll, ↓keepM_nil, ↓keepM, ↓extE, ↓extM, ↓leS, ↓leA, ↓retVC, ↓retR, ↓resVC, ↓resV1, ↓ressVC, ↓strU, ↓xAdd64, ↓xSub64, frz, frzs, both_true, both_false, both_dec, both_ndec, ev, absC, getA, setA, delA, tt, AV.good, AV.plain, AV.isSl, AV.cells, AV.one, Cells.len, Cells.get, Cells.sub, Cells.part, Cells.agg, Cells.upd, Cells.set, Cells.cat, Cells.rep, Cells.ones, TDsc.agg, zOf, putE, dstB, letGo, quietOp, slotOp, true_or, or_true, List.append_eq, Int.cast_ofNat_Int, words_len, List.any_cons, List.any_nil, beq_iff_eq, Bool.decide_eq_true, Option.getD_some, Option.getD_none, Option.map_some, Option.map_none, Option.bind_some, Option.isSome_some, Option.isNone_some, Option.isNone_none, Option.isSome_none, ↓reduceIte, Nat.reduceEqDiff, Nat.reduceLT, Nat.reduceLeDiff, Nat.reduceAdd, Nat.reduceSub, Nat.reduceMul, Nat.reduceBEq, Int.reduceLE, Int.reduceLT, Int.reduceToNat, Int.reduceNeg, BitVec.reduceToNat, decide_true, decide_false, and_true, true_and, and_self, Bool.or_true, Bool.true_or, Bool.or_false, Bool.false_or, Bool.not_true, Bool.not_false, List.map_cons, List.map_nil, List.length_cons, List.length_nil, List.getElem?_toArray, List.getElem?_cons_zero, List.getElem?_cons_succ, List.getElem?_nil, forall_const, true_implies, reduceCtorEq, false_and, and_false, false_implies, implies_true, Bool.false_eq_true, Bool.true_eq_false, ne_eq, not_true, not_false_iff, Nat.sub_zero, Nat.zero_add, Nat.add_zero, List.drop_zero, List.drop_succ_cons, List.drop_nil, List.take_zero, List.take_succ_cons, List.take_nil, List.set_cons_zero, List.set_cons_succ, List.nil_append, List.cons_append, List.append_nil, List.replicate_zero, List.replicate_succ, BitVec.ofNat_eq_ofNat, Option.some.injEq, AV.int.injEq, AV.u64.injEq, AV.u32.injEq, AV.u8.injEq, AV.bool.injEq, AV.a64.injEq, AV.a32.injEq, AV.a8.injEq, Nat.zero_le, Int.toNat_natCast, ct8, cMul, cPow, cSquare, cFrom, cSub, hx, val_E8, val_Q4, val4p, val4P, val_zero, low_bit, val_two]
    intro g0 g1 g2 g3 g4
    refine ⟨fun h1 => ?_, fun h1 => ?_⟩
    · have h1 : ¬ powP (val xs) 7237005577332262213973186563042994240829374041602535252466099000494570602494 * powP (val xs) 7237005577332262213973186563042994240829374041602535252466099000494570602494 % PP = val xs % PP := by first | exact h1 | (simpa using h1)
      refine draw_ _ _ _ [(.tk, 0), (.tk, 2), (.ld, 1), (.ld, 3), (.ld, 4), (.ld, 5)] [] [] (by kernel_rfl) ?_
      simp (maxSteps := 10000000) (implicitDefEqProofs := false) only [↓both_true, ↓both_false, ↓entryVC, ↓vc_skip, ↓vc_draw, ↓vc_list, ↓vc_seq, ↓vc_seqn, ↓vc_seqe, ↓vc_seqr, ↓vc_cond, ↓condVC, ↓vc_block, ↓vc_blockn, ↓vc_blockr, ↓vc_blocke, ↓vc_loop, ↓vc_exit, ↓vc_ret, ↓vc_loopn, ↓vc_loope, ↓vc_loopr, ↓vcl_nil, ↓vcl_cons, ↓lw_eq, ↓listVC, ↓memK, ↓memR, ↓envOf, ↓guardVC, ↓opVC, ↓pureVC, ↓binT, ↓wrapT, ↓TDsc.isW, ↓binW, ↓binVC, ↓bin8, ↓bin32, ↓bin64, ↓binInt, ↓shVC, ↓unVC, ↓cvVC, ↓rdVC, ↓loadVC, ↓pickC, ↓fillVC, ↓bndVC, ↓sliceVC, ↓bltVC, ↓storeVC, ↓appVC, ↓apzVC, ↓markVC, ↓copyVC, ↓callVC, ↓argsVC, ↓argVC, ↓bindR, ↓bindR1, ↓bindRs, ↓retW_eq, ↓extW_eq, ↓rowW_eq, ↓aggW_eq, ↓plv_nil, ↓plv_tk, ↓plv_fz, ↓plv_ld, ↓pt_eq, ↓pz_eq, ↓pl_eq, ↓delAll, ↓keepM_nil, ↓keepM, ↓extE, ↓extM, ↓leS, ↓leA, ↓retVC, ↓retR, ↓resVC, ↓resV1, ↓ressVC, ↓strU, ↓xAdd64, ↓xSub64, frz, frzs, both_true, both_false, both_dec, both_ndec, ev, absC, getA, setA, delA, tt, AV.good, AV.plain, AV.isSl, AV.cells, AV.one, Cells.len, Cells.get, Cells.sub, Cells.part, Cells.agg, Cells.upd, Cells.set, Cells.cat, Cells.rep, Cells.ones, TDsc.agg, zOf, putE, dstB, letGo, quietOp, slotOp, true_or, or_true, List.append_eq, Int.cast_ofNat_Int, words_len, List.any_cons, List.any_nil, beq_iff_eq, Bool.decide_eq_true, Option.getD_some, Option.getD_none, Option.map_some, Option.map_none, Option.bind_some, Option.isSome_some, Option.isNone_some, Option.isNone_none, Option.isSome_none, ↓reduceIte, Nat.reduceEqDiff, Nat.reduceLT, Nat.reduceLeDiff, Nat.reduceAdd, Nat.reduceSub, Nat.reduceMul, Nat.reduceBEq, Int.reduceLE, Int.reduceLT, Int.reduceToNat, Int.reduceNeg, BitVec.reduceToNat, decide_true, decide_false, and_true, true_and, and_self, Bool.or_true, Bool.true_or, Bool.or_false, Bool.false_or, Bool.not_true, Bool.not_false, List.map_cons, List.map_nil, List.length_cons, List.length_nil, List.getElem?_toArray, List.getElem?_cons_zero, List.getElem?_cons_succ, List.getElem?_nil, forall_const, true_implies, reduceCtorEq, false_and, and_false, false_implies, implies_true, Bool.false_eq_true, Bool.true_eq_false, ne_eq, not_true, not_false_iff, Nat.sub_zero, Nat.zero_add, Nat.add_zero, List.drop_zero, List.drop_succ_cons, List.drop_nil, List.take_zero, List.take_succ_cons, List.take_nil, List.set_cons_zero, List.set_cons_succ, List.nil_append, List.cons_append, List.append_nil, List.replicate_zero, List.replicate_succ, BitVec.ofNat_eq_ofNat, Option.some.injEq, AV.int.injEq, AV.u64.injEq, AV.u32.injEq, AV.u8.injEq, AV.bool.injEq, AV.a64.injEq, AV.a32.injEq, AV.a8.injEq, Nat.zero_le, Int.toNat_natCast, ct8, cMul, cPow, cSquare, cFrom, cSub, hx, val_E8, val_Q4, val4p, val4P, val_zero, low_bit, val_two, h1]
      refine ⟨fun h2 => ?_, fun h2 => ⟨fun h3 => ?_, fun h3 => ?_⟩⟩
      · have h2 : ¬ (powP (val xs) 7237005577332262213973186563042994240829374041602535252466099000494570602494 * powP 2 14474011154664524427946373126085988481658748083205070504932198000989141204987 % PP) * (powP (val xs) 7237005577332262213973186563042994240829374041602535252466099000494570602494 * powP 2 14474011154664524427946373126085988481658748083205070504932198000989141204987 % PP) % PP = val xs % PP := by first | exact h2 | (simpa using h2)
        rw [(root_none2 (rootR_two h1) h2).1, (root_none2 (rootR_two h1) h2).2] at h
        exact h
      · have h2 : (powP (val xs) 7237005577332262213973186563042994240829374041602535252466099000494570602494 * powP 2 14474011154664524427946373126085988481658748083205070504932198000989141204987 % PP) * (powP (val xs) 7237005577332262213973186563042994240829374041602535252466099000494570602494 * powP 2 14474011154664524427946373126085988481658748083205070504932198000989141204987 % PP) % PP = val xs % PP := by first | exact h2 | (simpa using h2)
        have h3 : ¬ (powP (val xs) 7237005577332262213973186563042994240829374041602535252466099000494570602494 * powP 2 14474011154664524427946373126085988481658748083205070504932198000989141204987 % PP) % 2 = 0 := by first | exact h3 | (simpa using h3)
        rw [(root_odd2 (rootR_two h1) h2 h3).1, (root_odd2 (rootR_two h1) h2 h3).2] at h
        rw [sub_zero (Nat.mod_lt _ PP_pos)]
        exact h
      · have h2 : (powP (val xs) 7237005577332262213973186563042994240829374041602535252466099000494570602494 * powP 2 14474011154664524427946373126085988481658748083205070504932198000989141204987 % PP) * (powP (val xs) 7237005577332262213973186563042994240829374041602535252466099000494570602494 * powP 2 14474011154664524427946373126085988481658748083205070504932198000989141204987 % PP) % PP = val xs % PP := by first | exact h2 | (simpa using h2)
        have h3 : (powP (val xs) 7237005577332262213973186563042994240829374041602535252466099000494570602494 * powP 2 14474011154664524427946373126085988481658748083205070504932198000989141204987 % PP) % 2 = 0 := by first | exact h3 | (simpa using h3)
        rw [(root_even2 (rootR_two h1) h2 h3).1, (root_even2 (rootR_two h1) h2 h3).2] at h
        exact h
    · have h1 : powP (val xs) 7237005577332262213973186563042994240829374041602535252466099000494570602494 * powP (val xs) 7237005577332262213973186563042994240829374041602535252466099000494570602494 % PP = val xs % PP := by first | exact h1 | (simpa using h1)
      refine ⟨fun h2 => ?_, fun h2 => ⟨fun h3 => ?_, fun h3 => ?_⟩⟩
      · have h2 : ¬ powP (val xs) 7237005577332262213973186563042994240829374041602535252466099000494570602494 * powP (val xs) 7237005577332262213973186563042994240829374041602535252466099000494570602494 % PP = val xs % PP := by first | exact h2 | (simpa using h2)
        rw [(root_none2 (rootR_one h1) h2).1, (root_none2 (rootR_one h1) h2).2] at h
        exact h
      · have h2 : powP (val xs) 7237005577332262213973186563042994240829374041602535252466099000494570602494 * powP (val xs) 7237005577332262213973186563042994240829374041602535252466099000494570602494 % PP = val xs % PP := by first | exact h2 | (simpa using h2)
        have h3 : ¬ powP (val xs) 7237005577332262213973186563042994240829374041602535252466099000494570602494 % 2 = 0 := by first | exact h3 | (simpa using h3)
        rw [(root_odd2 (rootR_one h1) h2 h3).1, (root_odd2 (rootR_one h1) h2 h3).2] at h
        rw [sub_zero (powP_lt _ _)]
        exact h
      · have h2 : powP (val xs) 7237005577332262213973186563042994240829374041602535252466099000494570602494 * powP (val xs) 7237005577332262213973186563042994240829374041602535252466099000494570602494 % PP = val xs % PP := by first | exact h2 | (simpa using h2)
        have h3 : powP (val xs) 7237005577332262213973186563042994240829374041602535252466099000494570602494 % 2 = 0 := by first | exact h3 | (simpa using h3)
        rw [(root_even2 (rootR_one h1) h2 h3).1, (root_even2 (rootR_one h1) h2 h3).2] at h
        exact h
  · exact h.elim
end Go.Proofs.Ytkpbjkhgiackpaa.Fld
