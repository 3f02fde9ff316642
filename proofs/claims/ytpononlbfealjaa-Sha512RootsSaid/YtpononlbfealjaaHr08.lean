/- The document's primes and roots, by the engine. -/
import Derived.Test.YtpononlbfealjaaHf08
import Derived.Test.YtpononlbfealjaaN4r
import Derived.Test.YtpononlbfealjaaFz
namespace Go.Proofs.Ytpononlbfealjaa
open Go Go.RowKit
set_option linter.unusedVariables false
set_option linter.unusedSimpArgs false

def pl : Nat → List Nat
  | 0 => []
  | n + 1 => if (pl n).all (fun q => decide ((n + 2) % q ≠ 0)) then pl n ++ [n + 2] else pl n
theorem pl_mem : ∀ (n q : Nat), q ∈ pl n → 2 ≤ q ∧ q ≤ n + 1
  | 0, q, h => by simp [pl] at h
  | n + 1, q, h => by
    unfold pl at h
    split at h
    · rcases List.mem_append.1 h with h | h
      · have := pl_mem n q h; omega
      · simp at h; omega
    · have := pl_mem n q h; omega
theorem pl_up (n : Nat) : (pl n).length ≤ (pl (n + 1)).length := by
  rw [pl]; split <;> simp
theorem pl_mono : ∀ {m n : Nat}, m ≤ n → (pl m).length ≤ (pl n).length
  | m, 0, h => by rw [show m = 0 by omega]; exact Nat.le_refl _
  | m, n + 1, h => by
    by_cases hm : m = n + 1
    · rw [hm]; exact Nat.le_refl _
    · exact Nat.le_trans (pl_mono (show m ≤ n by omega)) (pl_up n)
theorem pl_long : (pl 408).length = 80 := by decide +kernel
theorem pl_short : (pl 407).length < 80 := by decide +kernel
/-- As words. -/
def plW (n : Nat) : List U64 := (pl n).map (BitVec.ofNat 64)
theorem plW_len (n : Nat) : (plW n).length = (pl n).length := List.length_map ..
theorem plW_get {n i : Nat} (hi : i < (pl n).length) : g64 (plW n) i = BitVec.ofNat 64 ((pl n)[i]'hi) := by
  simp [g64, plW, hi]
theorem pl_get {n i : Nat} (hn : n ≤ 408) (hi : i < (pl n).length) : (g64 (plW n) i).toNat = (pl n)[i]'hi ∧ 2 ≤ (pl n)[i]'hi := by
  have := pl_mem n _ (List.getElem_mem hi)
  rw [plW_get hi, BitVec.toNat_ofNat]
  exact ⟨Nat.mod_eq_of_lt (by omega), this.1⟩
def isP (n i : Nat) : Bool := ((pl n).take i).all (fun q => decide ((n + 2) % q ≠ 0))
theorem isP_succ {n i : Nat} (hn : n ≤ 408) (hi : i < (pl n).length) : isP n (i + 1) = (isP n i && decide (¬ (BitVec.ofNat 64 (n + 2) % g64 (plW n) i = 0#64))) := by
  obtain ⟨e, h2⟩ := pl_get hn hi
  have hb : (BitVec.ofNat 64 (n + 2) % g64 (plW n) i = 0#64) ↔ (n + 2) % (pl n)[i]'hi = 0 := by
    rw [← BitVec.toNat_inj, BitVec.toNat_umod, e, BitVec.toNat_ofNat, Nat.mod_eq_of_lt (a := n + 2) (by omega)]
    rfl
  unfold isP
  rw [List.take_succ_eq_append_getElem hi, List.all_append, List.all_cons, List.all_nil, Bool.and_true]
  congr 1
  exact decide_eq_decide.2 (not_congr hb.symm)
theorem isP_all {n : Nat} : isP n (pl n).length = (pl n).all (fun q => decide ((n + 2) % q ≠ 0)) := by
  unfold isP; rw [List.take_length]
theorem plW_yes {n : Nat} (h : isP n (pl n).length = true) : plW n ++ [BitVec.ofNat 64 (n + 2)] = plW (n + 1) := by
  rw [isP_all] at h
  unfold plW
  rw [show pl (n + 1) = pl n ++ [n + 2] by rw [pl, if_pos h], List.map_append]; rfl
theorem plW_no {n : Nat} (h : ¬ isP n (pl n).length = true) : plW (n + 1) = plW n := by
  rw [isP_all] at h
  unfold plW
  rw [show pl (n + 1) = pl n by rw [pl, if_neg h]]
def cPrimes : CT := fun cas K => match cas with
  | [.v (.int n)] => n = 80 ∧ K (.one (.s (.c64 (plW 408))))
  | _ => False
def pw3 (cube : Bool) (y : Nat) : Nat := if cube then y * y * y else y * y
def rootL (most : Nat) (cube : Bool) : Nat → Nat → Nat
  | 0, x => x
  | i + 1, x => if pw3 cube (x + 2 ^ i) ≤ most then rootL most cube i (x + 2 ^ i) else rootL most cube i x
def rootN (p : Nat) (cube : Bool) : Nat := rootL (p * 2 ^ (if cube then 192 else 128)) cube 69 0
def cRootP : CT := fun cas K => match cas with
  | [.v (.u64 p), .v (.bool cube)] => (p.toNat < 65536 ∧ 2 ^ 48 ≤ rootN p.toNat cube) ∧ K (.one (.v (.u64 (BitVec.ofNat 64 (rootN p.toNat cube)))))
  | _ => False
def RootI (p : Nat) (cube : Bool) (i : Nat) (e : List U32) : Prop := i ≤ 69 ∧ Can32 e ∧ nv32 e + 2 ^ i ≤ 2 ^ 69 ∧ rootL (p * 2 ^ (if cube then 192 else 128)) cube i (nv32 e) = rootN p cube
theorem rooti_start (p : Nat) (cube : Bool) : RootI p cube 69 [] := ⟨Nat.le_refl _, trivial, by simp [nv32], rfl⟩
theorem rooti_yes {p m : Nat} {cube : Bool} {e y : List U32} (h : RootI p cube (m + 1) e) (hy : Can32 y) (hv : nv32 y = nv32 e + 2 ^ m) (hle : pw3 cube (nv32 e + 2 ^ m) ≤ p * 2 ^ (if cube then 192 else 128)) : RootI p cube m y := by
  obtain ⟨h1, h2, h3, h4⟩ := h
  rw [Nat.pow_succ] at h3
  refine ⟨by omega, hy, by omega, ?_⟩
  rw [rootL, if_pos hle] at h4
  rw [hv]; exact h4
theorem rooti_no {p m : Nat} {cube : Bool} {e : List U32} (h : RootI p cube (m + 1) e) (hle : ¬ pw3 cube (nv32 e + 2 ^ m) ≤ p * 2 ^ (if cube then 192 else 128)) : RootI p cube m e := by
  obtain ⟨h1, h2, h3, h4⟩ := h
  rw [Nat.pow_succ] at h3
  refine ⟨by omega, h2, by omega, ?_⟩
  rw [rootL, if_neg hle] at h4
  exact h4
theorem lt96 {x : Nat} (h : x ≤ 2 ^ 69) : x < 4294967296 ^ 3 := Nat.lt_of_le_of_lt h (by decide)
theorem sgn_le {a b : Nat} : sgn a b ≤ 0 ↔ a ≤ b := by
  rcases Nat.lt_trichotomy a b with h | h | h
  · rw [sgn_lt h]; exact ⟨fun _ => by omega, fun _ => by decide⟩
  · rw [sgn_eq h]; exact ⟨fun _ => by omega, fun _ => by decide⟩
  · rw [sgn_gt h]; exact ⟨fun hh => absurd hh (by decide), fun hh => by omega⟩
theorem can_len {e : List U32} {k : Nat} (h : Can32 e) (hv : nv32 e < 4294967296 ^ k) : e.length ≤ k := by
  by_cases hn : e = []
  · subst hn; exact Nat.zero_le _
  · have h1 := h.ge hn
    have h2 : 4294967296 ^ (e.length - 1) < 4294967296 ^ k := Nat.lt_of_le_of_lt h1 hv
    have h3 := (Nat.pow_lt_pow_iff_right (by decide : 1 < 4294967296)).1 h2
    omega
theorem dig4 {d : List U64} (hd : D16 d) (hv : 2 ^ 48 ≤ nv16 d) : 4 ≤ d.length ∧ g64 d 0 + g64 d 1 <<< 16 + g64 d 2 <<< 32 + g64 d 3 <<< 48 = BitVec.ofNat 64 (nv16 d) := by
  have hl : 4 ≤ d.length := by
    rcases Nat.lt_or_ge d.length 4 with h | h
    · have h1 := nv16_lt d hd
      have h2 : (65536 : Nat) ^ d.length ≤ 65536 ^ 3 := Nat.pow_le_pow_right (by decide) (by omega)
      have h3 : (65536 : Nat) ^ 3 = 2 ^ 48 := by decide
      omega
    · exact h
  refine ⟨hl, ?_⟩
  have g0 := hd.get 0
  have g1 := hd.get 1
  have g2 := hd.get 2
  have g3 := hd.get 3
  have e0 := nv16_drop d 0
  have e1 := nv16_drop d 1
  have e2 := nv16_drop d 2
  have e3 := nv16_drop d 3
  rw [List.drop_zero] at e0
  simp only [Nat.zero_add, Nat.reduceAdd] at e0 e1 e2 e3
  apply BitVec.eq_of_toNat_eq
  simp only [BitVec.toNat_add, BitVec.toNat_shiftLeft, BitVec.toNat_ofNat, Nat.shiftLeft_eq]
  omega
def r0 : CTab := fun F => match F with
  | _ => .fn noCT
theorem r0_ok : CTok Try.prog r0 := by
  intro F
  unfold r0
  split
  · exact sound_none _ _
set_option maxRecDepth 100000 in
set_option maxHeartbeats 1000000 in
theorem sPrimes : Sound Try.prog 26 cPrimes := by
  refine sound_vc (tt := tt) (ct := r0) ttok r0_ok mixed Try.func26 rfl (by decide) (rs := [.tmp 2]) rfl (ts := [45]) (k := 0) ?_
  intro cas K h
  unfold cPrimes at h
  split at h
  · rename_i n
    rw [Try.ntmps26]
    refine ⟨by simp, ?_⟩
    obtain ⟨rfl, h⟩ := h
    simp (maxSteps := 10000000) (implicitDefEqProofs := false) only [↓both_true, ↓both_false, ↓entryVC, ↓vc_skip, ↓vc_draw, ↓vc_list, ↓vc_seq, ↓vc_seqn, ↓vc_seqe, ↓vc_seqr, ↓vc_cond, ↓condVC, ↓vc_block, ↓vc_blockn, ↓vc_blockr, ↓vc_blocke, ↓vc_loop, ↓vc_exit, ↓vc_ret, ↓vc_loopn, ↓vc_loope, ↓vc_loopr, ↓vcl_nil, ↓vcl_cons, ↓lw_eq, ↓guardVC, ↓opVC, ↓pureVC, ↓binVC, ↓bin8, ↓bin32, ↓bin64, ↓binInt, ↓shVC, ↓unVC, ↓cvVC, ↓rdVC, ↓loadVC, ↓pickC, ↓fillVC, ↓bndVC, ↓sliceVC, ↓bltVC, ↓storeVC, ↓appVC, ↓apzVC, ↓markVC, ↓copyVC, ↓callVC, ↓argsVC, ↓argVC, ↓bindR, ↓bindR1, ↓bindRs, ↓retW_eq, ↓extW_eq, ↓rowW_eq, ↓aggW_eq, ↓plv_nil, ↓plv_tk, ↓plv_fz, ↓plv_ld, ↓pt_eq, ↓pz_eq, ↓pl_eq, ↓delAll, ↓keepM, ↓extM, ↓leS, ↓leA, ↓retVC, ↓retR, ↓resVC, ↓resV1, ↓ressVC, ↓xAdd64, ↓xSub64, ↓vc_jn, ↓vc_je, ↓vc_jr, ↓pickA, ↓stU_env, ↓stU_mem, ↓vc_jn, ↓vc_je, ↓vc_jr, ↓pickA, ↓stU_env, ↓stU_mem, both_true, both_false, both_dec, both_ndec, ev, absC, getA, setA, delA, tt, AV.good, AV.plain, AV.isSl, AV.cells, AV.one, Cells.len, Cells.get, Cells.sub, Cells.part, Cells.agg, Cells.upd, Cells.set, Cells.cat, Cells.rep, Cells.ones, TDsc.agg, zOf, putE, dstB, letGo, quietOp, slotOp, pickA, pickA, List.append_eq, Int.cast_ofNat_Int, List.any_cons, List.any_nil, beq_iff_eq, Bool.decide_eq_true, Option.getD_some, Option.getD_none, Option.map_some, Option.map_none, Option.bind_some, Option.isSome_some, Option.isNone_some, Option.isNone_none, Option.isSome_none, ↓reduceIte, Nat.reduceEqDiff, Nat.reduceLT, Nat.reduceLeDiff, Nat.reduceAdd, Nat.reduceSub, Nat.reduceMul, Nat.reduceBEq, Int.reduceLE, Int.reduceLT, Int.reduceToNat, Int.reduceNeg, BitVec.reduceToNat, decide_true, decide_false, and_true, true_and, and_self, Bool.or_true, Bool.true_or, Bool.or_false, Bool.false_or, Bool.not_true, Bool.not_false, List.map_cons, List.map_nil, List.length_cons, List.length_nil, List.getElem?_toArray, List.getElem?_cons_zero, List.getElem?_cons_succ, List.getElem?_nil, forall_const, true_implies, reduceCtorEq, false_and, and_false, false_implies, implies_true, Bool.false_eq_true, Bool.true_eq_false, ne_eq, not_true, not_false_iff, Nat.sub_zero, Nat.zero_add, Nat.add_zero, List.drop_zero, List.drop_succ_cons, List.drop_nil, List.take_zero, List.take_succ_cons, List.take_nil, List.set_cons_zero, List.set_cons_succ, List.nil_append, List.cons_append, List.append_nil, List.replicate_zero, List.replicate_succ, BitVec.ofNat_eq_ofNat, Option.some.injEq, AV.int.injEq, AV.u64.injEq, AV.u32.injEq, AV.u8.injEq, AV.bool.injEq, AV.a64.injEq, AV.a32.injEq, AV.a8.injEq, Nat.zero_le, Int.toNat_natCast, r0, plW_len]
    intro g
    refine loopU _ _ _ [0, 2] [] 2 (ι := {s : Nat × Value // s.1 ≤ 408}) (fun s => [(4, .u64 (BitVec.ofNat 64 (s.1.1 + 2))), (3, .grow 1 s.1.2 (pl s.1.1).length)]) (fun s => [(1, .row s.1.2 22 (.c64 (plW s.1.1)))]) (fun s => 408 - s.1.1) ?_ ?_
    · refine LeJ.slc 3 1 rfl rfl (by decide) fun v0 => ?_
      refine LeJ.mk ⟨(0, v0), Nat.zero_le _⟩ trivial ?_
      simp (maxSteps := 1000000) only [leS, leA, stU_env, stU_mem, pickA, getA, delA, setA, Cells.part, Cells.len, List.take_nil, List.drop_nil, List.length_nil, Nat.zero_add, ↓reduceIte, Nat.reduceEqDiff, Option.some.injEq, List.nil_append, List.cons_append, true_and, and_true, and_self, reduceCtorEq, AV.int.injEq, ME.own.injEq, ME.row.injEq, Cells.c32.injEq, Cells.c64.injEq, Cells.c8.injEq, AV.ptr.injEq, AV.ros.injEq, AV.grow.injEq, AV.u64.injEq, AV.u32.injEq, pl, plW]
      first | done | rfl | exact ⟨rfl, rfl⟩ | exact ⟨rfl, rfl, rfl⟩ | trace_state
    · rintro ⟨⟨k, v1⟩, hk⟩
      dsimp only at hk
      simp (maxSteps := 10000000) (implicitDefEqProofs := false) only [↓both_true, ↓both_false, ↓entryVC, ↓vc_skip, ↓vc_draw, ↓vc_list, ↓vc_seq, ↓vc_seqn, ↓vc_seqe, ↓vc_seqr, ↓vc_cond, ↓condVC, ↓vc_block, ↓vc_blockn, ↓vc_blockr, ↓vc_blocke, ↓vc_loop, ↓vc_exit, ↓vc_ret, ↓vc_loopn, ↓vc_loope, ↓vc_loopr, ↓vcl_nil, ↓vcl_cons, ↓lw_eq, ↓guardVC, ↓opVC, ↓pureVC, ↓binVC, ↓bin8, ↓bin32, ↓bin64, ↓binInt, ↓shVC, ↓unVC, ↓cvVC, ↓rdVC, ↓loadVC, ↓pickC, ↓fillVC, ↓bndVC, ↓sliceVC, ↓bltVC, ↓storeVC, ↓appVC, ↓apzVC, ↓markVC, ↓copyVC, ↓callVC, ↓argsVC, ↓argVC, ↓bindR, ↓bindR1, ↓bindRs, ↓retW_eq, ↓extW_eq, ↓rowW_eq, ↓aggW_eq, ↓plv_nil, ↓plv_tk, ↓plv_fz, ↓plv_ld, ↓pt_eq, ↓pz_eq, ↓pl_eq, ↓delAll, ↓keepM, ↓extM, ↓leS, ↓leA, ↓retVC, ↓retR, ↓resVC, ↓resV1, ↓ressVC, ↓xAdd64, ↓xSub64, ↓vc_jn, ↓vc_je, ↓vc_jr, ↓pickA, ↓stU_env, ↓stU_mem, ↓vc_jn, ↓vc_je, ↓vc_jr, ↓pickA, ↓stU_env, ↓stU_mem, both_true, both_false, both_dec, both_ndec, ev, absC, getA, setA, delA, tt, AV.good, AV.plain, AV.isSl, AV.cells, AV.one, Cells.len, Cells.get, Cells.sub, Cells.part, Cells.agg, Cells.upd, Cells.set, Cells.cat, Cells.rep, Cells.ones, TDsc.agg, zOf, putE, dstB, letGo, quietOp, slotOp, pickA, pickA, List.append_eq, Int.cast_ofNat_Int, List.any_cons, List.any_nil, beq_iff_eq, Bool.decide_eq_true, Option.getD_some, Option.getD_none, Option.map_some, Option.map_none, Option.bind_some, Option.isSome_some, Option.isNone_some, Option.isNone_none, Option.isSome_none, ↓reduceIte, Nat.reduceEqDiff, Nat.reduceLT, Nat.reduceLeDiff, Nat.reduceAdd, Nat.reduceSub, Nat.reduceMul, Nat.reduceBEq, Int.reduceLE, Int.reduceLT, Int.reduceToNat, Int.reduceNeg, BitVec.reduceToNat, decide_true, decide_false, and_true, true_and, and_self, Bool.or_true, Bool.true_or, Bool.or_false, Bool.false_or, Bool.not_true, Bool.not_false, List.map_cons, List.map_nil, List.length_cons, List.length_nil, List.getElem?_toArray, List.getElem?_cons_zero, List.getElem?_cons_succ, List.getElem?_nil, forall_const, true_implies, reduceCtorEq, false_and, and_false, false_implies, implies_true, Bool.false_eq_true, Bool.true_eq_false, ne_eq, not_true, not_false_iff, Nat.sub_zero, Nat.zero_add, Nat.add_zero, List.drop_zero, List.drop_succ_cons, List.drop_nil, List.take_zero, List.take_succ_cons, List.take_nil, List.set_cons_zero, List.set_cons_succ, List.nil_append, List.cons_append, List.append_nil, List.replicate_zero, List.replicate_succ, BitVec.ofNat_eq_ofNat, Option.some.injEq, AV.int.injEq, AV.u64.injEq, AV.u32.injEq, AV.u8.injEq, AV.bool.injEq, AV.a64.injEq, AV.a32.injEq, AV.a8.injEq, Nat.zero_le, Int.toNat_natCast, r0, plW_len]
      refine ⟨fun hlt => ?_, fun hge => ?_⟩
      · have hkT : k < 408 := by
          rcases Nat.lt_or_ge k 408 with h1 | h1
          · exact h1
          · have := pl_long
            rw [show k = 408 by omega] at hlt
            omega
        refine loopU _ _ _ [0, 2, 3, 4] [1] 2 (ι := {s : Nat // s ≤ (pl k).length}) (fun s => [(6, .int (s.1 : Int)), (5, .bool (isP k s.1))]) (fun _ => []) (fun s => (pl k).length - s.1) ?_ ?_
        · refine LeJ.mk ⟨0, Nat.zero_le _⟩ trivial ?_
          simp (maxSteps := 1000000) only [leS, leA, stU_env, stU_mem, pickA, getA, delA, setA, Cells.part, Cells.len, List.take_nil, List.drop_nil, List.length_nil, Nat.zero_add, ↓reduceIte, Nat.reduceEqDiff, Option.some.injEq, List.nil_append, List.cons_append, true_and, and_true, and_self, reduceCtorEq, AV.int.injEq, ME.own.injEq, ME.row.injEq, Cells.c32.injEq, Cells.c64.injEq, Cells.c8.injEq, AV.ptr.injEq, AV.ros.injEq, AV.grow.injEq, AV.u64.injEq, AV.u32.injEq, isP, List.take_zero, List.all_nil]
          first | done | exact ⟨rfl, rfl⟩ | rfl
        · rintro ⟨i, hi⟩
          simp (maxSteps := 10000000) (implicitDefEqProofs := false) only [↓both_true, ↓both_false, ↓entryVC, ↓vc_skip, ↓vc_draw, ↓vc_list, ↓vc_seq, ↓vc_seqn, ↓vc_seqe, ↓vc_seqr, ↓vc_cond, ↓condVC, ↓vc_block, ↓vc_blockn, ↓vc_blockr, ↓vc_blocke, ↓vc_loop, ↓vc_exit, ↓vc_ret, ↓vc_loopn, ↓vc_loope, ↓vc_loopr, ↓vcl_nil, ↓vcl_cons, ↓lw_eq, ↓guardVC, ↓opVC, ↓pureVC, ↓binVC, ↓bin8, ↓bin32, ↓bin64, ↓binInt, ↓shVC, ↓unVC, ↓cvVC, ↓rdVC, ↓loadVC, ↓pickC, ↓fillVC, ↓bndVC, ↓sliceVC, ↓bltVC, ↓storeVC, ↓appVC, ↓apzVC, ↓markVC, ↓copyVC, ↓callVC, ↓argsVC, ↓argVC, ↓bindR, ↓bindR1, ↓bindRs, ↓retW_eq, ↓extW_eq, ↓rowW_eq, ↓aggW_eq, ↓plv_nil, ↓plv_tk, ↓plv_fz, ↓plv_ld, ↓pt_eq, ↓pz_eq, ↓pl_eq, ↓delAll, ↓keepM, ↓extM, ↓leS, ↓leA, ↓retVC, ↓retR, ↓resVC, ↓resV1, ↓ressVC, ↓xAdd64, ↓xSub64, ↓vc_jn, ↓vc_je, ↓vc_jr, ↓pickA, ↓stU_env, ↓stU_mem, ↓vc_jn, ↓vc_je, ↓vc_jr, ↓pickA, ↓stU_env, ↓stU_mem, both_true, both_false, both_dec, both_ndec, ev, absC, getA, setA, delA, tt, AV.good, AV.plain, AV.isSl, AV.cells, AV.one, Cells.len, Cells.get, Cells.sub, Cells.part, Cells.agg, Cells.upd, Cells.set, Cells.cat, Cells.rep, Cells.ones, TDsc.agg, zOf, putE, dstB, letGo, quietOp, slotOp, pickA, pickA, List.append_eq, Int.cast_ofNat_Int, List.any_cons, List.any_nil, beq_iff_eq, Bool.decide_eq_true, Option.getD_some, Option.getD_none, Option.map_some, Option.map_none, Option.bind_some, Option.isSome_some, Option.isNone_some, Option.isNone_none, Option.isSome_none, ↓reduceIte, Nat.reduceEqDiff, Nat.reduceLT, Nat.reduceLeDiff, Nat.reduceAdd, Nat.reduceSub, Nat.reduceMul, Nat.reduceBEq, Int.reduceLE, Int.reduceLT, Int.reduceToNat, Int.reduceNeg, BitVec.reduceToNat, decide_true, decide_false, and_true, true_and, and_self, Bool.or_true, Bool.true_or, Bool.or_false, Bool.false_or, Bool.not_true, Bool.not_false, List.map_cons, List.map_nil, List.length_cons, List.length_nil, List.getElem?_toArray, List.getElem?_cons_zero, List.getElem?_cons_succ, List.getElem?_nil, forall_const, true_implies, reduceCtorEq, false_and, and_false, false_implies, implies_true, Bool.false_eq_true, Bool.true_eq_false, ne_eq, not_true, not_false_iff, Nat.sub_zero, Nat.zero_add, Nat.add_zero, List.drop_zero, List.drop_succ_cons, List.drop_nil, List.take_zero, List.take_succ_cons, List.take_nil, List.set_cons_zero, List.set_cons_succ, List.nil_append, List.cons_append, List.append_nil, List.replicate_zero, List.replicate_succ, BitVec.ofNat_eq_ofNat, Option.some.injEq, AV.int.injEq, AV.u64.injEq, AV.u32.injEq, AV.u8.injEq, AV.bool.injEq, AV.a64.injEq, AV.a32.injEq, AV.a8.injEq, Nat.zero_le, Int.toNat_natCast, r0, plW_len]
          refine ⟨fun hlt2 => ?_, fun hge2 => ?_⟩
          · have hlt2 : i < (pl k).length := by omega
            obtain ⟨eg, g2⟩ := pl_get hk hlt2
            have hne : ¬ g64 (plW k) i = 0#64 := fun h0 => by rw [h0] at eg; have : (0#64 : U64).toNat = 0 := rfl; omega
            have hs := isP_succ hk hlt2
            cases hb : isP k i
            · rw [hb, Bool.false_and] at hs
              rw [both_false]
              repeat (refine And.intro (by first | omega | (simp only [intIn]; omega)) ?_)
              refine LeJ.mk ⟨i + 1, by omega⟩ (by dsimp only; omega) ?_
              simp (maxSteps := 1000000) only [leS, leA, stU_env, stU_mem, pickA, getA, delA, setA, Cells.part, Cells.len, List.take_nil, List.drop_nil, List.length_nil, Nat.zero_add, ↓reduceIte, Nat.reduceEqDiff, Option.some.injEq, List.nil_append, List.cons_append, true_and, and_true, and_self, reduceCtorEq, AV.int.injEq, ME.own.injEq, ME.row.injEq, Cells.c32.injEq, Cells.c64.injEq, Cells.c8.injEq, AV.ptr.injEq, AV.ros.injEq, AV.grow.injEq, AV.u64.injEq, AV.u32.injEq, hs]
              first | done | omega | exact ⟨by omega, trivial⟩
            · rw [hb, Bool.true_and] at hs
              rw [both_true]
              repeat (refine And.intro (by first | omega | (simp only [intIn]; omega)) ?_)
              (try refine ⟨hne, ?_⟩)
              repeat (refine And.intro (by first | omega | (simp only [intIn]; omega)) ?_)
              refine LeJ.mk ⟨i + 1, by omega⟩ (by dsimp only; omega) ?_
              simp (maxSteps := 1000000) only [leS, leA, stU_env, stU_mem, pickA, getA, delA, setA, Cells.part, Cells.len, List.take_nil, List.drop_nil, List.length_nil, Nat.zero_add, ↓reduceIte, Nat.reduceEqDiff, Option.some.injEq, List.nil_append, List.cons_append, true_and, and_true, and_self, reduceCtorEq, AV.int.injEq, ME.own.injEq, ME.row.injEq, Cells.c32.injEq, Cells.c64.injEq, Cells.c8.injEq, AV.ptr.injEq, AV.ros.injEq, AV.grow.injEq, AV.u64.injEq, AV.u32.injEq, hs, decide_not]
              first | done | omega | exact ⟨by omega, trivial⟩
          · obtain rfl : i = (pl k).length := by omega
            have e1 : BitVec.ofNat 64 (k + 2) + 1#64 = BitVec.ofNat 64 (k + 1 + 2) := by
              apply BitVec.eq_of_toNat_eq; simp only [BitVec.toNat_add, BitVec.toNat_ofNat]; omega
            have hlen : (pl k).length = (plW k).length := (plW_len k).symm
            cases hb : isP k (pl k).length
            · have hw := plW_no (by rw [hb]; exact Bool.false_ne_true)
              have hw2 : (pl (k + 1)).length = (pl k).length := by rw [← plW_len, hw, plW_len]
              rw [both_false]
              refine LeJ.mk ⟨(k + 1, v1), by dsimp only; omega⟩ (by dsimp only; omega) ?_
              simp (maxSteps := 1000000) only [leS, leA, stU_env, stU_mem, pickA, getA, delA, setA, Cells.part, Cells.len, List.take_nil, List.drop_nil, List.length_nil, Nat.zero_add, ↓reduceIte, Nat.reduceEqDiff, Option.some.injEq, List.nil_append, List.cons_append, true_and, and_true, and_self, reduceCtorEq, AV.int.injEq, ME.own.injEq, ME.row.injEq, Cells.c32.injEq, Cells.c64.injEq, Cells.c8.injEq, AV.ptr.injEq, AV.ros.injEq, AV.grow.injEq, AV.u64.injEq, AV.u32.injEq, e1, hw, hw2]
              first | done | rfl | exact ⟨rfl, rfl⟩
            · have hw := plW_yes hb
              rw [both_true]
              intro g2
              rw [hw, plW_len]
              refine ⟨by have h5 := pl_mono (show k + 1 ≤ 408 from hkT); rw [pl_long] at h5; omega, fun v2 => ?_⟩
              refine LeJ.mk ⟨(k + 1, v2), by dsimp only; omega⟩ (by dsimp only; omega) ?_
              simp (maxSteps := 1000000) only [leS, leA, stU_env, stU_mem, pickA, getA, delA, setA, Cells.part, Cells.len, List.take_nil, List.drop_nil, List.length_nil, Nat.zero_add, ↓reduceIte, Nat.reduceEqDiff, Option.some.injEq, List.nil_append, List.cons_append, true_and, and_true, and_self, reduceCtorEq, AV.int.injEq, ME.own.injEq, ME.row.injEq, Cells.c32.injEq, Cells.c64.injEq, Cells.c8.injEq, AV.ptr.injEq, AV.ros.injEq, AV.grow.injEq, AV.u64.injEq, AV.u32.injEq, e1]
              first | done | rfl | exact ⟨rfl, rfl⟩
      · have hkT : k = 408 := by
          rcases Nat.lt_or_ge k 408 with h1 | h1
          · have h2 := pl_mono (show k ≤ 407 by omega)
            have := pl_short
            omega
          · omega
        subst hkT
        exact h
  · exact h.elim
def r1 : CTab := fun F => match F with
  | 34 => .fn cDigits
  | 30 => .fn cFromR
  | 33 => .fn cCmp
  | 31 => .fn cAddR
  | 32 => .fn cMulR
  | 29 => .fn cShlR
  | _ => .fn noCT
theorem r1_ok : CTok Try.prog r1 := by
  intro F
  unfold r1
  split
  · exact sDigits
  · exact sFromR
  · exact sCmpR
  · exact sAddR
  · exact sMulR
  · exact sShlR
  · exact sound_none _ _
set_option maxRecDepth 100000 in
set_option maxHeartbeats 1000000 in
theorem sRootP : Sound Try.prog 27 cRootP := by
  refine sound_vc (tt := tt) (ct := r1) ttok r1_ok mixed Try.func27 rfl (by decide) (rs := [.tmp 4]) rfl (ts := [22]) (k := 0) ?_
  intro cas K h
  unfold cRootP at h
  split at h
  · rename_i p cube
    rw [Try.ntmps27]
    refine ⟨by simp, ?_⟩
    obtain ⟨⟨hp, hr⟩, h⟩ := h
    cases cube
    · simp (maxSteps := 10000000) (implicitDefEqProofs := false) only [↓both_true, ↓both_false, ↓entryVC, ↓vc_skip, ↓vc_draw, ↓vc_list, ↓vc_seq, ↓vc_seqn, ↓vc_seqe, ↓vc_seqr, ↓vc_cond, ↓condVC, ↓vc_block, ↓vc_blockn, ↓vc_blockr, ↓vc_blocke, ↓vc_loop, ↓vc_exit, ↓vc_ret, ↓vc_loopn, ↓vc_loope, ↓vc_loopr, ↓vcl_nil, ↓vcl_cons, ↓lw_eq, ↓guardVC, ↓opVC, ↓pureVC, ↓binVC, ↓bin8, ↓bin32, ↓bin64, ↓binInt, ↓shVC, ↓unVC, ↓cvVC, ↓rdVC, ↓loadVC, ↓pickC, ↓fillVC, ↓bndVC, ↓sliceVC, ↓bltVC, ↓storeVC, ↓appVC, ↓apzVC, ↓markVC, ↓copyVC, ↓callVC, ↓argsVC, ↓argVC, ↓bindR, ↓bindR1, ↓bindRs, ↓retW_eq, ↓extW_eq, ↓rowW_eq, ↓aggW_eq, ↓plv_nil, ↓plv_tk, ↓plv_fz, ↓plv_ld, ↓pt_eq, ↓pz_eq, ↓pl_eq, ↓delAll, ↓keepM, ↓extM, ↓leS, ↓leA, ↓retVC, ↓retR, ↓resVC, ↓resV1, ↓ressVC, ↓xAdd64, ↓xSub64, ↓vc_jn, ↓vc_je, ↓vc_jr, ↓pickA, ↓stU_env, ↓stU_mem, ↓vc_jn, ↓vc_je, ↓vc_jr, ↓pickA, ↓stU_env, ↓stU_mem, both_true, both_false, both_dec, both_ndec, ev, absC, getA, setA, delA, tt, AV.good, AV.plain, AV.isSl, AV.cells, AV.one, Cells.len, Cells.get, Cells.sub, Cells.part, Cells.agg, Cells.upd, Cells.set, Cells.cat, Cells.rep, Cells.ones, TDsc.agg, zOf, putE, dstB, letGo, quietOp, slotOp, pickA, pickA, List.append_eq, Int.cast_ofNat_Int, List.any_cons, List.any_nil, beq_iff_eq, Bool.decide_eq_true, Option.getD_some, Option.getD_none, Option.map_some, Option.map_none, Option.bind_some, Option.isSome_some, Option.isNone_some, Option.isNone_none, Option.isSome_none, ↓reduceIte, Nat.reduceEqDiff, Nat.reduceLT, Nat.reduceLeDiff, Nat.reduceAdd, Nat.reduceSub, Nat.reduceMul, Nat.reduceBEq, Int.reduceLE, Int.reduceLT, Int.reduceToNat, Int.reduceNeg, BitVec.reduceToNat, decide_true, decide_false, and_true, true_and, and_self, Bool.or_true, Bool.true_or, Bool.or_false, Bool.false_or, Bool.not_true, Bool.not_false, List.map_cons, List.map_nil, List.length_cons, List.length_nil, List.getElem?_toArray, List.getElem?_cons_zero, List.getElem?_cons_succ, List.getElem?_nil, forall_const, true_implies, reduceCtorEq, false_and, and_false, false_implies, implies_true, Bool.false_eq_true, Bool.true_eq_false, ne_eq, not_true, not_false_iff, Nat.sub_zero, Nat.zero_add, Nat.add_zero, List.drop_zero, List.drop_succ_cons, List.drop_nil, List.take_zero, List.take_succ_cons, List.take_nil, List.set_cons_zero, List.set_cons_succ, List.nil_append, List.cons_append, List.append_nil, List.replicate_zero, List.replicate_succ, BitVec.ofNat_eq_ofNat, Option.some.injEq, AV.int.injEq, AV.u64.injEq, AV.u32.injEq, AV.u8.injEq, AV.bool.injEq, AV.a64.injEq, AV.a32.injEq, AV.a8.injEq, Nat.zero_le, Int.toNat_natCast, r1, cDigits, cWhole, cFromR, cCmp, cAddR, cMulR, cShlR]
      intro x1 hx1 hv1 hl1 A1 c1 hc1
      repeat (refine And.intro (by first | omega | (simp only [intIn]; omega)) ?_)
      intro mo hmo hmv hml A2 c2 hc2 g
      rw [hv1] at hmv
      have hmq : nv32 mo = p.toNat * 2 ^ (if false then 192 else 128) := by rw [hmv]; rfl
      refine loopU _ _ _ [1, 6] [3] 5 (ι := {s : Nat × Option Addr × Nat × List U32 // RootI p.toNat false s.1 s.2.2.2 ∧ s.2.2.2.length ≤ s.2.2.1}) (fun s => [(9, .int ((s.1.1 : Int) - 1)), (8, .ros 4 s.1.2.1 s.1.2.2.2.length s.1.2.2.1)]) (fun s => [(4, .ro s.1.2.1 s.1.2.2.1 (.c32 s.1.2.2.2))]) (fun s => s.1.1) ?_ ?_
      · refine LeJ.none 8 4 (.c32 []) rfl rfl ⟨rfl, rfl⟩ ?_
        refine LeJ.mk ⟨(69, some ⟨g, 0, none⟩, 0, []), rooti_start _ _, Nat.le_refl _⟩ trivial ?_
        simp (maxSteps := 1000000) only [leS, leA, stU_env, stU_mem, pickA, getA, delA, setA, Cells.part, Cells.len, List.take_nil, List.drop_nil, List.length_nil, Nat.zero_add, ↓reduceIte, Nat.reduceEqDiff, Option.some.injEq, List.nil_append, List.cons_append, true_and, and_true, and_self, reduceCtorEq, AV.int.injEq, ME.own.injEq, ME.row.injEq, Cells.c32.injEq, Cells.c64.injEq, Cells.c8.injEq, AV.ptr.injEq, AV.ros.injEq, AV.grow.injEq, AV.u64.injEq, AV.u32.injEq]
        first | done | exact ⟨rfl, rfl⟩ | rfl
      · rintro ⟨⟨i, A, cc, e⟩, hI, hcc⟩
        dsimp only at hI hcc
        obtain ⟨hi69, hec, hev, her⟩ := id hI
        have hel : e.length ≤ 3 := can_len hec (lt96 (Nat.le_trans (Nat.le_add_right _ _) hev))
        rcases i with _ | m
        · have ez : (0 ≤ (0 : Int) - 1) = False := eq_false (by decide)
          simp (maxSteps := 10000000) (implicitDefEqProofs := false) only [↓both_true, ↓both_false, ↓entryVC, ↓vc_skip, ↓vc_draw, ↓vc_list, ↓vc_seq, ↓vc_seqn, ↓vc_seqe, ↓vc_seqr, ↓vc_cond, ↓condVC, ↓vc_block, ↓vc_blockn, ↓vc_blockr, ↓vc_blocke, ↓vc_loop, ↓vc_exit, ↓vc_ret, ↓vc_loopn, ↓vc_loope, ↓vc_loopr, ↓vcl_nil, ↓vcl_cons, ↓lw_eq, ↓guardVC, ↓opVC, ↓pureVC, ↓binVC, ↓bin8, ↓bin32, ↓bin64, ↓binInt, ↓shVC, ↓unVC, ↓cvVC, ↓rdVC, ↓loadVC, ↓pickC, ↓fillVC, ↓bndVC, ↓sliceVC, ↓bltVC, ↓storeVC, ↓appVC, ↓apzVC, ↓markVC, ↓copyVC, ↓callVC, ↓argsVC, ↓argVC, ↓bindR, ↓bindR1, ↓bindRs, ↓retW_eq, ↓extW_eq, ↓rowW_eq, ↓aggW_eq, ↓plv_nil, ↓plv_tk, ↓plv_fz, ↓plv_ld, ↓pt_eq, ↓pz_eq, ↓pl_eq, ↓delAll, ↓keepM, ↓extM, ↓leS, ↓leA, ↓retVC, ↓retR, ↓resVC, ↓resV1, ↓ressVC, ↓xAdd64, ↓xSub64, ↓vc_jn, ↓vc_je, ↓vc_jr, ↓pickA, ↓stU_env, ↓stU_mem, ↓vc_jn, ↓vc_je, ↓vc_jr, ↓pickA, ↓stU_env, ↓stU_mem, both_true, both_false, both_dec, both_ndec, ev, absC, getA, setA, delA, tt, AV.good, AV.plain, AV.isSl, AV.cells, AV.one, Cells.len, Cells.get, Cells.sub, Cells.part, Cells.agg, Cells.upd, Cells.set, Cells.cat, Cells.rep, Cells.ones, TDsc.agg, zOf, putE, dstB, letGo, quietOp, slotOp, pickA, pickA, List.append_eq, Int.cast_ofNat_Int, List.any_cons, List.any_nil, beq_iff_eq, Bool.decide_eq_true, Option.getD_some, Option.getD_none, Option.map_some, Option.map_none, Option.bind_some, Option.isSome_some, Option.isNone_some, Option.isNone_none, Option.isSome_none, ↓reduceIte, Nat.reduceEqDiff, Nat.reduceLT, Nat.reduceLeDiff, Nat.reduceAdd, Nat.reduceSub, Nat.reduceMul, Nat.reduceBEq, Int.reduceLE, Int.reduceLT, Int.reduceToNat, Int.reduceNeg, BitVec.reduceToNat, decide_true, decide_false, and_true, true_and, and_self, Bool.or_true, Bool.true_or, Bool.or_false, Bool.false_or, Bool.not_true, Bool.not_false, List.map_cons, List.map_nil, List.length_cons, List.length_nil, List.getElem?_toArray, List.getElem?_cons_zero, List.getElem?_cons_succ, List.getElem?_nil, forall_const, true_implies, reduceCtorEq, false_and, and_false, false_implies, implies_true, Bool.false_eq_true, Bool.true_eq_false, ne_eq, not_true, not_false_iff, Nat.sub_zero, Nat.zero_add, Nat.add_zero, List.drop_zero, List.drop_succ_cons, List.drop_nil, List.take_zero, List.take_succ_cons, List.take_nil, List.set_cons_zero, List.set_cons_succ, List.nil_append, List.cons_append, List.append_nil, List.replicate_zero, List.replicate_succ, BitVec.ofNat_eq_ofNat, Option.some.injEq, AV.int.injEq, AV.u64.injEq, AV.u32.injEq, AV.u8.injEq, AV.bool.injEq, AV.a64.injEq, AV.a32.injEq, AV.a8.injEq, Nat.zero_le, Int.toNat_natCast, r1, cDigits, cWhole, cFromR, cCmp, cAddR, cMulR, cShlR, ez]
          (try intro hno)
          repeat (refine And.intro (by first | omega | (simp only [intIn]; omega)) ?_)
          intro d hd hdv hdl A3 c3 hc3
          have her : nv32 e = rootN p.toNat false := her
          obtain ⟨hd4, hds⟩ := dig4 hd.dig (by rw [hdv, her]; exact hr)
          rw [hdv, her] at hds
          refine draw_ _ _ _ [(.fz, 0), (.fz, 3), (.fz, 8), (.fz, 13), (.tk, 1), (.tk, 2), (.tk, 4), (.tk, 5), (.fz, 6), (.fz, 7), (.tk, 9), (.tk, 10), (.fz, 11), (.fz, 12), (.tk, 14), (.tk, 15), (.fz, 16), (.fz, 17), (.fz, 18)] [] [3, 4, 5] (by kernel_rfl) ?_
          simp (maxSteps := 10000000) (implicitDefEqProofs := false) only [↓both_true, ↓both_false, ↓entryVC, ↓vc_skip, ↓vc_draw, ↓vc_list, ↓vc_seq, ↓vc_seqn, ↓vc_seqe, ↓vc_seqr, ↓vc_cond, ↓condVC, ↓vc_block, ↓vc_blockn, ↓vc_blockr, ↓vc_blocke, ↓vc_loop, ↓vc_exit, ↓vc_ret, ↓vc_loopn, ↓vc_loope, ↓vc_loopr, ↓vcl_nil, ↓vcl_cons, ↓lw_eq, ↓guardVC, ↓opVC, ↓pureVC, ↓binVC, ↓bin8, ↓bin32, ↓bin64, ↓binInt, ↓shVC, ↓unVC, ↓cvVC, ↓rdVC, ↓loadVC, ↓pickC, ↓fillVC, ↓bndVC, ↓sliceVC, ↓bltVC, ↓storeVC, ↓appVC, ↓apzVC, ↓markVC, ↓copyVC, ↓callVC, ↓argsVC, ↓argVC, ↓bindR, ↓bindR1, ↓bindRs, ↓retW_eq, ↓extW_eq, ↓rowW_eq, ↓aggW_eq, ↓plv_nil, ↓plv_tk, ↓plv_fz, ↓plv_ld, ↓pt_eq, ↓pz_eq, ↓pl_eq, ↓delAll, ↓keepM, ↓extM, ↓leS, ↓leA, ↓retVC, ↓retR, ↓resVC, ↓resV1, ↓ressVC, ↓xAdd64, ↓xSub64, ↓vc_jn, ↓vc_je, ↓vc_jr, ↓pickA, ↓stU_env, ↓stU_mem, ↓vc_jn, ↓vc_je, ↓vc_jr, ↓pickA, ↓stU_env, ↓stU_mem, both_true, both_false, both_dec, both_ndec, ev, absC, getA, setA, delA, tt, AV.good, AV.plain, AV.isSl, AV.cells, AV.one, Cells.len, Cells.get, Cells.sub, Cells.part, Cells.agg, Cells.upd, Cells.set, Cells.cat, Cells.rep, Cells.ones, TDsc.agg, zOf, putE, dstB, letGo, quietOp, slotOp, pickA, pickA, List.append_eq, Int.cast_ofNat_Int, List.any_cons, List.any_nil, beq_iff_eq, Bool.decide_eq_true, Option.getD_some, Option.getD_none, Option.map_some, Option.map_none, Option.bind_some, Option.isSome_some, Option.isNone_some, Option.isNone_none, Option.isSome_none, ↓reduceIte, Nat.reduceEqDiff, Nat.reduceLT, Nat.reduceLeDiff, Nat.reduceAdd, Nat.reduceSub, Nat.reduceMul, Nat.reduceBEq, Int.reduceLE, Int.reduceLT, Int.reduceToNat, Int.reduceNeg, BitVec.reduceToNat, decide_true, decide_false, and_true, true_and, and_self, Bool.or_true, Bool.true_or, Bool.or_false, Bool.false_or, Bool.not_true, Bool.not_false, List.map_cons, List.map_nil, List.length_cons, List.length_nil, List.getElem?_toArray, List.getElem?_cons_zero, List.getElem?_cons_succ, List.getElem?_nil, forall_const, true_implies, reduceCtorEq, false_and, and_false, false_implies, implies_true, Bool.false_eq_true, Bool.true_eq_false, ne_eq, not_true, not_false_iff, Nat.sub_zero, Nat.zero_add, Nat.add_zero, List.drop_zero, List.drop_succ_cons, List.drop_nil, List.take_zero, List.take_succ_cons, List.take_nil, List.set_cons_zero, List.set_cons_succ, List.nil_append, List.cons_append, List.append_nil, List.replicate_zero, List.replicate_succ, BitVec.ofNat_eq_ofNat, Option.some.injEq, AV.int.injEq, AV.u64.injEq, AV.u32.injEq, AV.u8.injEq, AV.bool.injEq, AV.a64.injEq, AV.a32.injEq, AV.a8.injEq, Nat.zero_le, Int.toNat_natCast, r1, cDigits, cWhole, cFromR, cCmp, cAddR, cMulR, cShlR]
          rw [hds]
          repeat (refine And.intro (by first | omega | (simp only [intIn]; omega)) ?_)
          exact h
        · have e0 : ((m + 1 : Nat) : Int) - 1 = (m : Int) := by omega
          have h16 : ((m : Int) ≤ 16384) = True := eq_true (by omega)
          have h0m : (0 ≤ (m : Int)) = True := eq_true (by omega)
          simp (maxSteps := 10000000) (implicitDefEqProofs := false) only [↓both_true, ↓both_false, ↓entryVC, ↓vc_skip, ↓vc_draw, ↓vc_list, ↓vc_seq, ↓vc_seqn, ↓vc_seqe, ↓vc_seqr, ↓vc_cond, ↓condVC, ↓vc_block, ↓vc_blockn, ↓vc_blockr, ↓vc_blocke, ↓vc_loop, ↓vc_exit, ↓vc_ret, ↓vc_loopn, ↓vc_loope, ↓vc_loopr, ↓vcl_nil, ↓vcl_cons, ↓lw_eq, ↓guardVC, ↓opVC, ↓pureVC, ↓binVC, ↓bin8, ↓bin32, ↓bin64, ↓binInt, ↓shVC, ↓unVC, ↓cvVC, ↓rdVC, ↓loadVC, ↓pickC, ↓fillVC, ↓bndVC, ↓sliceVC, ↓bltVC, ↓storeVC, ↓appVC, ↓apzVC, ↓markVC, ↓copyVC, ↓callVC, ↓argsVC, ↓argVC, ↓bindR, ↓bindR1, ↓bindRs, ↓retW_eq, ↓extW_eq, ↓rowW_eq, ↓aggW_eq, ↓plv_nil, ↓plv_tk, ↓plv_fz, ↓plv_ld, ↓pt_eq, ↓pz_eq, ↓pl_eq, ↓delAll, ↓keepM, ↓extM, ↓leS, ↓leA, ↓retVC, ↓retR, ↓resVC, ↓resV1, ↓ressVC, ↓xAdd64, ↓xSub64, ↓vc_jn, ↓vc_je, ↓vc_jr, ↓pickA, ↓stU_env, ↓stU_mem, ↓vc_jn, ↓vc_je, ↓vc_jr, ↓pickA, ↓stU_env, ↓stU_mem, both_true, both_false, both_dec, both_ndec, ev, absC, getA, setA, delA, tt, AV.good, AV.plain, AV.isSl, AV.cells, AV.one, Cells.len, Cells.get, Cells.sub, Cells.part, Cells.agg, Cells.upd, Cells.set, Cells.cat, Cells.rep, Cells.ones, TDsc.agg, zOf, putE, dstB, letGo, quietOp, slotOp, pickA, pickA, List.append_eq, Int.cast_ofNat_Int, List.any_cons, List.any_nil, beq_iff_eq, Bool.decide_eq_true, Option.getD_some, Option.getD_none, Option.map_some, Option.map_none, Option.bind_some, Option.isSome_some, Option.isNone_some, Option.isNone_none, Option.isSome_none, ↓reduceIte, Nat.reduceEqDiff, Nat.reduceLT, Nat.reduceLeDiff, Nat.reduceAdd, Nat.reduceSub, Nat.reduceMul, Nat.reduceBEq, Int.reduceLE, Int.reduceLT, Int.reduceToNat, Int.reduceNeg, BitVec.reduceToNat, decide_true, decide_false, and_true, true_and, and_self, Bool.or_true, Bool.true_or, Bool.or_false, Bool.false_or, Bool.not_true, Bool.not_false, List.map_cons, List.map_nil, List.length_cons, List.length_nil, List.getElem?_toArray, List.getElem?_cons_zero, List.getElem?_cons_succ, List.getElem?_nil, forall_const, true_implies, reduceCtorEq, false_and, and_false, false_implies, implies_true, Bool.false_eq_true, Bool.true_eq_false, ne_eq, not_true, not_false_iff, Nat.sub_zero, Nat.zero_add, Nat.add_zero, List.drop_zero, List.drop_succ_cons, List.drop_nil, List.take_zero, List.take_succ_cons, List.take_nil, List.set_cons_zero, List.set_cons_succ, List.nil_append, List.cons_append, List.append_nil, List.replicate_zero, List.replicate_succ, BitVec.ofNat_eq_ofNat, Option.some.injEq, AV.int.injEq, AV.u64.injEq, AV.u32.injEq, AV.u8.injEq, AV.bool.injEq, AV.a64.injEq, AV.a32.injEq, AV.a8.injEq, Nat.zero_le, Int.toNat_natCast, r1, cDigits, cWhole, cFromR, cCmp, cAddR, cMulR, cShlR, h16, e0, h0m]
          repeat (refine And.intro (by first | omega | (simp only [intIn]; omega)) ?_)
          intro g1 st hst hsv hsl A3 c3 hc3
          have hsv : nv32 st = 2 ^ m := by rw [hsv]; exact Nat.one_mul _
          have h69 : (2 : Nat) ^ m ≤ 2 ^ 68 := Nat.pow_le_pow_right (by decide) (by omega)
          have hsl : st.length ≤ 3 := can_len hst (by rw [hsv]; exact lt96 (Nat.le_trans h69 (by decide)))
          repeat (refine And.intro (by first | omega | (simp only [intIn]; omega)) ?_)
          intro y hy hyv hyl A4 c4 hc4
          rw [hsv] at hyv
          repeat (refine And.intro (by first | omega | (simp only [intIn]; omega)) ?_)
          intro z hz hzv hzl A5 c5 hc5
          repeat (refine And.intro (by first | omega | (simp only [intIn]; omega)) ?_)
          have hpw : nv32 z = pw3 false (nv32 y) := by rw [hzv]; rfl
          rw [hyv] at hpw
          refine ⟨fun hle => ?_, fun hgt => ?_⟩
          · repeat (refine And.intro (by first | omega | (simp only [intIn]; omega)) ?_)
            refine LeJ.rel 8 4 rfl rfl ?_
            refine LeJ.mk ⟨(m, A4, c4, y), rooti_yes hI hy hyv (by rw [← hpw, ← hmq]; exact sgn_le.1 hle), hc4⟩ (by dsimp only; omega) ?_
            simp (maxSteps := 1000000) only [leS, leA, stU_env, stU_mem, pickA, getA, delA, setA, Cells.part, Cells.len, List.take_nil, List.drop_nil, List.length_nil, Nat.zero_add, ↓reduceIte, Nat.reduceEqDiff, Option.some.injEq, List.nil_append, List.cons_append, true_and, and_true, and_self, reduceCtorEq, AV.int.injEq, ME.own.injEq, ME.row.injEq, Cells.c32.injEq, Cells.c64.injEq, Cells.c8.injEq, AV.ptr.injEq, AV.ros.injEq, AV.grow.injEq, AV.u64.injEq, AV.u32.injEq]
            first | done | rfl | omega
          · repeat (refine And.intro (by first | omega | (simp only [intIn]; omega)) ?_)
            refine LeJ.mk ⟨(m, A, cc, e), rooti_no hI (by rw [← hpw, ← hmq]; exact fun hh => hgt (sgn_le.2 hh)), hcc⟩ (by dsimp only; omega) ?_
            simp (maxSteps := 1000000) only [leS, leA, stU_env, stU_mem, pickA, getA, delA, setA, Cells.part, Cells.len, List.take_nil, List.drop_nil, List.length_nil, Nat.zero_add, ↓reduceIte, Nat.reduceEqDiff, Option.some.injEq, List.nil_append, List.cons_append, true_and, and_true, and_self, reduceCtorEq, AV.int.injEq, ME.own.injEq, ME.row.injEq, Cells.c32.injEq, Cells.c64.injEq, Cells.c8.injEq, AV.ptr.injEq, AV.ros.injEq, AV.grow.injEq, AV.u64.injEq, AV.u32.injEq]
            first | done | rfl | omega
    · simp (maxSteps := 10000000) (implicitDefEqProofs := false) only [↓both_true, ↓both_false, ↓entryVC, ↓vc_skip, ↓vc_draw, ↓vc_list, ↓vc_seq, ↓vc_seqn, ↓vc_seqe, ↓vc_seqr, ↓vc_cond, ↓condVC, ↓vc_block, ↓vc_blockn, ↓vc_blockr, ↓vc_blocke, ↓vc_loop, ↓vc_exit, ↓vc_ret, ↓vc_loopn, ↓vc_loope, ↓vc_loopr, ↓vcl_nil, ↓vcl_cons, ↓lw_eq, ↓guardVC, ↓opVC, ↓pureVC, ↓binVC, ↓bin8, ↓bin32, ↓bin64, ↓binInt, ↓shVC, ↓unVC, ↓cvVC, ↓rdVC, ↓loadVC, ↓pickC, ↓fillVC, ↓bndVC, ↓sliceVC, ↓bltVC, ↓storeVC, ↓appVC, ↓apzVC, ↓markVC, ↓copyVC, ↓callVC, ↓argsVC, ↓argVC, ↓bindR, ↓bindR1, ↓bindRs, ↓retW_eq, ↓extW_eq, ↓rowW_eq, ↓aggW_eq, ↓plv_nil, ↓plv_tk, ↓plv_fz, ↓plv_ld, ↓pt_eq, ↓pz_eq, ↓pl_eq, ↓delAll, ↓keepM, ↓extM, ↓leS, ↓leA, ↓retVC, ↓retR, ↓resVC, ↓resV1, ↓ressVC, ↓xAdd64, ↓xSub64, ↓vc_jn, ↓vc_je, ↓vc_jr, ↓pickA, ↓stU_env, ↓stU_mem, ↓vc_jn, ↓vc_je, ↓vc_jr, ↓pickA, ↓stU_env, ↓stU_mem, both_true, both_false, both_dec, both_ndec, ev, absC, getA, setA, delA, tt, AV.good, AV.plain, AV.isSl, AV.cells, AV.one, Cells.len, Cells.get, Cells.sub, Cells.part, Cells.agg, Cells.upd, Cells.set, Cells.cat, Cells.rep, Cells.ones, TDsc.agg, zOf, putE, dstB, letGo, quietOp, slotOp, pickA, pickA, List.append_eq, Int.cast_ofNat_Int, List.any_cons, List.any_nil, beq_iff_eq, Bool.decide_eq_true, Option.getD_some, Option.getD_none, Option.map_some, Option.map_none, Option.bind_some, Option.isSome_some, Option.isNone_some, Option.isNone_none, Option.isSome_none, ↓reduceIte, Nat.reduceEqDiff, Nat.reduceLT, Nat.reduceLeDiff, Nat.reduceAdd, Nat.reduceSub, Nat.reduceMul, Nat.reduceBEq, Int.reduceLE, Int.reduceLT, Int.reduceToNat, Int.reduceNeg, BitVec.reduceToNat, decide_true, decide_false, and_true, true_and, and_self, Bool.or_true, Bool.true_or, Bool.or_false, Bool.false_or, Bool.not_true, Bool.not_false, List.map_cons, List.map_nil, List.length_cons, List.length_nil, List.getElem?_toArray, List.getElem?_cons_zero, List.getElem?_cons_succ, List.getElem?_nil, forall_const, true_implies, reduceCtorEq, false_and, and_false, false_implies, implies_true, Bool.false_eq_true, Bool.true_eq_false, ne_eq, not_true, not_false_iff, Nat.sub_zero, Nat.zero_add, Nat.add_zero, List.drop_zero, List.drop_succ_cons, List.drop_nil, List.take_zero, List.take_succ_cons, List.take_nil, List.set_cons_zero, List.set_cons_succ, List.nil_append, List.cons_append, List.append_nil, List.replicate_zero, List.replicate_succ, BitVec.ofNat_eq_ofNat, Option.some.injEq, AV.int.injEq, AV.u64.injEq, AV.u32.injEq, AV.u8.injEq, AV.bool.injEq, AV.a64.injEq, AV.a32.injEq, AV.a8.injEq, Nat.zero_le, Int.toNat_natCast, r1, cDigits, cWhole, cFromR, cCmp, cAddR, cMulR, cShlR]
      intro x1 hx1 hv1 hl1 A1 c1 hc1
      repeat (refine And.intro (by first | omega | (simp only [intIn]; omega)) ?_)
      intro mo hmo hmv hml A2 c2 hc2 g
      rw [hv1] at hmv
      have hmq : nv32 mo = p.toNat * 2 ^ (if true then 192 else 128) := by rw [hmv]; rfl
      refine loopU _ _ _ [1, 6] [3] 5 (ι := {s : Nat × Option Addr × Nat × List U32 // RootI p.toNat true s.1 s.2.2.2 ∧ s.2.2.2.length ≤ s.2.2.1}) (fun s => [(9, .int ((s.1.1 : Int) - 1)), (8, .ros 4 s.1.2.1 s.1.2.2.2.length s.1.2.2.1)]) (fun s => [(4, .ro s.1.2.1 s.1.2.2.1 (.c32 s.1.2.2.2))]) (fun s => s.1.1) ?_ ?_
      · refine LeJ.none 8 4 (.c32 []) rfl rfl ⟨rfl, rfl⟩ ?_
        refine LeJ.mk ⟨(69, some ⟨g, 0, none⟩, 0, []), rooti_start _ _, Nat.le_refl _⟩ trivial ?_
        simp (maxSteps := 1000000) only [leS, leA, stU_env, stU_mem, pickA, getA, delA, setA, Cells.part, Cells.len, List.take_nil, List.drop_nil, List.length_nil, Nat.zero_add, ↓reduceIte, Nat.reduceEqDiff, Option.some.injEq, List.nil_append, List.cons_append, true_and, and_true, and_self, reduceCtorEq, AV.int.injEq, ME.own.injEq, ME.row.injEq, Cells.c32.injEq, Cells.c64.injEq, Cells.c8.injEq, AV.ptr.injEq, AV.ros.injEq, AV.grow.injEq, AV.u64.injEq, AV.u32.injEq]
        first | done | exact ⟨rfl, rfl⟩ | rfl
      · rintro ⟨⟨i, A, cc, e⟩, hI, hcc⟩
        dsimp only at hI hcc
        obtain ⟨hi69, hec, hev, her⟩ := id hI
        have hel : e.length ≤ 3 := can_len hec (lt96 (Nat.le_trans (Nat.le_add_right _ _) hev))
        rcases i with _ | m
        · have ez : (0 ≤ (0 : Int) - 1) = False := eq_false (by decide)
          simp (maxSteps := 10000000) (implicitDefEqProofs := false) only [↓both_true, ↓both_false, ↓entryVC, ↓vc_skip, ↓vc_draw, ↓vc_list, ↓vc_seq, ↓vc_seqn, ↓vc_seqe, ↓vc_seqr, ↓vc_cond, ↓condVC, ↓vc_block, ↓vc_blockn, ↓vc_blockr, ↓vc_blocke, ↓vc_loop, ↓vc_exit, ↓vc_ret, ↓vc_loopn, ↓vc_loope, ↓vc_loopr, ↓vcl_nil, ↓vcl_cons, ↓lw_eq, ↓guardVC, ↓opVC, ↓pureVC, ↓binVC, ↓bin8, ↓bin32, ↓bin64, ↓binInt, ↓shVC, ↓unVC, ↓cvVC, ↓rdVC, ↓loadVC, ↓pickC, ↓fillVC, ↓bndVC, ↓sliceVC, ↓bltVC, ↓storeVC, ↓appVC, ↓apzVC, ↓markVC, ↓copyVC, ↓callVC, ↓argsVC, ↓argVC, ↓bindR, ↓bindR1, ↓bindRs, ↓retW_eq, ↓extW_eq, ↓rowW_eq, ↓aggW_eq, ↓plv_nil, ↓plv_tk, ↓plv_fz, ↓plv_ld, ↓pt_eq, ↓pz_eq, ↓pl_eq, ↓delAll, ↓keepM, ↓extM, ↓leS, ↓leA, ↓retVC, ↓retR, ↓resVC, ↓resV1, ↓ressVC, ↓xAdd64, ↓xSub64, ↓vc_jn, ↓vc_je, ↓vc_jr, ↓pickA, ↓stU_env, ↓stU_mem, ↓vc_jn, ↓vc_je, ↓vc_jr, ↓pickA, ↓stU_env, ↓stU_mem, both_true, both_false, both_dec, both_ndec, ev, absC, getA, setA, delA, tt, AV.good, AV.plain, AV.isSl, AV.cells, AV.one, Cells.len, Cells.get, Cells.sub, Cells.part, Cells.agg, Cells.upd, Cells.set, Cells.cat, Cells.rep, Cells.ones, TDsc.agg, zOf, putE, dstB, letGo, quietOp, slotOp, pickA, pickA, List.append_eq, Int.cast_ofNat_Int, List.any_cons, List.any_nil, beq_iff_eq, Bool.decide_eq_true, Option.getD_some, Option.getD_none, Option.map_some, Option.map_none, Option.bind_some, Option.isSome_some, Option.isNone_some, Option.isNone_none, Option.isSome_none, ↓reduceIte, Nat.reduceEqDiff, Nat.reduceLT, Nat.reduceLeDiff, Nat.reduceAdd, Nat.reduceSub, Nat.reduceMul, Nat.reduceBEq, Int.reduceLE, Int.reduceLT, Int.reduceToNat, Int.reduceNeg, BitVec.reduceToNat, decide_true, decide_false, and_true, true_and, and_self, Bool.or_true, Bool.true_or, Bool.or_false, Bool.false_or, Bool.not_true, Bool.not_false, List.map_cons, List.map_nil, List.length_cons, List.length_nil, List.getElem?_toArray, List.getElem?_cons_zero, List.getElem?_cons_succ, List.getElem?_nil, forall_const, true_implies, reduceCtorEq, false_and, and_false, false_implies, implies_true, Bool.false_eq_true, Bool.true_eq_false, ne_eq, not_true, not_false_iff, Nat.sub_zero, Nat.zero_add, Nat.add_zero, List.drop_zero, List.drop_succ_cons, List.drop_nil, List.take_zero, List.take_succ_cons, List.take_nil, List.set_cons_zero, List.set_cons_succ, List.nil_append, List.cons_append, List.append_nil, List.replicate_zero, List.replicate_succ, BitVec.ofNat_eq_ofNat, Option.some.injEq, AV.int.injEq, AV.u64.injEq, AV.u32.injEq, AV.u8.injEq, AV.bool.injEq, AV.a64.injEq, AV.a32.injEq, AV.a8.injEq, Nat.zero_le, Int.toNat_natCast, r1, cDigits, cWhole, cFromR, cCmp, cAddR, cMulR, cShlR, ez]
          (try intro hno)
          repeat (refine And.intro (by first | omega | (simp only [intIn]; omega)) ?_)
          intro d hd hdv hdl A3 c3 hc3
          have her : nv32 e = rootN p.toNat true := her
          obtain ⟨hd4, hds⟩ := dig4 hd.dig (by rw [hdv, her]; exact hr)
          rw [hdv, her] at hds
          refine draw_ _ _ _ [(.fz, 0), (.fz, 3), (.fz, 8), (.fz, 13), (.tk, 1), (.tk, 2), (.tk, 4), (.tk, 5), (.fz, 6), (.fz, 7), (.tk, 9), (.tk, 10), (.fz, 11), (.fz, 12), (.tk, 14), (.tk, 15), (.fz, 16), (.fz, 17), (.fz, 18)] [] [3, 4, 5] (by kernel_rfl) ?_
          simp (maxSteps := 10000000) (implicitDefEqProofs := false) only [↓both_true, ↓both_false, ↓entryVC, ↓vc_skip, ↓vc_draw, ↓vc_list, ↓vc_seq, ↓vc_seqn, ↓vc_seqe, ↓vc_seqr, ↓vc_cond, ↓condVC, ↓vc_block, ↓vc_blockn, ↓vc_blockr, ↓vc_blocke, ↓vc_loop, ↓vc_exit, ↓vc_ret, ↓vc_loopn, ↓vc_loope, ↓vc_loopr, ↓vcl_nil, ↓vcl_cons, ↓lw_eq, ↓guardVC, ↓opVC, ↓pureVC, ↓binVC, ↓bin8, ↓bin32, ↓bin64, ↓binInt, ↓shVC, ↓unVC, ↓cvVC, ↓rdVC, ↓loadVC, ↓pickC, ↓fillVC, ↓bndVC, ↓sliceVC, ↓bltVC, ↓storeVC, ↓appVC, ↓apzVC, ↓markVC, ↓copyVC, ↓callVC, ↓argsVC, ↓argVC, ↓bindR, ↓bindR1, ↓bindRs, ↓retW_eq, ↓extW_eq, ↓rowW_eq, ↓aggW_eq, ↓plv_nil, ↓plv_tk, ↓plv_fz, ↓plv_ld, ↓pt_eq, ↓pz_eq, ↓pl_eq, ↓delAll, ↓keepM, ↓extM, ↓leS, ↓leA, ↓retVC, ↓retR, ↓resVC, ↓resV1, ↓ressVC, ↓xAdd64, ↓xSub64, ↓vc_jn, ↓vc_je, ↓vc_jr, ↓pickA, ↓stU_env, ↓stU_mem, ↓vc_jn, ↓vc_je, ↓vc_jr, ↓pickA, ↓stU_env, ↓stU_mem, both_true, both_false, both_dec, both_ndec, ev, absC, getA, setA, delA, tt, AV.good, AV.plain, AV.isSl, AV.cells, AV.one, Cells.len, Cells.get, Cells.sub, Cells.part, Cells.agg, Cells.upd, Cells.set, Cells.cat, Cells.rep, Cells.ones, TDsc.agg, zOf, putE, dstB, letGo, quietOp, slotOp, pickA, pickA, List.append_eq, Int.cast_ofNat_Int, List.any_cons, List.any_nil, beq_iff_eq, Bool.decide_eq_true, Option.getD_some, Option.getD_none, Option.map_some, Option.map_none, Option.bind_some, Option.isSome_some, Option.isNone_some, Option.isNone_none, Option.isSome_none, ↓reduceIte, Nat.reduceEqDiff, Nat.reduceLT, Nat.reduceLeDiff, Nat.reduceAdd, Nat.reduceSub, Nat.reduceMul, Nat.reduceBEq, Int.reduceLE, Int.reduceLT, Int.reduceToNat, Int.reduceNeg, BitVec.reduceToNat, decide_true, decide_false, and_true, true_and, and_self, Bool.or_true, Bool.true_or, Bool.or_false, Bool.false_or, Bool.not_true, Bool.not_false, List.map_cons, List.map_nil, List.length_cons, List.length_nil, List.getElem?_toArray, List.getElem?_cons_zero, List.getElem?_cons_succ, List.getElem?_nil, forall_const, true_implies, reduceCtorEq, false_and, and_false, false_implies, implies_true, Bool.false_eq_true, Bool.true_eq_false, ne_eq, not_true, not_false_iff, Nat.sub_zero, Nat.zero_add, Nat.add_zero, List.drop_zero, List.drop_succ_cons, List.drop_nil, List.take_zero, List.take_succ_cons, List.take_nil, List.set_cons_zero, List.set_cons_succ, List.nil_append, List.cons_append, List.append_nil, List.replicate_zero, List.replicate_succ, BitVec.ofNat_eq_ofNat, Option.some.injEq, AV.int.injEq, AV.u64.injEq, AV.u32.injEq, AV.u8.injEq, AV.bool.injEq, AV.a64.injEq, AV.a32.injEq, AV.a8.injEq, Nat.zero_le, Int.toNat_natCast, r1, cDigits, cWhole, cFromR, cCmp, cAddR, cMulR, cShlR]
          rw [hds]
          repeat (refine And.intro (by first | omega | (simp only [intIn]; omega)) ?_)
          exact h
        · have e0 : ((m + 1 : Nat) : Int) - 1 = (m : Int) := by omega
          have h16 : ((m : Int) ≤ 16384) = True := eq_true (by omega)
          have h0m : (0 ≤ (m : Int)) = True := eq_true (by omega)
          simp (maxSteps := 10000000) (implicitDefEqProofs := false) only [↓both_true, ↓both_false, ↓entryVC, ↓vc_skip, ↓vc_draw, ↓vc_list, ↓vc_seq, ↓vc_seqn, ↓vc_seqe, ↓vc_seqr, ↓vc_cond, ↓condVC, ↓vc_block, ↓vc_blockn, ↓vc_blockr, ↓vc_blocke, ↓vc_loop, ↓vc_exit, ↓vc_ret, ↓vc_loopn, ↓vc_loope, ↓vc_loopr, ↓vcl_nil, ↓vcl_cons, ↓lw_eq, ↓guardVC, ↓opVC, ↓pureVC, ↓binVC, ↓bin8, ↓bin32, ↓bin64, ↓binInt, ↓shVC, ↓unVC, ↓cvVC, ↓rdVC, ↓loadVC, ↓pickC, ↓fillVC, ↓bndVC, ↓sliceVC, ↓bltVC, ↓storeVC, ↓appVC, ↓apzVC, ↓markVC, ↓copyVC, ↓callVC, ↓argsVC, ↓argVC, ↓bindR, ↓bindR1, ↓bindRs, ↓retW_eq, ↓extW_eq, ↓rowW_eq, ↓aggW_eq, ↓plv_nil, ↓plv_tk, ↓plv_fz, ↓plv_ld, ↓pt_eq, ↓pz_eq, ↓pl_eq, ↓delAll, ↓keepM, ↓extM, ↓leS, ↓leA, ↓retVC, ↓retR, ↓resVC, ↓resV1, ↓ressVC, ↓xAdd64, ↓xSub64, ↓vc_jn, ↓vc_je, ↓vc_jr, ↓pickA, ↓stU_env, ↓stU_mem, ↓vc_jn, ↓vc_je, ↓vc_jr, ↓pickA, ↓stU_env, ↓stU_mem, both_true, both_false, both_dec, both_ndec, ev, absC, getA, setA, delA, tt, AV.good, AV.plain, AV.isSl, AV.cells, AV.one, Cells.len, Cells.get, Cells.sub, Cells.part, Cells.agg, Cells.upd, Cells.set, Cells.cat, Cells.rep, Cells.ones, TDsc.agg, zOf, putE, dstB, letGo, quietOp, slotOp, pickA, pickA, List.append_eq, Int.cast_ofNat_Int, List.any_cons, List.any_nil, beq_iff_eq, Bool.decide_eq_true, Option.getD_some, Option.getD_none, Option.map_some, Option.map_none, Option.bind_some, Option.isSome_some, Option.isNone_some, Option.isNone_none, Option.isSome_none, ↓reduceIte, Nat.reduceEqDiff, Nat.reduceLT, Nat.reduceLeDiff, Nat.reduceAdd, Nat.reduceSub, Nat.reduceMul, Nat.reduceBEq, Int.reduceLE, Int.reduceLT, Int.reduceToNat, Int.reduceNeg, BitVec.reduceToNat, decide_true, decide_false, and_true, true_and, and_self, Bool.or_true, Bool.true_or, Bool.or_false, Bool.false_or, Bool.not_true, Bool.not_false, List.map_cons, List.map_nil, List.length_cons, List.length_nil, List.getElem?_toArray, List.getElem?_cons_zero, List.getElem?_cons_succ, List.getElem?_nil, forall_const, true_implies, reduceCtorEq, false_and, and_false, false_implies, implies_true, Bool.false_eq_true, Bool.true_eq_false, ne_eq, not_true, not_false_iff, Nat.sub_zero, Nat.zero_add, Nat.add_zero, List.drop_zero, List.drop_succ_cons, List.drop_nil, List.take_zero, List.take_succ_cons, List.take_nil, List.set_cons_zero, List.set_cons_succ, List.nil_append, List.cons_append, List.append_nil, List.replicate_zero, List.replicate_succ, BitVec.ofNat_eq_ofNat, Option.some.injEq, AV.int.injEq, AV.u64.injEq, AV.u32.injEq, AV.u8.injEq, AV.bool.injEq, AV.a64.injEq, AV.a32.injEq, AV.a8.injEq, Nat.zero_le, Int.toNat_natCast, r1, cDigits, cWhole, cFromR, cCmp, cAddR, cMulR, cShlR, h16, e0, h0m]
          repeat (refine And.intro (by first | omega | (simp only [intIn]; omega)) ?_)
          intro g1 st hst hsv hsl A3 c3 hc3
          have hsv : nv32 st = 2 ^ m := by rw [hsv]; exact Nat.one_mul _
          have h69 : (2 : Nat) ^ m ≤ 2 ^ 68 := Nat.pow_le_pow_right (by decide) (by omega)
          have hsl : st.length ≤ 3 := can_len hst (by rw [hsv]; exact lt96 (Nat.le_trans h69 (by decide)))
          repeat (refine And.intro (by first | omega | (simp only [intIn]; omega)) ?_)
          intro y hy hyv hyl A4 c4 hc4
          rw [hsv] at hyv
          repeat (refine And.intro (by first | omega | (simp only [intIn]; omega)) ?_)
          intro z1 hz1 hz1v hz1l A5 c5 hc5
          repeat (refine And.intro (by first | omega | (simp only [intIn]; omega)) ?_)
          intro z hz hzv hzl A6 c6 hc6
          repeat (refine And.intro (by first | omega | (simp only [intIn]; omega)) ?_)
          have hpw : nv32 z = pw3 true (nv32 y) := by rw [hzv, hz1v]; rfl
          rw [hyv] at hpw
          refine ⟨fun hle => ?_, fun hgt => ?_⟩
          · repeat (refine And.intro (by first | omega | (simp only [intIn]; omega)) ?_)
            refine LeJ.rel 8 4 rfl rfl ?_
            refine LeJ.mk ⟨(m, A4, c4, y), rooti_yes hI hy hyv (by rw [← hpw, ← hmq]; exact sgn_le.1 hle), hc4⟩ (by dsimp only; omega) ?_
            simp (maxSteps := 1000000) only [leS, leA, stU_env, stU_mem, pickA, getA, delA, setA, Cells.part, Cells.len, List.take_nil, List.drop_nil, List.length_nil, Nat.zero_add, ↓reduceIte, Nat.reduceEqDiff, Option.some.injEq, List.nil_append, List.cons_append, true_and, and_true, and_self, reduceCtorEq, AV.int.injEq, ME.own.injEq, ME.row.injEq, Cells.c32.injEq, Cells.c64.injEq, Cells.c8.injEq, AV.ptr.injEq, AV.ros.injEq, AV.grow.injEq, AV.u64.injEq, AV.u32.injEq]
            first | done | rfl | omega
          · repeat (refine And.intro (by first | omega | (simp only [intIn]; omega)) ?_)
            refine LeJ.mk ⟨(m, A, cc, e), rooti_no hI (by rw [← hpw, ← hmq]; exact fun hh => hgt (sgn_le.2 hh)), hcc⟩ (by dsimp only; omega) ?_
            simp (maxSteps := 1000000) only [leS, leA, stU_env, stU_mem, pickA, getA, delA, setA, Cells.part, Cells.len, List.take_nil, List.drop_nil, List.length_nil, Nat.zero_add, ↓reduceIte, Nat.reduceEqDiff, Option.some.injEq, List.nil_append, List.cons_append, true_and, and_true, and_self, reduceCtorEq, AV.int.injEq, ME.own.injEq, ME.row.injEq, Cells.c32.injEq, Cells.c64.injEq, Cells.c8.injEq, AV.ptr.injEq, AV.ros.injEq, AV.grow.injEq, AV.u64.injEq, AV.u32.injEq]
            first | done | rfl | omega
  · exact h.elim
end Go.Proofs.Ytpononlbfealjaa
