/- Quotients: the program's, by the engine. -/
import Derived.Test.YtkpbjkhgiackpaaDv0
import Derived.Test.YtkpbjkhgiackpaaQv
import Derived.Test.YtkpbjkhgiackpaaQt
import Derived.Test.YtkpbjkhgiackpaaQb
namespace Go.Proofs.Ytkpbjkhgiackpaa
open Go Go.RowKit
set_option linter.unusedVariables false
set_option linter.unusedSimpArgs false

def cLz : CT := fun cas K => match cas with
  | [.v (.u32 x)] => K (.one (.v (.int (32 - (blN x.toNat : Nat)))))
  | _ => False
def cLen : CT := fun cas K => match cas with
  | [.v (.u32 x)] => K (.one (.v (.int (blN x.toNat : Nat))))
  | _ => False
theorem sLen : Sound Try.prog 89 cLen := by
  intro cas K W vals ha hC
  unfold cLen at hC
  split at hC
  · rename_i x
    match vals, ha with
    | [V], ⟨⟨_, hV⟩, _⟩ =>
      subst hV
      refine ⟨⟨Try.f89, Try.func89, by decide, rfl⟩, (callsIn_wide.1 (len32_in Fence.wide 4 trivial rfl x W)).mono ?_⟩
      rintro e W' ⟨rfl, rfl⟩
      exact ⟨.one (.v (.int _)), _, rfl, ⟨rfl, rfl⟩, Below.refl _ _, hC⟩
  · exact hC.elim
def d0 : CTab := fun F => match F with
  | 89 => .fn cLen
  | _ => .fn noCT
theorem d0_ok : CTok Try.prog d0 := by
  intro F
  unfold d0
  split
  · exact sLen
  · exact sound_none _ _
set_option maxRecDepth 100000 in
set_option maxHeartbeats 1000000 in
theorem sLz : Sound Try.prog 116 cLz := by
  refine sound_vc (tt := tt) (ct := d0) ttok d0_ok mixed Try.func116 rfl (by decide) (rs := [.tmp 2]) rfl (ts := [3]) (k := 0) ?_
  intro cas K h
  unfold cLz at h
  split at h
  · rename_i x
    rw [Try.ntmps116]
    refine ⟨by simp, ?_⟩
    have hb := blN_le (k := x.toNat) (s := 32) x.isLt
    simp (maxSteps := 10000000) (implicitDefEqProofs := false) only [↓both_true, ↓both_false, ↓entryVC, ↓vc_skip, ↓vc_draw, ↓vc_list, ↓vc_seq, ↓vc_seqn, ↓vc_seqe, ↓vc_seqr, ↓vc_cond, ↓condVC, ↓vc_block, ↓vc_blockn, ↓vc_blockr, ↓vc_blocke, ↓vc_loop, ↓vc_exit, ↓vc_ret, ↓vc_loopn, ↓vc_loope, ↓vc_loopr, ↓vcl_nil, ↓vcl_cons, ↓lw_eq, ↓listVC, ↓memK, ↓memR, ↓envOf, ↓guardVC, ↓opVC, ↓pureVC, ↓binT, ↓wrapT, ↓TDsc.isW, ↓binW, ↓binVC, ↓bin8, ↓bin32, ↓bin64, ↓binInt, ↓shVC, ↓unVC, ↓cvVC, ↓rdVC, ↓loadVC, ↓pickC, ↓fillVC, ↓bndVC, ↓sliceVC, ↓bltVC, ↓storeVC, ↓appVC, ↓apzVC, ↓markVC, ↓copyVC, ↓callVC, ↓argsVC, ↓argVC, ↓bindR, ↓bindR1, ↓bindRs, ↓retW_eq, ↓extW_eq, ↓rowW_eq, ↓aggW_eq, ↓plv_nil, ↓plv_tk, ↓plv_fz, ↓plv_ld, ↓pt_eq, ↓pz_eq, ↓pl_eq, ↓delAll, ↓keepM_nil, ↓keepM, ↓extE, ↓extM, ↓leS, ↓leA, ↓retVC, ↓retR, ↓resVC, ↓resV1, ↓ressVC, ↓strU, ↓xAdd64, ↓xSub64, ↓vc_jn, ↓vc_je, ↓vc_jr, ↓pickA, ↓stU_env, ↓stU_mem, frz, both_true, both_false, both_dec, both_ndec, ev, absC, getA, setA, delA, tt, AV.good, AV.plain, AV.isSl, AV.cells, AV.one, Cells.len, Cells.get, Cells.sub, Cells.part, Cells.agg, Cells.upd, Cells.set, Cells.cat, Cells.rep, Cells.ones, TDsc.agg, zOf, putE, dstB, letGo, quietOp, slotOp, pickA, true_or, or_true, List.append_eq, Int.cast_ofNat_Int, List.any_cons, List.any_nil, beq_iff_eq, Bool.decide_eq_true, Option.getD_some, Option.getD_none, Option.map_some, Option.map_none, Option.bind_some, Option.isSome_some, Option.isNone_some, Option.isNone_none, Option.isSome_none, ↓reduceIte, Nat.reduceEqDiff, Nat.reduceLT, Nat.reduceLeDiff, Nat.reduceAdd, Nat.reduceSub, Nat.reduceMul, Nat.reduceBEq, Int.reduceLE, Int.reduceLT, Int.reduceToNat, Int.reduceNeg, BitVec.reduceToNat, decide_true, decide_false, and_true, true_and, and_self, Bool.or_true, Bool.true_or, Bool.or_false, Bool.false_or, Bool.not_true, Bool.not_false, List.map_cons, List.map_nil, List.length_cons, List.length_nil, List.getElem?_toArray, List.getElem?_cons_zero, List.getElem?_cons_succ, List.getElem?_nil, forall_const, true_implies, reduceCtorEq, false_and, and_false, false_implies, implies_true, Bool.false_eq_true, Bool.true_eq_false, ne_eq, not_true, not_false_iff, Nat.sub_zero, Nat.zero_add, Nat.add_zero, List.drop_zero, List.drop_succ_cons, List.drop_nil, List.take_zero, List.take_succ_cons, List.take_nil, List.set_cons_zero, List.set_cons_succ, List.nil_append, List.cons_append, List.append_nil, List.replicate_zero, List.replicate_succ, BitVec.ofNat_eq_ofNat, Option.some.injEq, AV.int.injEq, AV.u64.injEq, AV.u32.injEq, AV.u8.injEq, AV.bool.injEq, AV.a64.injEq, AV.a32.injEq, AV.a8.injEq, Nat.zero_le, Int.toNat_natCast, d0, cLen]
    exact ⟨by simp only [intIn]; omega, h⟩
  · exact h.elim
def cShlD : CT := fun cas K => match cas with
  | [.s (.c32 a), .v (.int n)] => (a.length ≤ 90000 ∧ 0 ≤ n ∧ n ≤ 16384) ∧ ∀ e, Can32 e → nv32 e = nv32 a * 2 ^ n.toNat → e.length ≤ a.length + n.toNat / 32 + 1 → K (.tup [.al (.c32 e), .v (.int 0)])
  | _ => False
theorem sShlD : Sound Try.prog 67 cShlD := fun cas K W vals ha h => sShlN cas K W vals ha (by
  unfold cShlD at h
  split at h
  · obtain ⟨⟨h1, h2, h3⟩, h4⟩ := h
    exact ⟨⟨h1, by simp only [intIn]; omega⟩, fun h5 => absurd h5 (by omega), fun _ _ => h4⟩
  · exact h.elim)
def cShrD : CT := fun cas K => match cas with
  | [.s (.c32 a), .v (.int n)] => (a.length ≤ 90000 ∧ intIn n ∧ 0 ≤ n ∧ n < 32 ∧ 0 < a.length) ∧ ∀ e, Can32 e → nv32 e = nv32 a / 2 ^ n.toNat → e.length ≤ a.length → K (.one (.al (.c32 e)))
  | _ => False
theorem Can32.len_le {x y : List U32} (hx : Can32 x) (hy : Can32 y) (h : nv32 x ≤ nv32 y) : x.length ≤ y.length := Nat.le_of_not_lt fun hc => by
  have := can32_lt hy hx hc; omega
theorem bl_bounds {x : Nat} (hx : x ≠ 0) : 2 ^ (blN x - 1) ≤ x ∧ x < 2 ^ blN x ∧ 1 ≤ blN x := by
  unfold blN
  rw [if_neg hx]
  exact ⟨by simpa using Nat.log2_self_le hx, by simpa using Nat.lt_log2_self, by omega⟩
/-- The divisor, so shifted that its highest bit is set. -/
theorem norm_d {b d : List U32} {s : Nat} (hb : Can32 b) (hbl : 1 ≤ b.length) (hs : s = 32 - blN (g32 b (b.length - 1)).toNat) (hd : Can32 d) (hv : nv32 d = nv32 b * 2 ^ s) : d.length = b.length ∧ 2147483648 ≤ (g32 d (b.length - 1)).toNat ∧ s ≤ 31 ∧ 2147483648 * 4294967296 ^ (b.length - 1) ≤ nv32 d := by
  have hne : b ≠ [] := by intro e; rw [e] at hbl; simp at hbl
  have ht0 := hb.last hne
  have ht : (g32 b (b.length - 1)).toNat ≠ 0 := fun e => ht0 (BitVec.eq_of_toNat_eq e)
  obtain ⟨l1, l2, l3⟩ := bl_bounds ht
  have l4 := blN_le (k := (g32 b (b.length - 1)).toNat) (s := 32) (g32 b (b.length - 1)).isLt
  have ev := nv32_take_drop b (b.length - 1) (by omega)
  have hlow := nv32_lt (b.take (b.length - 1))
  rw [List.length_take, Nat.min_eq_left (by omega)] at hlow
  have htop : nv32 (b.drop (b.length - 1)) = (g32 b (b.length - 1)).toNat := by
    rw [nv32_drop, show b.length - 1 + 1 = b.length by omega, List.drop_length]; simp [nv32]
  rw [htop] at ev
  generalize (g32 b (b.length - 1)).toNat = t at *
  have p1 : 2 ^ (blN t - 1) * 2 ^ s = 2147483648 := by rw [← Nat.pow_add, show blN t - 1 + s = 31 by omega]
  have p2 : 2 ^ blN t * 2 ^ s = 4294967296 := by rw [← Nat.pow_add, show blN t + s = 32 by omega]
  have q1 : 2147483648 ≤ t * 2 ^ s := by rw [← p1]; exact Nat.mul_le_mul_right _ l1
  have q2 : (t + 1) * 2 ^ s ≤ 4294967296 := by rw [← p2]; exact Nat.mul_le_mul_right _ l2
  have lo : 2147483648 * 4294967296 ^ (b.length - 1) ≤ nv32 d := by
    have e1 : 2147483648 * 4294967296 ^ (b.length - 1) ≤ t * 2 ^ s * 4294967296 ^ (b.length - 1) := Nat.mul_le_mul_right _ q1
    have e2 : t * 2 ^ s * 4294967296 ^ (b.length - 1) = 4294967296 ^ (b.length - 1) * t * 2 ^ s := by rw [Nat.mul_comm, Nat.mul_assoc]
    rw [hv, ev, Nat.add_mul]
    omega
  have hi : nv32 d < 4294967296 ^ b.length := by
    have e1 : nv32 b + 1 ≤ 4294967296 ^ (b.length - 1) * (t + 1) := by rw [ev, Nat.mul_add, Nat.mul_one]; omega
    have e2 : (nv32 b + 1) * 2 ^ s ≤ 4294967296 ^ (b.length - 1) * (t + 1) * 2 ^ s := Nat.mul_le_mul_right _ e1
    have e3 : 4294967296 ^ (b.length - 1) * (t + 1) * 2 ^ s ≤ 4294967296 ^ (b.length - 1) * 4294967296 := by rw [Nat.mul_assoc]; exact Nat.mul_le_mul_left _ q2
    have e4 : 4294967296 ^ (b.length - 1) * 4294967296 = 4294967296 ^ b.length := by rw [← Nat.pow_succ, show (b.length - 1).succ = b.length by omega]
    have e5 := Nat.two_pow_pos s
    rw [Nat.add_mul, Nat.one_mul] at e2
    rw [hv]; omega
  have hpb : 0 < 4294967296 ^ (b.length - 1) := Nat.pow_pos (by decide)
  have hdn : d ≠ [] := by
    intro e
    have h0 : 0 < 2147483648 * 4294967296 ^ (b.length - 1) := Nat.mul_pos (by decide) hpb
    rw [e] at lo
    have z : nv32 [] = 0 := rfl
    omega
  have hlen : d.length = b.length := by
    have g1 := hd.ge hdn
    have g2 := nv32_lt d
    have g3 : d.length - 1 < b.length := (Nat.pow_lt_pow_iff_right (by decide : 1 < 4294967296)).1 (Nat.lt_of_le_of_lt g1 hi)
    have g4 : b.length - 1 < d.length := (Nat.pow_lt_pow_iff_right (by decide : 1 < 4294967296)).1 (by omega)
    omega
  refine ⟨hlen, ?_, by omega, lo⟩
  have htd : nv32 (d.drop (b.length - 1)) = (g32 d (b.length - 1)).toNat := by
    rw [nv32_drop, show b.length - 1 + 1 = d.length by omega, List.drop_length]; simp [nv32]
  rw [← htd, ← nv32_div]
  exact (Nat.le_div_iff_mul_le hpb).2 lo
theorem dvi_start {d r : List U32} {a : List U32} {s la n : Nat} (hs : s ≤ 31) (hla : a.length = la) (hn1 : 1 ≤ n) (hn : n ≤ la) (hlo : 2147483648 * 4294967296 ^ (n - 1) ≤ nv32 d) (hr : r.length = la + 1) (hv : nv32 r = nv32 a * 2 ^ s) :
    DvI d (nv32 a * 2 ^ s) (la + 1) (la + 1 - n) (la + 1 - n, r, List.replicate (la + 1 - n) 0) := by
  have hal := nv32_lt a
  rw [hla] at hal
  refine ⟨Nat.le_refl _, hr, by simp, ?_, ?_⟩
  · dsimp only
    rw [hv]
    have h1 : 2147483648 * 4294967296 ^ (n - 1) * 4294967296 ^ (la + 1 - n) ≤ nv32 d * 4294967296 ^ (la + 1 - n) := Nat.mul_le_mul_right _ hlo
    rw [Nat.mul_assoc, ← Nat.pow_add, show n - 1 + (la + 1 - n) = la by omega] at h1
    have h2 : (2 : Nat) ^ s ≤ 2147483648 := Nat.pow_le_pow_right (n := 2) (by decide) hs
    have h3 : nv32 a * 2 ^ s < 4294967296 ^ la * 2 ^ s := Nat.mul_lt_mul_of_pos_right hal (Nat.two_pow_pos s)
    have h4 : 4294967296 ^ la * 2 ^ s ≤ 4294967296 ^ la * 2147483648 := Nat.mul_le_mul_left _ h2
    rw [Nat.mul_comm (4294967296 ^ la) 2147483648] at h4
    omega
  · dsimp only
    rw [List.drop_eq_nil_of_le (by simp), hv]; simp [nv32]
theorem mid3 (r zs : List U32) (i m : Nat) (h : i + m ≤ r.length) (hz : zs.length = m) :
    (List.take i r ++ (zs ++ List.drop (i + m) r)).length = r.length ∧ List.take m (List.drop i (List.take i r ++ (zs ++ List.drop (i + m) r))) = zs ∧
    List.take i (List.take i r ++ (zs ++ List.drop (i + m) r)) = List.take i r ∧ List.drop (i + m) (List.take i r ++ (zs ++ List.drop (i + m) r)) = List.drop (i + m) r := by
  have hl : (List.take i r).length = i := by rw [List.length_take]; omega
  refine ⟨?_, ?_, ?_, ?_⟩
  · simp only [List.length_append, List.length_drop, hl, hz]; omega
  · rw [List.drop_append_of_le_length (by omega), List.drop_eq_nil_of_le (by omega), List.nil_append, List.take_append_of_le_length (by omega), List.take_of_length_le (by omega)]
  · rw [List.take_append_of_le_length (by omega), List.take_of_length_le (by omega)]
  · rw [List.drop_append, hl, List.drop_eq_nil_of_le (by omega), List.nil_append, show i + m - i = zs.length by omega, List.drop_left]
theorem copy_val (u : List U32) (L : Nat) (h : u.length ≤ L) : (List.take (min u.length L) u ++ List.drop (List.take (min u.length L) u).length (List.replicate L (g32 [0#32] 0))).length = L ∧
    nv32 (List.take (min u.length L) u ++ List.drop (List.take (min u.length L) u).length (List.replicate L (g32 [0#32] 0))) = nv32 u := by
  rw [Nat.min_eq_left h, List.take_length, List.drop_replicate]
  refine ⟨by simp; omega, ?_⟩
  rw [nv32_app, show g32 [0#32] 0 = 0 from rfl, nv32_zeros, Nat.mul_zero, Nat.add_zero]
def cDivN : CT := fun cas K => match cas with
  | [.s (.c32 a), .s (.c32 b)] => (a.length ≤ 20000 ∧ b.length ≤ 20000) ∧ (nv32 b = 0 → K (.tup [.s (.c32 []), .s (.c32 []), .v (.int 1)])) ∧ (nv32 b ≠ 0 → nv32 a < nv32 b → ∀ e, Can32 e → nv32 e = nv32 a → e.length ≤ a.length → K (.tup [.s (.c32 []), .s (.c32 e), .v (.int 0)])) ∧
    (nv32 b ≠ 0 → nv32 b ≤ nv32 a → ∀ q r, Can32 q → Can32 r → nv32 q = nv32 a / nv32 b → nv32 r = nv32 a % nv32 b → q.length ≤ a.length + 1 → r.length ≤ a.length + 4 → K (.tup [.al (.c32 q), .al (.c32 r), .v (.int 0)]))
  | _ => False
def u1 : CTab := fun F => match F with
  | 90 => .fn cTrimN
  | 93 => .fn cWordN
  | _ => .fn noCT
theorem u1_ok : CTok Try.prog u1 := by
  intro F
  unfold u1
  split
  · exact sTrimN
  · exact sWordN
  · exact sound_none _ _
set_option maxRecDepth 100000 in
set_option maxHeartbeats 1000000 in
theorem sShrD : Sound Try.prog 120 cShrD := by
  refine sound_vc (tt := tt) (ct := u1) ttok u1_ok mixed Try.func120 rfl (by decide) (rs := [.tmp 4]) rfl (ts := [23]) (k := 0) ?_
  intro cas K h
  unfold cShrD at h
  split at h
  · rename_i a n
    rw [Try.ntmps120]
    refine ⟨by simp, ?_⟩
    obtain ⟨⟨ha, hn, hn0, hn3, hap⟩, h⟩ := h
    simp (maxSteps := 10000000) (implicitDefEqProofs := false) only [↓both_true, ↓both_false, ↓entryVC, ↓vc_skip, ↓vc_draw, ↓vc_list, ↓vc_seq, ↓vc_seqn, ↓vc_seqe, ↓vc_seqr, ↓vc_cond, ↓condVC, ↓vc_block, ↓vc_blockn, ↓vc_blockr, ↓vc_blocke, ↓vc_loop, ↓vc_exit, ↓vc_ret, ↓vc_loopn, ↓vc_loope, ↓vc_loopr, ↓vcl_nil, ↓vcl_cons, ↓lw_eq, ↓listVC, ↓memK, ↓memR, ↓envOf, ↓guardVC, ↓opVC, ↓pureVC, ↓binT, ↓wrapT, ↓TDsc.isW, ↓binW, ↓binVC, ↓bin8, ↓bin32, ↓bin64, ↓binInt, ↓shVC, ↓unVC, ↓cvVC, ↓rdVC, ↓loadVC, ↓pickC, ↓fillVC, ↓bndVC, ↓sliceVC, ↓bltVC, ↓storeVC, ↓appVC, ↓apzVC, ↓markVC, ↓copyVC, ↓callVC, ↓argsVC, ↓argVC, ↓bindR, ↓bindR1, ↓bindRs, ↓retW_eq, ↓extW_eq, ↓rowW_eq, ↓aggW_eq, ↓plv_nil, ↓plv_tk, ↓plv_fz, ↓plv_ld, ↓pt_eq, ↓pz_eq, ↓pl_eq, ↓delAll, ↓keepM_nil, ↓keepM, ↓extE, ↓extM, ↓leS, ↓leA, ↓retVC, ↓retR, ↓resVC, ↓resV1, ↓ressVC, ↓strU, ↓xAdd64, ↓xSub64, ↓vc_jn, ↓vc_je, ↓vc_jr, ↓pickA, ↓stU_env, ↓stU_mem, frz, both_true, both_false, both_dec, both_ndec, ev, absC, getA, setA, delA, tt, AV.good, AV.plain, AV.isSl, AV.cells, AV.one, Cells.len, Cells.get, Cells.sub, Cells.part, Cells.agg, Cells.upd, Cells.set, Cells.cat, Cells.rep, Cells.ones, TDsc.agg, zOf, putE, dstB, letGo, quietOp, slotOp, pickA, true_or, or_true, List.append_eq, Int.cast_ofNat_Int, List.any_cons, List.any_nil, beq_iff_eq, Bool.decide_eq_true, Option.getD_some, Option.getD_none, Option.map_some, Option.map_none, Option.bind_some, Option.isSome_some, Option.isNone_some, Option.isNone_none, Option.isSome_none, ↓reduceIte, Nat.reduceEqDiff, Nat.reduceLT, Nat.reduceLeDiff, Nat.reduceAdd, Nat.reduceSub, Nat.reduceMul, Nat.reduceBEq, Int.reduceLE, Int.reduceLT, Int.reduceToNat, Int.reduceNeg, BitVec.reduceToNat, decide_true, decide_false, and_true, true_and, and_self, Bool.or_true, Bool.true_or, Bool.or_false, Bool.false_or, Bool.not_true, Bool.not_false, List.map_cons, List.map_nil, List.length_cons, List.length_nil, List.getElem?_toArray, List.getElem?_cons_zero, List.getElem?_cons_succ, List.getElem?_nil, forall_const, true_implies, reduceCtorEq, false_and, and_false, false_implies, implies_true, Bool.false_eq_true, Bool.true_eq_false, ne_eq, not_true, not_false_iff, Nat.sub_zero, Nat.zero_add, Nat.add_zero, List.drop_zero, List.drop_succ_cons, List.drop_nil, List.take_zero, List.take_succ_cons, List.take_nil, List.set_cons_zero, List.set_cons_succ, List.nil_append, List.cons_append, List.append_nil, List.replicate_zero, List.replicate_succ, BitVec.ofNat_eq_ofNat, Option.some.injEq, AV.int.injEq, AV.u64.injEq, AV.u32.injEq, AV.u8.injEq, AV.bool.injEq, AV.a64.injEq, AV.a32.injEq, AV.a8.injEq, Nat.zero_le, Int.toNat_natCast, u1, cTrimN, cWordN, List.getD_cons_zero]
    intro A ca hca
    obtain ⟨m, hm⟩ : ∃ m : Nat, (if n < 0 then 0 else n) = (m : Int) := ⟨n.toNat, by split <;> omega⟩
    have hmn : n.toNat = m := by split at hm <;> omega
    have hm3 : m < 32 := by split at hm <;> omega
    rw [hmn] at h
    have hn2 : intIn (m : Int) := by
      obtain ⟨n1, n2⟩ := hn
      constructor <;> split at hm <;> omega
    simp only [hm]
    clear hm hmn hn
    refine ⟨⟨by omega, hn2⟩, by omega, fun hle => ?_, fun hgt => ?_⟩
    · exact absurd hle (by omega)
    · refine ⟨by simp only [intIn]; omega, by omega, ?_⟩
      intro g
      have e1 : ((a.length : Int) - (m : Int) / 32).toNat = a.length - m / 32 := by omega
      rw [e1]
      have hr : m % 32 < 32 := Nat.mod_lt _ (by decide)
      obtain ⟨t, ht⟩ : ∃ t, a.drop (m / 32) = t := ⟨_, rfl⟩
      have htl : a.length - m / 32 = t.length := by rw [← ht, List.length_drop]
      have hg : ∀ j, g32 t j = g32 a (j + m / 32) := fun j => by rw [← ht]; simp [g32, List.getD_eq_getElem?_getD, List.getElem?_drop, Nat.add_comm]
      have hsh := shr_drop32 a m
      rw [ht] at hsh
      rw [htl]
      refine loopU _ _ _ [0, 5, 6, 7, 26] [0] 3 (ι := {s : Nat × List U32 // ShrI t (m % 32) s}) (fun s => [(27, .int (s.1.1 : Int))]) (fun s => [(2, .own g 34 (.c32 s.1.2))]) (fun s => t.length - s.1.1) ?_ ?_
      · refine LeJ.mk ⟨(0, List.replicate t.length 0), shri_start _ _⟩ trivial ?_
        simp (maxSteps := 1000000) only [leS, leA, stU_env, stU_mem, pickA, getA, delA, setA, Cells.part, Cells.len, List.take_nil, List.drop_nil, List.length_nil, Nat.zero_add, ↓reduceIte, Nat.reduceEqDiff, Option.some.injEq, List.nil_append, List.cons_append, true_and, and_true, and_self, reduceCtorEq, AV.int.injEq, ME.own.injEq, ME.row.injEq, Cells.c32.injEq, Cells.c64.injEq, Cells.c8.injEq, AV.ptr.injEq, AV.ros.injEq, AV.grow.injEq, AV.u64.injEq, AV.u32.injEq]
        first | done | rfl | exact ⟨rfl, rfl⟩
      · rintro ⟨⟨i, p⟩, hI⟩
        obtain ⟨hi, hl, -⟩ := id hI
        dsimp only at hi hl
        simp (maxSteps := 10000000) (implicitDefEqProofs := false) only [↓both_true, ↓both_false, ↓entryVC, ↓vc_skip, ↓vc_draw, ↓vc_list, ↓vc_seq, ↓vc_seqn, ↓vc_seqe, ↓vc_seqr, ↓vc_cond, ↓condVC, ↓vc_block, ↓vc_blockn, ↓vc_blockr, ↓vc_blocke, ↓vc_loop, ↓vc_exit, ↓vc_ret, ↓vc_loopn, ↓vc_loope, ↓vc_loopr, ↓vcl_nil, ↓vcl_cons, ↓lw_eq, ↓listVC, ↓memK, ↓memR, ↓envOf, ↓guardVC, ↓opVC, ↓pureVC, ↓binT, ↓wrapT, ↓TDsc.isW, ↓binW, ↓binVC, ↓bin8, ↓bin32, ↓bin64, ↓binInt, ↓shVC, ↓unVC, ↓cvVC, ↓rdVC, ↓loadVC, ↓pickC, ↓fillVC, ↓bndVC, ↓sliceVC, ↓bltVC, ↓storeVC, ↓appVC, ↓apzVC, ↓markVC, ↓copyVC, ↓callVC, ↓argsVC, ↓argVC, ↓bindR, ↓bindR1, ↓bindRs, ↓retW_eq, ↓extW_eq, ↓rowW_eq, ↓aggW_eq, ↓plv_nil, ↓plv_tk, ↓plv_fz, ↓plv_ld, ↓pt_eq, ↓pz_eq, ↓pl_eq, ↓delAll, ↓keepM_nil, ↓keepM, ↓extE, ↓extM, ↓leS, ↓leA, ↓retVC, ↓retR, ↓resVC, ↓resV1, ↓ressVC, ↓strU, ↓xAdd64, ↓xSub64, ↓vc_jn, ↓vc_je, ↓vc_jr, ↓pickA, ↓stU_env, ↓stU_mem, frz, both_true, both_false, both_dec, both_ndec, ev, absC, getA, setA, delA, tt, AV.good, AV.plain, AV.isSl, AV.cells, AV.one, Cells.len, Cells.get, Cells.sub, Cells.part, Cells.agg, Cells.upd, Cells.set, Cells.cat, Cells.rep, Cells.ones, TDsc.agg, zOf, putE, dstB, letGo, quietOp, slotOp, pickA, true_or, or_true, List.append_eq, Int.cast_ofNat_Int, List.any_cons, List.any_nil, beq_iff_eq, Bool.decide_eq_true, Option.getD_some, Option.getD_none, Option.map_some, Option.map_none, Option.bind_some, Option.isSome_some, Option.isNone_some, Option.isNone_none, Option.isSome_none, ↓reduceIte, Nat.reduceEqDiff, Nat.reduceLT, Nat.reduceLeDiff, Nat.reduceAdd, Nat.reduceSub, Nat.reduceMul, Nat.reduceBEq, Int.reduceLE, Int.reduceLT, Int.reduceToNat, Int.reduceNeg, BitVec.reduceToNat, decide_true, decide_false, and_true, true_and, and_self, Bool.or_true, Bool.true_or, Bool.or_false, Bool.false_or, Bool.not_true, Bool.not_false, List.map_cons, List.map_nil, List.length_cons, List.length_nil, List.getElem?_toArray, List.getElem?_cons_zero, List.getElem?_cons_succ, List.getElem?_nil, forall_const, true_implies, reduceCtorEq, false_and, and_false, false_implies, implies_true, Bool.false_eq_true, Bool.true_eq_false, ne_eq, not_true, not_false_iff, Nat.sub_zero, Nat.zero_add, Nat.add_zero, List.drop_zero, List.drop_succ_cons, List.drop_nil, List.take_zero, List.take_succ_cons, List.take_nil, List.set_cons_zero, List.set_cons_succ, List.nil_append, List.cons_append, List.append_nil, List.replicate_zero, List.replicate_succ, BitVec.ofNat_eq_ofNat, Option.some.injEq, AV.int.injEq, AV.u64.injEq, AV.u32.injEq, AV.u8.injEq, AV.bool.injEq, AV.a64.injEq, AV.a32.injEq, AV.a8.injEq, Nat.zero_le, Int.toNat_natCast, u1, cTrimN, cWordN, List.getD_cons_zero]
        repeat (refine And.intro (by first | omega | (simp only [intIn]; omega) | decide) ?_)
        refine ⟨fun hlt => ?_, fun hge => ?_⟩
        · have hlt : i < t.length := by omega
          refine draw_ _ _ _ [(.fz, 0), (.fz, 1), (.fz, 2), (.fz, 3), (.fz, 4), (.fz, 8), (.fz, 9), (.fz, 10), (.fz, 11), (.tk, 12), (.tk, 13), (.tk, 14), (.ld, 5), (.tk, 6), (.fz, 7), (.fz, 15), (.fz, 16)] [] [0] (by kernel_rfl) ?_
          simp (maxSteps := 10000000) (implicitDefEqProofs := false) only [↓both_true, ↓both_false, ↓entryVC, ↓vc_skip, ↓vc_draw, ↓vc_list, ↓vc_seq, ↓vc_seqn, ↓vc_seqe, ↓vc_seqr, ↓vc_cond, ↓condVC, ↓vc_block, ↓vc_blockn, ↓vc_blockr, ↓vc_blocke, ↓vc_loop, ↓vc_exit, ↓vc_ret, ↓vc_loopn, ↓vc_loope, ↓vc_loopr, ↓vcl_nil, ↓vcl_cons, ↓lw_eq, ↓listVC, ↓memK, ↓memR, ↓envOf, ↓guardVC, ↓opVC, ↓pureVC, ↓binT, ↓wrapT, ↓TDsc.isW, ↓binW, ↓binVC, ↓bin8, ↓bin32, ↓bin64, ↓binInt, ↓shVC, ↓unVC, ↓cvVC, ↓rdVC, ↓loadVC, ↓pickC, ↓fillVC, ↓bndVC, ↓sliceVC, ↓bltVC, ↓storeVC, ↓appVC, ↓apzVC, ↓markVC, ↓copyVC, ↓callVC, ↓argsVC, ↓argVC, ↓bindR, ↓bindR1, ↓bindRs, ↓retW_eq, ↓extW_eq, ↓rowW_eq, ↓aggW_eq, ↓plv_nil, ↓plv_tk, ↓plv_fz, ↓plv_ld, ↓pt_eq, ↓pz_eq, ↓pl_eq, ↓delAll, ↓keepM_nil, ↓keepM, ↓extE, ↓extM, ↓leS, ↓leA, ↓retVC, ↓retR, ↓resVC, ↓resV1, ↓ressVC, ↓strU, ↓xAdd64, ↓xSub64, ↓vc_jn, ↓vc_je, ↓vc_jr, ↓pickA, ↓stU_env, ↓stU_mem, frz, both_true, both_false, both_dec, both_ndec, ev, absC, getA, setA, delA, tt, AV.good, AV.plain, AV.isSl, AV.cells, AV.one, Cells.len, Cells.get, Cells.sub, Cells.part, Cells.agg, Cells.upd, Cells.set, Cells.cat, Cells.rep, Cells.ones, TDsc.agg, zOf, putE, dstB, letGo, quietOp, slotOp, pickA, true_or, or_true, List.append_eq, Int.cast_ofNat_Int, List.any_cons, List.any_nil, beq_iff_eq, Bool.decide_eq_true, Option.getD_some, Option.getD_none, Option.map_some, Option.map_none, Option.bind_some, Option.isSome_some, Option.isNone_some, Option.isNone_none, Option.isSome_none, ↓reduceIte, Nat.reduceEqDiff, Nat.reduceLT, Nat.reduceLeDiff, Nat.reduceAdd, Nat.reduceSub, Nat.reduceMul, Nat.reduceBEq, Int.reduceLE, Int.reduceLT, Int.reduceToNat, Int.reduceNeg, BitVec.reduceToNat, decide_true, decide_false, and_true, true_and, and_self, Bool.or_true, Bool.true_or, Bool.or_false, Bool.false_or, Bool.not_true, Bool.not_false, List.map_cons, List.map_nil, List.length_cons, List.length_nil, List.getElem?_toArray, List.getElem?_cons_zero, List.getElem?_cons_succ, List.getElem?_nil, forall_const, true_implies, reduceCtorEq, false_and, and_false, false_implies, implies_true, Bool.false_eq_true, Bool.true_eq_false, ne_eq, not_true, not_false_iff, Nat.sub_zero, Nat.zero_add, Nat.add_zero, List.drop_zero, List.drop_succ_cons, List.drop_nil, List.take_zero, List.take_succ_cons, List.take_nil, List.set_cons_zero, List.set_cons_succ, List.nil_append, List.cons_append, List.append_nil, List.replicate_zero, List.replicate_succ, BitVec.ofNat_eq_ofNat, Option.some.injEq, AV.int.injEq, AV.u64.injEq, AV.u32.injEq, AV.u8.injEq, AV.bool.injEq, AV.a64.injEq, AV.a32.injEq, AV.a8.injEq, Nat.zero_le, Int.toNat_natCast, u1, cTrimN, cWordN, List.getD_cons_zero]
          have e2 : ((i : Int) + (m : Int) / 32).toNat = i + m / 32 := by omega
          have e3 : ((i : Int) + (m : Int) / 32 + 1).toNat = i + 1 + m / 32 := by omega
          have e4 : ((m : Int) % 32).toNat = m % 32 := by omega
          rw [e2, e3, e4, ← hg, ← hg]
          repeat (refine And.intro (by first | omega | (simp only [intIn]; omega) | decide) ?_)
          have hx : (((((g32 t (i + 1)).setWidth 64 : U64) <<< 32 ||| (g32 t i).setWidth 64) >>> (m % 32)).setWidth 32 : U32).toNat = ((g32 t i).toNat + (g32 t (i + 1)).toNat * 4294967296) / 2 ^ (m % 32) % 4294967296 := by
            rw [BitVec.toNat_setWidth, BitVec.toNat_ushiftRight, hilo, Nat.shiftRight_eq_div_pow, Nat.add_comm]
          refine LeJ.mk ⟨(i + 1, _), shri_step hr hlt hI hx⟩ (by dsimp only; omega) ?_
          simp (maxSteps := 1000000) only [leS, leA, stU_env, stU_mem, pickA, getA, delA, setA, Cells.part, Cells.len, List.take_nil, List.drop_nil, List.length_nil, Nat.zero_add, ↓reduceIte, Nat.reduceEqDiff, Option.some.injEq, List.nil_append, List.cons_append, true_and, and_true, and_self, reduceCtorEq, AV.int.injEq, ME.own.injEq, ME.row.injEq, Cells.c32.injEq, Cells.c64.injEq, Cells.c8.injEq, AV.ptr.injEq, AV.ros.injEq, AV.grow.injEq, AV.u64.injEq, AV.u32.injEq]
          first | done | rfl | omega
        · obtain rfl : i = t.length := by omega
          refine ⟨⟨by omega, by omega, by omega⟩, by rw [List.length_take]; omega, ?_⟩
          intro e he hev hel c hc
          rw [List.take_of_length_le (by omega)] at hev hel
          exact h e he (by rw [hev, shri_end hI, hsh]) (by omega)
  · exact h.elim
def d1 : CTab := fun F => match F with
  | 90 => .fn cTrimN
  | 30 => .fn cCmpN
  | 115 => .fn cSmallN
  | 116 => .fn cLz
  | 67 => .fn cShlD
  | 120 => .fn cShrD
  | 117 => .fn cGuess
  | 118 => .mem mTake
  | 119 => .mem mBack
  | _ => .fn noCT
theorem d1_ok : CTok Try.prog d1 := by
  intro F
  unfold d1
  split
  · exact sTrimN
  · exact sCmpN
  · exact sSmallN
  · exact sLz
  · exact sShlD
  · exact sShrD
  · exact sGuess
  · exact mTake_ok
  · exact mBack_ok
  · exact sound_none _ _
set_option maxRecDepth 100000 in
set_option maxHeartbeats 8000000 in
theorem sDivN : Sound Try.prog 70 cDivN := by
  refine sound_vc (tt := tt) (ct := d1) ttok d1_ok mixed Try.func70 rfl (by decide) (rs := [.tmp 4, .tmp 5, .tmp 6]) rfl (ts := [23, 23, 25]) (k := 0) ?_
  intro cas K h
  unfold cDivN at h
  split at h
  · rename_i a b
    rw [Try.ntmps70]
    refine ⟨by simp, ?_⟩
    obtain ⟨⟨ha, hb⟩, h1, h2, h3⟩ := h
    simp (maxSteps := 10000000) (implicitDefEqProofs := false) only [↓both_true, ↓both_false, ↓entryVC, ↓vc_skip, ↓vc_draw, ↓vc_list, ↓vc_seq, ↓vc_seqn, ↓vc_seqe, ↓vc_seqr, ↓vc_cond, ↓condVC, ↓vc_block, ↓vc_blockn, ↓vc_blockr, ↓vc_blocke, ↓vc_loop, ↓vc_exit, ↓vc_ret, ↓vc_loopn, ↓vc_loope, ↓vc_loopr, ↓vcl_nil, ↓vcl_cons, ↓lw_eq, ↓listVC, ↓memK, ↓memR, ↓envOf, ↓guardVC, ↓opVC, ↓pureVC, ↓binT, ↓wrapT, ↓TDsc.isW, ↓binW, ↓binVC, ↓bin8, ↓bin32, ↓bin64, ↓binInt, ↓shVC, ↓unVC, ↓cvVC, ↓rdVC, ↓loadVC, ↓pickC, ↓fillVC, ↓bndVC, ↓sliceVC, ↓bltVC, ↓storeVC, ↓appVC, ↓apzVC, ↓markVC, ↓copyVC, ↓callVC, ↓argsVC, ↓argVC, ↓bindR, ↓bindR1, ↓bindRs, ↓retW_eq, ↓extW_eq, ↓rowW_eq, ↓aggW_eq, ↓plv_nil, ↓plv_tk, ↓plv_fz, ↓plv_ld, ↓pt_eq, ↓pz_eq, ↓pl_eq, ↓delAll, ↓keepM_nil, ↓keepM, ↓extE, ↓extM, ↓leS, ↓leA, ↓retVC, ↓retR, ↓resVC, ↓resV1, ↓ressVC, ↓strU, ↓xAdd64, ↓xSub64, ↓vc_jn, ↓vc_je, ↓vc_jr, ↓pickA, ↓stU_env, ↓stU_mem, frz, both_true, both_false, both_dec, both_ndec, ev, absC, getA, setA, delA, tt, AV.good, AV.plain, AV.isSl, AV.cells, AV.one, Cells.len, Cells.get, Cells.sub, Cells.part, Cells.agg, Cells.upd, Cells.set, Cells.cat, Cells.rep, Cells.ones, TDsc.agg, zOf, putE, dstB, letGo, quietOp, slotOp, pickA, true_or, or_true, List.append_eq, Int.cast_ofNat_Int, List.any_cons, List.any_nil, beq_iff_eq, Bool.decide_eq_true, Option.getD_some, Option.getD_none, Option.map_some, Option.map_none, Option.bind_some, Option.isSome_some, Option.isNone_some, Option.isNone_none, Option.isSome_none, ↓reduceIte, Nat.reduceEqDiff, Nat.reduceLT, Nat.reduceLeDiff, Nat.reduceAdd, Nat.reduceSub, Nat.reduceMul, Nat.reduceBEq, Int.reduceLE, Int.reduceLT, Int.reduceToNat, Int.reduceNeg, BitVec.reduceToNat, decide_true, decide_false, and_true, true_and, and_self, Bool.or_true, Bool.true_or, Bool.or_false, Bool.false_or, Bool.not_true, Bool.not_false, List.map_cons, List.map_nil, List.length_cons, List.length_nil, List.getElem?_toArray, List.getElem?_cons_zero, List.getElem?_cons_succ, List.getElem?_nil, forall_const, true_implies, reduceCtorEq, false_and, and_false, false_implies, implies_true, Bool.false_eq_true, Bool.true_eq_false, ne_eq, not_true, not_false_iff, Nat.sub_zero, Nat.zero_add, Nat.add_zero, List.drop_zero, List.drop_succ_cons, List.drop_nil, List.take_zero, List.take_succ_cons, List.take_nil, List.set_cons_zero, List.set_cons_succ, List.nil_append, List.cons_append, List.append_nil, List.replicate_zero, List.replicate_succ, BitVec.ofNat_eq_ofNat, Option.some.injEq, AV.int.injEq, AV.u64.injEq, AV.u32.injEq, AV.u8.injEq, AV.bool.injEq, AV.a64.injEq, AV.a32.injEq, AV.a8.injEq, Nat.zero_le, Int.toNat_natCast, d1, cTrimN, cCmpN, cSmallN, cLz, cShlD, cShrD, cGuess, mTake, mBack, List.getD_cons_zero]
    intro A ca hca B cb hcb
    refine ⟨by omega, ?_⟩
    intro x hx hxv hxl A2 c2 hc2
    refine ⟨by omega, ?_⟩
    intro y hy hyv hyl A3 c3 hc3
    refine ⟨fun h0 => h1 ?_, fun hne => ?_⟩
    · have hy0 : y = [] := List.eq_nil_of_length_eq_zero (by omega)
      rw [← hyv, hy0]; rfl
    · have hb0 : nv32 b ≠ 0 := by
        have := hy.pos (by intro e; rw [e] at hne; exact hne rfl)
        omega
      refine ⟨⟨by omega, by omega⟩, fun hlt => ⟨by omega, h2 hb0 (by have := sgn_neg.1 hlt; omega) x hx hxv hxl⟩, fun hge => ⟨fun h11 => ?_, fun hn => ?_⟩⟩
      · have hy1 : y.length = 1 := by omega
        have hg : (g32 y 0).toNat = nv32 b := by
          rw [← hyv]
          match y, hy1 with
          | [d], _ => simp [g32, nv32]
        have hge : nv32 b ≤ nv32 a := by
          have := mt sgn_neg.2 hge; omega
        refine ⟨by omega, by omega, by omega, ⟨by omega, fun e => hb0 (by rw [← hg, e]; rfl)⟩, ?_⟩
        intro q r hq hr hqv hrv hql hrl c hc c' hc'
        exact h3 hb0 hge q r hq hr (by rw [hqv, hxv, hg]) (by rw [hrv, hxv, hg]) (by omega) (by omega)
      · have hge : nv32 y ≤ nv32 x := by
          have := mt sgn_neg.2 hge; omega
        have hyx := hy.len_le hx hge
        have e1 : ((y.length : Int) - 1).toNat = y.length - 1 := by omega
        rw [e1]
        have hbl := blN_le (k := (g32 y (y.length - 1)).toNat) (s := 32) (g32 y (y.length - 1)).isLt
        obtain ⟨s, hs⟩ : ∃ s : Nat, s = 32 - blN (g32 y (y.length - 1)).toNat := ⟨_, rfl⟩
        have es : (32 - ((blN (g32 y (y.length - 1)).toNat : Nat) : Int)) = (s : Int) := by omega
        simp only [es, Int.toNat_natCast]
        refine ⟨by simp only [intIn]; omega, ⟨by omega, by omega⟩, by omega, by omega, ⟨by omega, by omega, by omega⟩, ?_⟩
        intro d hd hdv hdl A4 c4 hc4
        obtain ⟨nd1, nd2, nd3, nd4⟩ := norm_d hy (by omega) hs hd hdv
        refine ⟨by simp only [intIn]; omega, by omega, ?_⟩
        intro g
        refine ⟨⟨by omega, by omega, by omega⟩, ?_⟩
        intro u hu huv hul A5 c5 hc5
        have E1 : ((x.length : Int) + 1).toNat = x.length + 1 := by omega
        rw [E1]
        refine ⟨by simp, by simp only [intIn]; omega, by omega, ?_⟩
        intro g1
        obtain ⟨m, hm⟩ : ∃ m, m = x.length + 1 - d.length := ⟨_, rfl⟩
        have E2 : (((x.length + 1 : Nat) : Int) - (d.length : Int)) = (m : Int) := by omega
        simp only [E2, Int.toNat_natCast]
        refine ⟨by simp only [intIn]; omega, ?_⟩
        obtain ⟨cp1, cp2⟩ := copy_val u (x.length + 1) (by omega)
        generalize List.take (min u.length (x.length + 1)) u ++ List.drop (List.take (min u.length (x.length + 1)) u).length (List.replicate (x.length + 1) (g32 [0#32] 0)) = r0 at cp1 cp2 ⊢
        refine loopU _ _ _ [9, 10, 12, 15, 16] [4] 8 (ι := {t : Nat × List U32 × List U32 // DvI d (nv32 x * 2 ^ s) (x.length + 1) m t}) (fun t => [(17, .int ((t.1.1 : Int) - 1))]) (fun t => [(5, .own g 34 (.c32 t.1.2.1)), (7, .own g1 34 (.c32 t.1.2.2))]) (fun t => t.1.1) ?_ ?_
        · have hst := dvi_start (d := d) (r := r0) (a := x) (s := s) (la := x.length) (n := d.length) nd3 rfl (by omega) (by omega) (by rw [nd1]; exact nd4) cp1 (by rw [cp2, huv])
          rw [← hm] at hst
          refine LeJ.mk ⟨(m, r0, List.replicate m 0), hst⟩ trivial ?_
          simp (maxSteps := 1000000) only [leS, leA, stU_env, stU_mem, pickA, getA, delA, setA, Cells.part, Cells.len, List.take_nil, List.drop_nil, List.length_nil, Nat.zero_add, ↓reduceIte, Nat.reduceEqDiff, Option.some.injEq, List.nil_append, List.cons_append, true_and, and_true, and_self, reduceCtorEq, AV.int.injEq, ME.own.injEq, ME.row.injEq, Cells.c32.injEq, Cells.c64.injEq, Cells.c8.injEq, AV.ptr.injEq, AV.ros.injEq, AV.grow.injEq, AV.u64.injEq, AV.u32.injEq]
          first | done | rfl | exact ⟨rfl, rfl⟩ | simp
        · rintro ⟨⟨k, r, q⟩, hI⟩
          obtain ⟨hk, hrl, hql, hlt0, -⟩ := id hI
          dsimp only at hk hrl hql hlt0
          simp (maxSteps := 10000000) (implicitDefEqProofs := false) only [↓both_true, ↓both_false, ↓entryVC, ↓vc_skip, ↓vc_draw, ↓vc_list, ↓vc_seq, ↓vc_seqn, ↓vc_seqe, ↓vc_seqr, ↓vc_cond, ↓condVC, ↓vc_block, ↓vc_blockn, ↓vc_blockr, ↓vc_blocke, ↓vc_loop, ↓vc_exit, ↓vc_ret, ↓vc_loopn, ↓vc_loope, ↓vc_loopr, ↓vcl_nil, ↓vcl_cons, ↓lw_eq, ↓listVC, ↓memK, ↓memR, ↓envOf, ↓guardVC, ↓opVC, ↓pureVC, ↓binT, ↓wrapT, ↓TDsc.isW, ↓binW, ↓binVC, ↓bin8, ↓bin32, ↓bin64, ↓binInt, ↓shVC, ↓unVC, ↓cvVC, ↓rdVC, ↓loadVC, ↓pickC, ↓fillVC, ↓bndVC, ↓sliceVC, ↓bltVC, ↓storeVC, ↓appVC, ↓apzVC, ↓markVC, ↓copyVC, ↓callVC, ↓argsVC, ↓argVC, ↓bindR, ↓bindR1, ↓bindRs, ↓retW_eq, ↓extW_eq, ↓rowW_eq, ↓aggW_eq, ↓plv_nil, ↓plv_tk, ↓plv_fz, ↓plv_ld, ↓pt_eq, ↓pz_eq, ↓pl_eq, ↓delAll, ↓keepM_nil, ↓keepM, ↓extE, ↓extM, ↓leS, ↓leA, ↓retVC, ↓retR, ↓resVC, ↓resV1, ↓ressVC, ↓strU, ↓xAdd64, ↓xSub64, ↓vc_jn, ↓vc_je, ↓vc_jr, ↓pickA, ↓stU_env, ↓stU_mem, frz, both_true, both_false, both_dec, both_ndec, ev, absC, getA, setA, delA, tt, AV.good, AV.plain, AV.isSl, AV.cells, AV.one, Cells.len, Cells.get, Cells.sub, Cells.part, Cells.agg, Cells.upd, Cells.set, Cells.cat, Cells.rep, Cells.ones, TDsc.agg, zOf, putE, dstB, letGo, quietOp, slotOp, pickA, true_or, or_true, List.append_eq, Int.cast_ofNat_Int, List.any_cons, List.any_nil, beq_iff_eq, Bool.decide_eq_true, Option.getD_some, Option.getD_none, Option.map_some, Option.map_none, Option.bind_some, Option.isSome_some, Option.isNone_some, Option.isNone_none, Option.isSome_none, ↓reduceIte, Nat.reduceEqDiff, Nat.reduceLT, Nat.reduceLeDiff, Nat.reduceAdd, Nat.reduceSub, Nat.reduceMul, Nat.reduceBEq, Int.reduceLE, Int.reduceLT, Int.reduceToNat, Int.reduceNeg, BitVec.reduceToNat, decide_true, decide_false, and_true, true_and, and_self, Bool.or_true, Bool.true_or, Bool.or_false, Bool.false_or, Bool.not_true, Bool.not_false, List.map_cons, List.map_nil, List.length_cons, List.length_nil, List.getElem?_toArray, List.getElem?_cons_zero, List.getElem?_cons_succ, List.getElem?_nil, forall_const, true_implies, reduceCtorEq, false_and, and_false, false_implies, implies_true, Bool.false_eq_true, Bool.true_eq_false, ne_eq, not_true, not_false_iff, Nat.sub_zero, Nat.zero_add, Nat.add_zero, List.drop_zero, List.drop_succ_cons, List.drop_nil, List.take_zero, List.take_succ_cons, List.take_nil, List.set_cons_zero, List.set_cons_succ, List.nil_append, List.cons_append, List.append_nil, List.replicate_zero, List.replicate_succ, BitVec.ofNat_eq_ofNat, Option.some.injEq, AV.int.injEq, AV.u64.injEq, AV.u32.injEq, AV.u8.injEq, AV.bool.injEq, AV.a64.injEq, AV.a32.injEq, AV.a8.injEq, Nat.zero_le, Int.toNat_natCast, d1, cTrimN, cCmpN, cSmallN, cLz, cShlD, cShrD, cGuess, mTake, mBack, List.getD_cons_zero]
          refine ⟨fun hge0 => ?_, fun hlt0 => ?_⟩
          · obtain ⟨i, rfl⟩ : ∃ i, k = i + 1 := ⟨k - 1, by omega⟩
            have e2 : (((i + 1 : Nat) : Int) - 1) = (i : Int) := by omega
            simp only [e2]
            obtain ⟨W, hc⟩ := dv_ctx (d := d) (r := r) (i := i) (n := d.length) rfl (by omega) (by rw [nd1]; exact nd2) (by omega) hlt0
            refine draw_ _ _ _ [(.fz, 0), (.fz, 1), (.fz, 2), (.fz, 3), (.fz, 6), (.fz, 7), (.fz, 8), (.fz, 9), (.fz, 10), (.fz, 13), (.fz, 14), (.fz, 15), (.fz, 16), (.fz, 17), (.fz, 20), (.fz, 21), (.fz, 22), (.fz, 25), (.fz, 26), (.fz, 27), (.tk, 4), (.tk, 5), (.tk, 11), (.tk, 12), (.tk, 18), (.tk, 19), (.tk, 23), (.tk, 24), (.tk, 28), (.tk, 29), (.ld, 30), (.fz, 31)] [] [5, 4] (by kernel_rfl) ?_
            simp (maxSteps := 10000000) (implicitDefEqProofs := false) only [↓both_true, ↓both_false, ↓entryVC, ↓vc_skip, ↓vc_draw, ↓vc_list, ↓vc_seq, ↓vc_seqn, ↓vc_seqe, ↓vc_seqr, ↓vc_cond, ↓condVC, ↓vc_block, ↓vc_blockn, ↓vc_blockr, ↓vc_blocke, ↓vc_loop, ↓vc_exit, ↓vc_ret, ↓vc_loopn, ↓vc_loope, ↓vc_loopr, ↓vcl_nil, ↓vcl_cons, ↓lw_eq, ↓listVC, ↓memK, ↓memR, ↓envOf, ↓guardVC, ↓opVC, ↓pureVC, ↓binT, ↓wrapT, ↓TDsc.isW, ↓binW, ↓binVC, ↓bin8, ↓bin32, ↓bin64, ↓binInt, ↓shVC, ↓unVC, ↓cvVC, ↓rdVC, ↓loadVC, ↓pickC, ↓fillVC, ↓bndVC, ↓sliceVC, ↓bltVC, ↓storeVC, ↓appVC, ↓apzVC, ↓markVC, ↓copyVC, ↓callVC, ↓argsVC, ↓argVC, ↓bindR, ↓bindR1, ↓bindRs, ↓retW_eq, ↓extW_eq, ↓rowW_eq, ↓aggW_eq, ↓plv_nil, ↓plv_tk, ↓plv_fz, ↓plv_ld, ↓pt_eq, ↓pz_eq, ↓pl_eq, ↓delAll, ↓keepM_nil, ↓keepM, ↓extE, ↓extM, ↓leS, ↓leA, ↓retVC, ↓retR, ↓resVC, ↓resV1, ↓ressVC, ↓strU, ↓xAdd64, ↓xSub64, ↓vc_jn, ↓vc_je, ↓vc_jr, ↓pickA, ↓stU_env, ↓stU_mem, frz, both_true, both_false, both_dec, both_ndec, ev, absC, getA, setA, delA, tt, AV.good, AV.plain, AV.isSl, AV.cells, AV.one, Cells.len, Cells.get, Cells.sub, Cells.part, Cells.agg, Cells.upd, Cells.set, Cells.cat, Cells.rep, Cells.ones, TDsc.agg, zOf, putE, dstB, letGo, quietOp, slotOp, pickA, true_or, or_true, List.append_eq, Int.cast_ofNat_Int, List.any_cons, List.any_nil, beq_iff_eq, Bool.decide_eq_true, Option.getD_some, Option.getD_none, Option.map_some, Option.map_none, Option.bind_some, Option.isSome_some, Option.isNone_some, Option.isNone_none, Option.isSome_none, ↓reduceIte, Nat.reduceEqDiff, Nat.reduceLT, Nat.reduceLeDiff, Nat.reduceAdd, Nat.reduceSub, Nat.reduceMul, Nat.reduceBEq, Int.reduceLE, Int.reduceLT, Int.reduceToNat, Int.reduceNeg, BitVec.reduceToNat, decide_true, decide_false, and_true, true_and, and_self, Bool.or_true, Bool.true_or, Bool.or_false, Bool.false_or, Bool.not_true, Bool.not_false, List.map_cons, List.map_nil, List.length_cons, List.length_nil, List.getElem?_toArray, List.getElem?_cons_zero, List.getElem?_cons_succ, List.getElem?_nil, forall_const, true_implies, reduceCtorEq, false_and, and_false, false_implies, implies_true, Bool.false_eq_true, Bool.true_eq_false, ne_eq, not_true, not_false_iff, Nat.sub_zero, Nat.zero_add, Nat.add_zero, List.drop_zero, List.drop_succ_cons, List.drop_nil, List.take_zero, List.take_succ_cons, List.take_nil, List.set_cons_zero, List.set_cons_succ, List.nil_append, List.cons_append, List.append_nil, List.replicate_zero, List.replicate_succ, BitVec.ofNat_eq_ofNat, Option.some.injEq, AV.int.injEq, AV.u64.injEq, AV.u32.injEq, AV.u8.injEq, AV.bool.injEq, AV.a64.injEq, AV.a32.injEq, AV.a8.injEq, Nat.zero_le, Int.toNat_natCast, d1, cTrimN, cCmpN, cSmallN, cLz, cShlD, cShrD, cGuess, mTake, mBack, List.getD_cons_zero]
            have t1 : ((i : Int) + (d.length : Int)).toNat = i + d.length := by omega
            have t2 : ((i : Int) + (d.length : Int) - 1).toNat = i + d.length - 1 := by omega
            have t3 : ((i : Int) + (d.length : Int) - 2).toNat = i + d.length - 2 := by omega
            have t4 : ((d.length : Int) - 1).toNat = d.length - 1 := by omega
            have t5 : ((d.length : Int) - 2).toNat = d.length - 2 := by omega
            have t6 : ((i : Int) + (d.length : Int) + 1).toNat = i + d.length + 1 := by omega
            have t7 : ((i : Int)).toNat = i := rfl
            simp only [t1, t2, t3, t4, t5, t6, t7]
            clear h1 h2 h3 hca hcb hc2 hc3 hc4 hc5 cp1 cp2 hu huv hul E1 E2 es e1 hbl hs hxv hyv hyl hge hge0
            refine ⟨by simp only [intIn]; omega, by simp only [intIn]; omega, by simp only [intIn]; omega, by simp only [intIn]; omega, by simp only [intIn]; omega, by simp only [intIn]; omega, by simp only [intIn]; omega, ⟨by omega, by omega⟩, by omega, ⟨by omega, by omega⟩, by omega, ⟨by omega, by omega⟩, by omega, ⟨by omega, by omega⟩, by omega, by omega, ⟨by omega, by omega⟩, by omega, by omega, ?_⟩
            have t8 : i + d.length + 1 - i = d.length + 1 := by omega
            simp only [t8, hc.hw]
            have hVp : 0 < nv32 d := by
              have h0 : 0 < 2147483648 * 4294967296 ^ (y.length - 1) := Nat.mul_pos (by decide) (Nat.pow_pos (by decide))
              omega
            refine ⟨⟨by rw [nd1]; exact nd2, hc.h2⟩, fun w hwB hwD hwG => ?_⟩
            obtain ⟨hwV, hfin⟩ := dv_fin rfl hVp (by omega) hI hc hwB hwD (hwG.imp (fun h => by omega) id)
            clear hwD hwG nd2 nd3 nd4 hdl hdv hd hy hx hVp hne hn hb0
            have b1 : i + (d.length + 1) ≤ r.length := by omega
            have b2 : i < q.length := by omega
            have b3 : d.length ≤ 90000 := by omega
            have b4 : i ≤ 90000 := by omega
            have b5 : i < x.length + 1 := by omega
            have b6 : i + d.length + 1 ≤ x.length + 1 := by omega
            have b7 : i < m := by omega
            clear hk hrl hql hyx nd1 ha hb
            have J1 : intIn ((i : Int) + (d.length : Int)) := by simp only [intIn]; omega
            have J2 : intIn ((i : Int) + (d.length : Int) + 1) := by simp only [intIn]; omega
            have J3 : intIn ((i : Int) - 1) := by simp only [intIn]; omega
            have J4 : (0 : Int) ≤ (i : Int) + (d.length : Int) + 1 := by omega
            have J5 : (0 : Int) ≤ (i : Int) := by omega
            have J6 : (i : Int) < (m : Int) := by omega
            have J7 : i ≤ i + d.length + 1 := by omega
            have J8 : d.length + 1 ≤ 100000 := by omega
            have J9 : d.length ≤ d.length + 1 := by omega
            refine ⟨J1, J2, J4, J5, ⟨J7, b6, Nat.le_refl _, .inl b5⟩, ⟨b1, J8, J9, hwB, hwV⟩, fun zs hzl hzv => ?_⟩
            obtain ⟨f1, f2⟩ := hfin zs hzl hzv
            obtain ⟨m1, m2, m3, m4⟩ := mid3 r zs i (d.length + 1) b1 hzl
            simp only [m1, m2, m3, m4]
            refine ⟨fun hneg => ?_, fun hpos => ?_⟩
            · refine ⟨J1, J2, J4, J5, ⟨J7, b6, Nat.le_refl _, .inl b5⟩, ⟨b1, J8, J9⟩, fun z2 k2 hz2l hk2 hz2v => ⟨⟨J5, J6⟩, b2, J3, ?_⟩⟩
              refine LeJ.mk ⟨(i, _, _), f1 hneg z2 k2 hz2l hk2 hz2v⟩ (Nat.lt_succ_self _) ?_
              simp (maxSteps := 1000000) only [leS, leA, stU_env, stU_mem, pickA, getA, delA, setA, Cells.part, Cells.len, List.take_nil, List.drop_nil, List.length_nil, Nat.zero_add, ↓reduceIte, Nat.reduceEqDiff, Option.some.injEq, List.nil_append, List.cons_append, true_and, and_true, and_self, reduceCtorEq, AV.int.injEq, ME.own.injEq, ME.row.injEq, Cells.c32.injEq, Cells.c64.injEq, Cells.c8.injEq, AV.ptr.injEq, AV.ros.injEq, AV.grow.injEq, AV.u64.injEq, AV.u32.injEq]
              first | done | rfl | omega
            · refine ⟨⟨J5, J6⟩, b2, J3, ?_⟩
              refine LeJ.mk ⟨(i, _, _), f2 hpos⟩ (Nat.lt_succ_self _) ?_
              simp (maxSteps := 1000000) only [leS, leA, stU_env, stU_mem, pickA, getA, delA, setA, Cells.part, Cells.len, List.take_nil, List.drop_nil, List.length_nil, Nat.zero_add, ↓reduceIte, Nat.reduceEqDiff, Option.some.injEq, List.nil_append, List.cons_append, true_and, and_true, and_self, reduceCtorEq, AV.int.injEq, ME.own.injEq, ME.row.injEq, Cells.c32.injEq, Cells.c64.injEq, Cells.c8.injEq, AV.ptr.injEq, AV.ros.injEq, AV.grow.injEq, AV.u64.injEq, AV.u32.injEq]
              first | done | rfl | omega
          · obtain rfl : k = 0 := by omega
            have hVp : 0 < nv32 d := by
              have h0 : 0 < 2147483648 * 4294967296 ^ (y.length - 1) := Nat.mul_pos (by decide) (Nat.pow_pos (by decide))
              omega
            obtain ⟨f1, f2⟩ := dv_end hVp hI
            refine ⟨⟨by omega, Nat.le_refl _, by omega⟩, by rw [List.length_take]; omega, fun e he hev hel c hc => ⟨⟨by omega, Nat.le_refl _, by omega⟩, ⟨by rw [List.length_take]; omega, by simp only [intIn]; omega, by omega, by omega, by rw [List.length_take]; omega⟩, fun e' he' hev' hel' c' hc' => ?_⟩⟩
            rw [List.take_of_length_le (by omega)] at hev hel hev' hel'
            refine h3 hb0 (by rw [← hyv, ← hxv]; exact hge) e e' he he' ?_ ?_ (by omega) (by omega)
            · rw [hev, f1, hdv, Nat.mul_div_mul_right _ _ (Nat.two_pow_pos s), hxv, hyv]
            · rw [hev', f2, hdv, Nat.mul_mod_mul_right, Nat.mul_div_cancel _ (Nat.two_pow_pos s), hxv, hyv]
  · exact h.elim
end Go.Proofs.Ytkpbjkhgiackpaa
