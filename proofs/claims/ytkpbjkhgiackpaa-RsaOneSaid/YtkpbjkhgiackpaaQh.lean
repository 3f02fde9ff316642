/- Which of two numbers is greater: the program's. -/
import Derived.Test.YtkpbjkhgiackpaaQd
import Derived.Test.YtkpbjkhgiackpaaEng3
import Derived.RangeFuncFrom
namespace Go.Proofs.Ytkpbjkhgiackpaa
open Go Go.RowKit Go.Shelf
set_option linter.unusedVariables false
set_option linter.unusedSimpArgs false

attribute [local go_sem] Oper.semAt_some
theorem cell_up {W : World} {a : Addr} {v : Value} (o : Obj) (h : W.cell? a = some v) : (W.alloc o).cell? a = some v := cell_kept h (World.grownBy_alloc W o none) (fun r e => by cases e)
theorem frozen_up {W : World} {a : Addr} {v : Value} (o : Obj) (h : W.cell? a = some v) (hf : W.frozen? a = false) : (W.alloc o).frozen? a = false := (frozen_kept h (World.grownBy_alloc W o none) (fun r e => by cases e)).trans hf
theorem sl_kept {W W' : World} {row : Option Nat} {A : Option Addr} {vs : List Value} (h : Sl id W A vs) (hg : W.grownBy W' row) (hr : ∀ r, row = some r → ∃ o : Obj, W.heap[r]? = some o ∧ o.isCells = false) : Sl id W' A vs :=
  ⟨h.1, fun i x hx => by obtain ⟨b, o, hA, hc⟩ := h.2 i x hx; exact ⟨b, o, hA, cell_kept hc hg hr⟩⟩
theorem can32_lt {x y : List U32} (hx : Can32 x) (hy : Can32 y) (h : x.length < y.length) : nv32 x < nv32 y := by
  have h1 := nv32_lt x
  have h2 := hy.ge (by intro e; rw [e] at h; exact absurd h (Nat.not_lt_zero _))
  exact Nat.lt_of_lt_of_le h1 (Nat.le_trans (Nat.pow_le_pow_right (by decide) (by omega)) h2)
/-- The highest words are alike. -/
theorem dn_alike {xs ys : List U32} (hl : xs.length = ys.length) : ∀ {k : Nat}, k ≤ xs.length → (∀ y ∈ dnL xs k, y.2 = g32 ys y.1) → nv32 (xs.drop (xs.length - k)) = nv32 (ys.drop (xs.length - k))
  | 0, _, _ => by rw [Nat.sub_zero, List.drop_length, hl, List.drop_length]
  | k + 1, hk, h => by
    rw [dnL_succ] at h
    have ih := dn_alike hl (k := k) (by omega) (fun y hy => h y (List.mem_append.2 (.inl hy)))
    have h2 : g32 xs (xs.length - 1 - k) = g32 ys (xs.length - 1 - k) := h (dnF xs k) (List.mem_append.2 (.inr (by simp)))
    rw [show xs.length - (k + 1) = xs.length - 1 - k by omega, nv32_drop xs, nv32_drop ys, h2, show xs.length - 1 - k + 1 = xs.length - k by omega, ih]
theorem dn_less {xs ys : List U32} (hl : xs.length = ys.length) {k : Nat} (hk : k < xs.length) (h : ∀ y ∈ dnL xs k, y.2 = g32 ys y.1) (hx : (g32 xs (xs.length - 1 - k)).toNat < (g32 ys (xs.length - 1 - k)).toNat) : nv32 xs < nv32 ys := by
  have ha := dn_alike hl (Nat.le_of_lt hk) h
  have e1 := nv32_take_drop xs (xs.length - 1 - k) (by omega)
  have e2 := nv32_take_drop ys (xs.length - 1 - k) (by omega)
  have l1 := nv32_lt (xs.take (xs.length - 1 - k))
  rw [List.length_take, Nat.min_eq_left (by omega)] at l1
  rw [e1, e2, nv32_drop xs, nv32_drop ys, show xs.length - 1 - k + 1 = xs.length - k by omega, ha]
  generalize nv32 (ys.drop (xs.length - k)) = H
  generalize 4294967296 ^ (xs.length - 1 - k) = D at *
  have h1 : D * ((g32 xs (xs.length - 1 - k)).toNat + 1) ≤ D * (g32 ys (xs.length - 1 - k)).toNat := Nat.mul_le_mul_left _ hx
  rw [Nat.mul_add, Nat.mul_add]
  rw [Nat.mul_add, Nat.mul_one] at h1
  omega
theorem dn_swap {xs ys : List U32} (hl : xs.length = ys.length) {k : Nat} (h : ∀ y ∈ dnL xs k, y.2 = g32 ys y.1) : ∀ y ∈ dnL ys k, y.2 = g32 xs y.1 := by
  intro y hy
  obtain ⟨j, hj, rfl⟩ := List.mem_map.1 hy
  have h1 := h (dnF xs j) (List.mem_map.2 ⟨j, hj, rfl⟩)
  simp only [dnF] at h1 ⊢
  rw [← hl]; exact h1.symm
def cCmpN : CT := fun cas K => match cas with
  | [.s (.c32 a), .s (.c32 b)] => (a.length ≤ 100000 ∧ b.length ≤ 100000) ∧ K (.one (.v (.int (sgn (nv32 a) (nv32 b)))))
  | _ => False
structure CmpR0 (cas : List CA) (K : CR → Prop) (env : Env) (mem : Mem) (xs ys : List U32) (l1 l2 l3 l4 : Nat) (A1 A2 : Option Addr) (c1 c2 g3 g4 : Nat) : Prop where
  hx : Can32 xs
  hy : Can32 ys
  hl : xs.length = ys.length
  hm : xs.length ≤ 100000
  hK : K (.one (.v (.int (sgn (nv32 xs) (nv32 ys)))))
  e0 : getA env 0 = some (.ros l1 A1 xs.length c1)
  m1 : getA mem l1 = some (.ro A1 c1 (.c32 xs))
  e3 : getA env 3 = some (.ptr l3 g3 0)
  m3 : getA mem l3 = some (.own g3 23 (.cv [.ros l2 A2 ys.length c2]))
  m2 : getA mem l2 = some (.ro A2 c2 (.c32 ys))
  e4 : getA env 4 = some (.ptr l4 g4 0)
  m4 : getA mem l4 = some (.own g4 3 (.cv [.int 0]))
def CmpR (cas : List CA) (K : CR → Prop) (env : Env) (mem : Mem) (nx : Nat) : Prop := ∃ xs ys l1 l2 l3 l4 A1 A2 c1 c2 g3 g4, CmpR0 cas K env mem xs ys l1 l2 l3 l4 A1 A2 c1 c2 g3 g4
theorem cons_of {n : Nat} {l : List Value} (h : l.length = n + 1) : ∃ t r, l = t :: r ∧ r.length = n := by
  cases l with
  | nil => cases h
  | cons t r => exact ⟨t, r, rfl, by simpa using h⟩
theorem box_up (W : World) (v : Value) (t : TypeId) : (W.alloc (.cells #[v] t)).cell? ⟨W.heap.size, 0, none⟩ = some v := by
  have h := World.alloc_heap_new W (.cells #[v] t)
  generalize W.alloc (.cells #[v] t) = W' at *
  simp [World.cell?, h]
theorem arrC (a : Array Value) (h : a.size = 41) : ∃ t0 t1 t2 t3 t4 t5 t6 t7 t8 t9 t10 t11 t12 t13 t14 t15 t16 t17 t18 t19 t20 t21 t22 t23 t24 t25 t26 t27 t28 t29 t30 t31 t32 t33 t34 t35 t36 t37 t38 t39 t40, a = #[t0, t1, t2, t3, t4, t5, t6, t7, t8, t9, t10, t11, t12, t13, t14, t15, t16, t17, t18, t19, t20, t21, t22, t23, t24, t25, t26, t27, t28, t29, t30, t31, t32, t33, t34, t35, t36, t37, t38, t39, t40] := by
  obtain ⟨l⟩ := a
  have h0 : l.length = 41 := h
  obtain ⟨t0, l1, e0, h1⟩ := cons_of h0
  obtain ⟨t1, l2, e1, h2⟩ := cons_of h1
  obtain ⟨t2, l3, e2, h3⟩ := cons_of h2
  obtain ⟨t3, l4, e3, h4⟩ := cons_of h3
  obtain ⟨t4, l5, e4, h5⟩ := cons_of h4
  obtain ⟨t5, l6, e5, h6⟩ := cons_of h5
  obtain ⟨t6, l7, e6, h7⟩ := cons_of h6
  obtain ⟨t7, l8, e7, h8⟩ := cons_of h7
  obtain ⟨t8, l9, e8, h9⟩ := cons_of h8
  obtain ⟨t9, l10, e9, h10⟩ := cons_of h9
  obtain ⟨t10, l11, e10, h11⟩ := cons_of h10
  obtain ⟨t11, l12, e11, h12⟩ := cons_of h11
  obtain ⟨t12, l13, e12, h13⟩ := cons_of h12
  obtain ⟨t13, l14, e13, h14⟩ := cons_of h13
  obtain ⟨t14, l15, e14, h15⟩ := cons_of h14
  obtain ⟨t15, l16, e15, h16⟩ := cons_of h15
  obtain ⟨t16, l17, e16, h17⟩ := cons_of h16
  obtain ⟨t17, l18, e17, h18⟩ := cons_of h17
  obtain ⟨t18, l19, e18, h19⟩ := cons_of h18
  obtain ⟨t19, l20, e19, h20⟩ := cons_of h19
  obtain ⟨t20, l21, e20, h21⟩ := cons_of h20
  obtain ⟨t21, l22, e21, h22⟩ := cons_of h21
  obtain ⟨t22, l23, e22, h23⟩ := cons_of h22
  obtain ⟨t23, l24, e23, h24⟩ := cons_of h23
  obtain ⟨t24, l25, e24, h25⟩ := cons_of h24
  obtain ⟨t25, l26, e25, h26⟩ := cons_of h25
  obtain ⟨t26, l27, e26, h27⟩ := cons_of h26
  obtain ⟨t27, l28, e27, h28⟩ := cons_of h27
  obtain ⟨t28, l29, e28, h29⟩ := cons_of h28
  obtain ⟨t29, l30, e29, h30⟩ := cons_of h29
  obtain ⟨t30, l31, e30, h31⟩ := cons_of h30
  obtain ⟨t31, l32, e31, h32⟩ := cons_of h31
  obtain ⟨t32, l33, e32, h33⟩ := cons_of h32
  obtain ⟨t33, l34, e33, h34⟩ := cons_of h33
  obtain ⟨t34, l35, e34, h35⟩ := cons_of h34
  obtain ⟨t35, l36, e35, h36⟩ := cons_of h35
  obtain ⟨t36, l37, e36, h37⟩ := cons_of h36
  obtain ⟨t37, l38, e37, h38⟩ := cons_of h37
  obtain ⟨t38, l39, e38, h39⟩ := cons_of h38
  obtain ⟨t39, l40, e39, h40⟩ := cons_of h39
  obtain ⟨t40, l41, e40, h41⟩ := cons_of h40
  have hn := List.eq_nil_of_length_eq_zero h41
  refine ⟨t0, t1, t2, t3, t4, t5, t6, t7, t8, t9, t10, t11, t12, t13, t14, t15, t16, t17, t18, t19, t20, t21, t22, t23, t24, t25, t26, t27, t28, t29, t30, t31, t32, t33, t34, t35, t36, t37, t38, t39, t40, ?_⟩
  rw [e0, e1, e2, e3, e4, e5, e6, e7, e8, e9, e10, e11, e12, e13, e14, e15, e16, e17, e18, e19, e20, e21, e22, e23, e24, e25, e26, e27, e28, e29, e30, e31, e32, e33, e34, e35, e36, e37, e38, e39, e40, hn]
def h0 : CTab := fun F => match F with
  | 90 => .fn cTrimN
  | _ => .fn noCT
theorem h0_ok : CTok Try.prog h0 := by
  intro F
  unfold h0
  split
  · exact sTrimN
  · exact sound_none _ _

set_option maxRecDepth 100000 in
set_option maxHeartbeats 4000000 in
theorem sCmpN : Sound Try.prog 30 cCmpN := by
  refine sound_chain (tt := tt) (ct := h0) ttok h0_ok mixed Try.func30 rfl (by decide) (rs := [.cell 4 3]) rfl (ts := [3]) 4 [_, _, _] _ rfl CmpR ?_ ?_
  · intro cas K h
    unfold cCmpN at h
    split at h
    · rename_i a b
      obtain ⟨⟨ha, hb⟩, h⟩ := h
      rw [Try.ntmps30]
      refine ⟨by simp, ?_⟩
      simp only [seqs]
      simp (maxSteps := 10000000) (implicitDefEqProofs := false) only [↓both_true, ↓both_false, ↓entryVC, ↓vc_skip, ↓vc_draw, ↓vc_list, ↓vc_seq, ↓vc_seqn, ↓vc_seqe, ↓vc_seqr, ↓vc_cond, ↓condVC, ↓vc_block, ↓vc_blockn, ↓vc_blockr, ↓vc_blocke, ↓vc_loop, ↓vc_exit, ↓vc_ret, ↓vc_loopn, ↓vc_loope, ↓vc_loopr, ↓vcl_nil, ↓vcl_cons, ↓lw_eq, ↓listVC, ↓memK, ↓memR, ↓envOf, ↓guardVC, ↓opVC, ↓pureVC, ↓binT, ↓wrapT, ↓TDsc.isW, ↓binW, ↓binVC, ↓bin8, ↓bin32, ↓bin64, ↓binInt, ↓shVC, ↓unVC, ↓cvVC, ↓rdVC, ↓loadVC, ↓pickC, ↓fillVC, ↓bndVC, ↓sliceVC, ↓bltVC, ↓storeVC, ↓appVC, ↓apzVC, ↓markVC, ↓copyVC, ↓callVC, ↓argsVC, ↓argVC, ↓bindR, ↓bindR1, ↓bindRs, ↓retW_eq, ↓extW_eq, ↓rowW_eq, ↓aggW_eq, ↓plv_nil, ↓plv_tk, ↓plv_fz, ↓plv_ld, ↓pt_eq, ↓pz_eq, ↓pl_eq, ↓delAll, ↓keepM_nil, ↓keepM, ↓extE, ↓extM, ↓leS, ↓leA, ↓retVC, ↓retR, ↓resVC, ↓resV1, ↓ressVC, ↓strU, ↓xAdd64, ↓xSub64, ↓vc_jn, ↓vc_je, ↓vc_jr, ↓pickA, ↓stU_env, ↓stU_mem, frz, both_true, both_false, both_dec, both_ndec, ev, absC, getA, setA, delA, tt, AV.good, AV.plain, AV.isSl, AV.cells, AV.one, Cells.len, Cells.get, Cells.sub, Cells.part, Cells.agg, Cells.upd, Cells.set, Cells.cat, Cells.rep, Cells.ones, TDsc.agg, zOf, putE, dstB, letGo, quietOp, slotOp, pickA, true_or, or_true, List.append_eq, Int.cast_ofNat_Int, List.any_cons, List.any_nil, beq_iff_eq, Bool.decide_eq_true, Option.getD_some, Option.getD_none, Option.map_some, Option.map_none, Option.bind_some, Option.isSome_some, Option.isNone_some, Option.isNone_none, Option.isSome_none, ↓reduceIte, Nat.reduceEqDiff, Nat.reduceLT, Nat.reduceLeDiff, Nat.reduceAdd, Nat.reduceSub, Nat.reduceMul, Nat.reduceBEq, Int.reduceLE, Int.reduceLT, Int.reduceToNat, Int.reduceNeg, BitVec.reduceToNat, decide_true, decide_false, and_true, true_and, and_self, Bool.or_true, Bool.true_or, Bool.or_false, Bool.false_or, Bool.not_true, Bool.not_false, List.map_cons, List.map_nil, List.length_cons, List.length_nil, List.getElem?_toArray, List.getElem?_cons_zero, List.getElem?_cons_succ, List.getElem?_nil, forall_const, true_implies, reduceCtorEq, false_and, and_false, false_implies, implies_true, Bool.false_eq_true, Bool.true_eq_false, ne_eq, not_true, not_false_iff, Nat.sub_zero, Nat.zero_add, Nat.add_zero, List.drop_zero, List.drop_succ_cons, List.drop_nil, List.take_zero, List.take_succ_cons, List.take_nil, List.set_cons_zero, List.set_cons_succ, List.nil_append, List.cons_append, List.append_nil, List.replicate_zero, List.replicate_succ, BitVec.ofNat_eq_ofNat, Option.some.injEq, AV.int.injEq, AV.u64.injEq, AV.u32.injEq, AV.u8.injEq, AV.bool.injEq, AV.a64.injEq, AV.a32.injEq, AV.a8.injEq, Nat.zero_le, Int.toNat_natCast, h0, cTrimN, partK, List.getD_cons_zero]
      intro A ca hca B cb hcb
      refine ⟨rfl, ?_⟩
      intro g3 g4
      refine draw_ _ _ _ [(.fz, 0), (.tk, 2), (.ld, 1), (.ld, 3), (.fz, 4), (.ld, 5)] [] [] (by kernel_rfl) ?_
      simp (maxSteps := 10000000) (implicitDefEqProofs := false) only [↓both_true, ↓both_false, ↓entryVC, ↓vc_skip, ↓vc_draw, ↓vc_list, ↓vc_seq, ↓vc_seqn, ↓vc_seqe, ↓vc_seqr, ↓vc_cond, ↓condVC, ↓vc_block, ↓vc_blockn, ↓vc_blockr, ↓vc_blocke, ↓vc_loop, ↓vc_exit, ↓vc_ret, ↓vc_loopn, ↓vc_loope, ↓vc_loopr, ↓vcl_nil, ↓vcl_cons, ↓lw_eq, ↓listVC, ↓memK, ↓memR, ↓envOf, ↓guardVC, ↓opVC, ↓pureVC, ↓binT, ↓wrapT, ↓TDsc.isW, ↓binW, ↓binVC, ↓bin8, ↓bin32, ↓bin64, ↓binInt, ↓shVC, ↓unVC, ↓cvVC, ↓rdVC, ↓loadVC, ↓pickC, ↓fillVC, ↓bndVC, ↓sliceVC, ↓bltVC, ↓storeVC, ↓appVC, ↓apzVC, ↓markVC, ↓copyVC, ↓callVC, ↓argsVC, ↓argVC, ↓bindR, ↓bindR1, ↓bindRs, ↓retW_eq, ↓extW_eq, ↓rowW_eq, ↓aggW_eq, ↓plv_nil, ↓plv_tk, ↓plv_fz, ↓plv_ld, ↓pt_eq, ↓pz_eq, ↓pl_eq, ↓delAll, ↓keepM_nil, ↓keepM, ↓extE, ↓extM, ↓leS, ↓leA, ↓retVC, ↓retR, ↓resVC, ↓resV1, ↓ressVC, ↓strU, ↓xAdd64, ↓xSub64, ↓vc_jn, ↓vc_je, ↓vc_jr, ↓pickA, ↓stU_env, ↓stU_mem, frz, both_true, both_false, both_dec, both_ndec, ev, absC, getA, setA, delA, tt, AV.good, AV.plain, AV.isSl, AV.cells, AV.one, Cells.len, Cells.get, Cells.sub, Cells.part, Cells.agg, Cells.upd, Cells.set, Cells.cat, Cells.rep, Cells.ones, TDsc.agg, zOf, putE, dstB, letGo, quietOp, slotOp, pickA, true_or, or_true, List.append_eq, Int.cast_ofNat_Int, List.any_cons, List.any_nil, beq_iff_eq, Bool.decide_eq_true, Option.getD_some, Option.getD_none, Option.map_some, Option.map_none, Option.bind_some, Option.isSome_some, Option.isNone_some, Option.isNone_none, Option.isSome_none, ↓reduceIte, Nat.reduceEqDiff, Nat.reduceLT, Nat.reduceLeDiff, Nat.reduceAdd, Nat.reduceSub, Nat.reduceMul, Nat.reduceBEq, Int.reduceLE, Int.reduceLT, Int.reduceToNat, Int.reduceNeg, BitVec.reduceToNat, decide_true, decide_false, and_true, true_and, and_self, Bool.or_true, Bool.true_or, Bool.or_false, Bool.false_or, Bool.not_true, Bool.not_false, List.map_cons, List.map_nil, List.length_cons, List.length_nil, List.getElem?_toArray, List.getElem?_cons_zero, List.getElem?_cons_succ, List.getElem?_nil, forall_const, true_implies, reduceCtorEq, false_and, and_false, false_implies, implies_true, Bool.false_eq_true, Bool.true_eq_false, ne_eq, not_true, not_false_iff, Nat.sub_zero, Nat.zero_add, Nat.add_zero, List.drop_zero, List.drop_succ_cons, List.drop_nil, List.take_zero, List.take_succ_cons, List.take_nil, List.set_cons_zero, List.set_cons_succ, List.nil_append, List.cons_append, List.append_nil, List.replicate_zero, List.replicate_succ, BitVec.ofNat_eq_ofNat, Option.some.injEq, AV.int.injEq, AV.u64.injEq, AV.u32.injEq, AV.u8.injEq, AV.bool.injEq, AV.a64.injEq, AV.a32.injEq, AV.a8.injEq, Nat.zero_le, Int.toNat_natCast, h0, cTrimN, partK, List.getD_cons_zero]
      repeat (refine And.intro (by first | omega | (simp only [intIn]; omega) | decide) ?_)
      intro x1 hx1 hv1 hl1 A1 c1 hc1
      repeat (refine And.intro (by first | omega | (simp only [intIn]; omega) | decide) ?_)
      intro x2 hx2 hv2 hl2 A2 c2 hc2
      (try simp (maxSteps := 10000000) (implicitDefEqProofs := false) only [↓both_true, ↓both_false, ↓entryVC, ↓vc_skip, ↓vc_draw, ↓vc_list, ↓vc_seq, ↓vc_seqn, ↓vc_seqe, ↓vc_seqr, ↓vc_cond, ↓condVC, ↓vc_block, ↓vc_blockn, ↓vc_blockr, ↓vc_blocke, ↓vc_loop, ↓vc_exit, ↓vc_ret, ↓vc_loopn, ↓vc_loope, ↓vc_loopr, ↓vcl_nil, ↓vcl_cons, ↓lw_eq, ↓listVC, ↓memK, ↓memR, ↓envOf, ↓guardVC, ↓opVC, ↓pureVC, ↓binT, ↓wrapT, ↓TDsc.isW, ↓binW, ↓binVC, ↓bin8, ↓bin32, ↓bin64, ↓binInt, ↓shVC, ↓unVC, ↓cvVC, ↓rdVC, ↓loadVC, ↓pickC, ↓fillVC, ↓bndVC, ↓sliceVC, ↓bltVC, ↓storeVC, ↓appVC, ↓apzVC, ↓markVC, ↓copyVC, ↓callVC, ↓argsVC, ↓argVC, ↓bindR, ↓bindR1, ↓bindRs, ↓retW_eq, ↓extW_eq, ↓rowW_eq, ↓aggW_eq, ↓plv_nil, ↓plv_tk, ↓plv_fz, ↓plv_ld, ↓pt_eq, ↓pz_eq, ↓pl_eq, ↓delAll, ↓keepM_nil, ↓keepM, ↓extE, ↓extM, ↓leS, ↓leA, ↓retVC, ↓retR, ↓resVC, ↓resV1, ↓ressVC, ↓strU, ↓xAdd64, ↓xSub64, ↓vc_jn, ↓vc_je, ↓vc_jr, ↓pickA, ↓stU_env, ↓stU_mem, frz, both_true, both_false, both_dec, both_ndec, ev, absC, getA, setA, delA, tt, AV.good, AV.plain, AV.isSl, AV.cells, AV.one, Cells.len, Cells.get, Cells.sub, Cells.part, Cells.agg, Cells.upd, Cells.set, Cells.cat, Cells.rep, Cells.ones, TDsc.agg, zOf, putE, dstB, letGo, quietOp, slotOp, pickA, true_or, or_true, List.append_eq, Int.cast_ofNat_Int, List.any_cons, List.any_nil, beq_iff_eq, Bool.decide_eq_true, Option.getD_some, Option.getD_none, Option.map_some, Option.map_none, Option.bind_some, Option.isSome_some, Option.isNone_some, Option.isNone_none, Option.isSome_none, ↓reduceIte, Nat.reduceEqDiff, Nat.reduceLT, Nat.reduceLeDiff, Nat.reduceAdd, Nat.reduceSub, Nat.reduceMul, Nat.reduceBEq, Int.reduceLE, Int.reduceLT, Int.reduceToNat, Int.reduceNeg, BitVec.reduceToNat, decide_true, decide_false, and_true, true_and, and_self, Bool.or_true, Bool.true_or, Bool.or_false, Bool.false_or, Bool.not_true, Bool.not_false, List.map_cons, List.map_nil, List.length_cons, List.length_nil, List.getElem?_toArray, List.getElem?_cons_zero, List.getElem?_cons_succ, List.getElem?_nil, forall_const, true_implies, reduceCtorEq, false_and, and_false, false_implies, implies_true, Bool.false_eq_true, Bool.true_eq_false, ne_eq, not_true, not_false_iff, Nat.sub_zero, Nat.zero_add, Nat.add_zero, List.drop_zero, List.drop_succ_cons, List.drop_nil, List.take_zero, List.take_succ_cons, List.take_nil, List.set_cons_zero, List.set_cons_succ, List.nil_append, List.cons_append, List.append_nil, List.replicate_zero, List.replicate_succ, BitVec.ofNat_eq_ofNat, Option.some.injEq, AV.int.injEq, AV.u64.injEq, AV.u32.injEq, AV.u8.injEq, AV.bool.injEq, AV.a64.injEq, AV.a32.injEq, AV.a8.injEq, Nat.zero_le, Int.toNat_natCast, h0, cTrimN, partK, List.getD_cons_zero])
      refine ⟨fun hlt => ?_, fun hge => ?_⟩
      · have : nv32 a < nv32 b := by rw [← hv1, ← hv2]; exact can32_lt hx1 hx2 (by omega)
        rw [show sgn (nv32 a) (nv32 b) = -1 from if_pos this] at h
        exact h
      · refine ⟨fun hlt => ?_, fun hge2 => ?_⟩
        · have : nv32 b < nv32 a := by rw [← hv1, ← hv2]; exact can32_lt hx2 hx1 (by omega)
          rw [show sgn (nv32 a) (nv32 b) = 1 from by unfold sgn; rw [if_neg (by omega), if_pos this]] at h
          exact h
        · refine ⟨x1, x2, _, _, _, _, _, _, _, _, _, _, hx1, hx2, by omega, by omega, by rw [hv1, hv2]; exact h, rfl, rfl, rfl, rfl, rfl, rfl, rfl⟩
    · exact h.elim
  · intro cas K vals W0 env mem nx a W hC hR hE hM
    obtain ⟨xs, ys, l1, l2, l3, l4, A1, A2, c1, c2, g3, g4, hx, hy, hl, hm, hK, e0, m1, e3, m3, m2, e4, m4⟩ := hR
    obtain ⟨s1, hlc1, k1⟩ := hM.ok _ _ m1
    obtain ⟨s2, _, k2⟩ := hM.ok _ _ m2
    obtain ⟨o3, b3, _⟩ := hM.ok _ _ m3
    obtain ⟨o4, b4, _⟩ := hM.ok _ _ m4
    have d14 : l4 ≠ l1 := fun e => by rw [e, m1] at m4; cases m4
    have d34 : l4 ≠ l3 := fun e => by rw [e, m3] at m4; cases m4
    have n1 : ∀ k, blkA A1 = some k → k ≠ g4 := fun k hk e => hM.sep l4 _ l1 _ m4 m1 d14 rfl g4 rfl (by rw [← e]; exact hk)
    have n3 : g3 ≠ g4 := fun e => hM.sep l4 _ l3 _ m4 m3 d34 rfl g4 rfl (by rw [← e]; rfl)
    have hB := hM.below
    have lt3 := o3.lt
    have lt4 := o4.lt
    have hc3 : W.cell? ⟨g3, 0, none⟩ = some (.slice A2 ys.length c2) := by rw [o3.cell]; rfl
    have hc4 : W.cell? ⟨g4, 0, none⟩ = some (.int .i64 0) := by rw [o4.cell]; rfl
    have hf4 : W.frozen? ⟨g4, 0, none⟩ = false := by simp [World.frozen?, show W.heap[g4]? = some (.cells _ _ (0, 0)) from o4]
    obtain ⟨tmps, defers⟩ := a
    obtain rfl : defers = [] := hE.defers
    obtain ⟨t0, t1, t2, t3, t4, t5, t6, t7, t8, t9, t10, t11, t12, t13, t14, t15, t16, t17, t18, t19, t20, t21, t22, t23, t24, t25, t26, t27, t28, t29, t30, t31, t32, t33, t34, t35, t36, t37, t38, t39, t40, rfl⟩ := arrC tmps (hE.size.trans Try.ntmps30)
    obtain rfl : t0 = .slice A1 xs.length c1 := AV.is_good (hE.get 0 _ e0) rfl
    obtain rfl : t3 = .pointer (some ⟨g3, 0, none⟩) := AV.is_good (hE.get 3 _ e3) rfl
    obtain rfl : t4 = .pointer (some ⟨g4, 0, none⟩) := AV.is_good (hE.get 4 _ e4) rfl
    have hle1 : xs.length ≤ ys.length := Nat.le_of_eq hl
    have hle2 : ys.length ≤ xs.length := Nat.le_of_eq hl.symm
    clear hl
    clear hE hM e0 e3 e4 m1 m2 m3 m4 d14 d34 o3 o4 hC
    obtain ⟨F, hF, hD, hD1, hro⟩ : ∃ F : Fence, F = Fence.wide ∧ F.fn 88 ∧ F.fn 131 ∧ F.round = none := ⟨_, rfl, trivial, trivial, rfl⟩
    rw [← hF]
    clear hF
    gi_wp2_with (gi_at_call 88; refine (down_in F (4 - 1) hD hro _ _ _ _).mono ?_; rintro e w' ⟨rfl, rfl⟩)
    have cb := box_up W (.slice A1 xs.length c1) 23
    have hS : ∀ k, (k < W.heap.size + 1 ∧ k ≠ g4) → k < (W.alloc (.cells #[.slice A1 xs.length c1] 23)).heap.size := fun k hk2 => by simp; omega
    have hL : LiesD (fun k => k < W.heap.size + 1 ∧ k ≠ g4) (W.alloc (.cells #[.slice A1 xs.length c1] 23)) A1 xs :=
      ⟨sl_kept s1 (World.grownBy_alloc W _ none) (fun r e => by cases e), fun k hk2 => ⟨Nat.lt_succ_of_lt (k1 k hk2).1, n1 k hk2⟩⟩
    have hB1 : Below W0.heap.size W0 (W.alloc (.cells #[.slice A1 xs.length c1] 23)) := hB.alloc hB.size _
    have hsz : W0.heap.size ≤ (W.alloc (.cells #[.slice A1 xs.length c1] 23)).heap.size := hB1.size
    refine wpIn_rangeFunc_ownF hro (by decide) (gf := 131) (lb := #[.pointer (some ⟨W.heap.size, 0, none⟩)]) rfl hD1 (enters_of Try.func131 (by kernel_rfl) rfl)
      (down_stopsB F (4 - 1) hD1 hro (by decide) W.heap.size c1 (fun k => k < W.heap.size + 1 ∧ k ≠ g4) A1 xs hm _ ⟨Nat.lt_succ_self _, by omega⟩ hS cb hL) (fun h1 h2 => h1.trans h2) (KD_b hS) (Below.refl _ _) (fun _ => rfl)
      (fun pre W' => ((∀ y ∈ pre, y.1.2 = g32 ys y.1.1) ∧ W'.cell? ⟨g4, 0, none⟩ = some (.int .i64 0) ∧ W'.frozen? ⟨g4, 0, none⟩ = false ∧ W'.cell? ⟨g3, 0, none⟩ = some (.slice A2 ys.length c2) ∧ Sl id W' A2 (Cells.vals (.c32 ys))) ∧ Below W0.heap.size W0 W')
      (fun c pre W' => (c = .ret ∧ (∃ pre' x, pre = pre' ++ [x] ∧ (∀ y ∈ pre', y.1.2 = g32 ys y.1.1) ∧ x.1.2 ≠ g32 ys x.1.1 ∧ W'.cell? ⟨g4, 0, none⟩ = some (.int .i64 (if x.1.2.toNat < (g32 ys x.1.1).toNat then -1 else 1)))) ∧ Below W0.heap.size W0 W')
      (OwnFrom.and (Own.from (fun s A B row hs hg hr => ⟨hs.1, cell_kept hs.2.1 hg hr, (frozen_kept hs.2.1 hg hr).trans hs.2.2.1, cell_kept hs.2.2.2.1 hg hr, sl_kept hs.2.2.2.2 hg hr⟩) _) (ownFrom_below (Nat.le_refl _) hsz))
      (fun c => OwnFrom.and (Own.from (fun s A B row hs hg hr => by obtain ⟨h0, p, x, h1, h2, h3, h4⟩ := hs; exact ⟨h0, p, x, h1, h2, h3, cell_kept h4 hg hr⟩) _) (ownFrom_below (Nat.le_refl _) hsz))
      ⟨⟨by simp, cell_up _ hc4, frozen_up _ hc4 hf4, cell_up _ hc3, sl_kept s2 (World.grownBy_alloc W _ none) (fun r e => by cases e)⟩, hB1⟩
      (fun x => { tmps := #[.slice A1 xs.length c1, t1, t2, .pointer (some ⟨g3, 0, none⟩), .pointer (some ⟨g4, 0, none⟩), .int .i64 (x.1.1 : Int), .int .u32 (i32 x.1.2), t7, t8, t9, t10, t11, t12, t13, t14, t15, t16, t17, t18, t19, t20, t21, t22, .slice A1 xs.length c1, .func (.func 131) #[] #[.pointer (some ⟨W.heap.size, 0, none⟩)], .int .i64 (x.1.1 : Int), .int .u32 (i32 x.1.2), t27, t28, t29, t30, t31, t32, t33, t34, t35, t36, t37, t38, t39, t40], defers := [] }) ?assign ?body ?done ?stop
    case assign =>
      intro l x W K hK
      gi_wp2
      exact hK
    case body =>
      rintro l pre ⟨⟨p, xv⟩, hp, hv⟩ W' ⟨⟨hz, hcr, hfr, hc3, hs2⟩, hB'⟩ _
      dsimp only at hp hv
      obtain ⟨b2, o2, hA2, hcy⟩ := hs2.2 p (v32 (g32 ys p)) (by simp [Cells.vals, g32, show p < ys.length by omega])
      have hs3 := hs2
      subst hA2
      rw [show v32 (g32 ys p) = .int .u32 (i32 (g32 ys p)) from rfl] at hcy
      have hpl : p < ys.length := by omega
      clear hs2
      gi_wp2
      · rename_i hlt
        have hlt2 : (g32 xs p).toNat < (g32 ys p).toNat := (i32_lt _ _).1 (by simpa using hlt)
        refine ⟨KeepsOthers.setCell _ _ _, ⟨rfl, pre, ⟨(p, xv), hp, hv⟩, rfl, hz, ?_, ?_⟩, hB'.setCell (p := ⟨g4, 0, none⟩) (by dsimp only; omega) _⟩
        · show xv ≠ g32 ys p
          rw [hv]; intro e; rw [e] at hlt2; omega
        · show _ = some (Value.int .i64 (if xv.toNat < (g32 ys p).toNat then -1 else 1))
          rw [hv, if_pos hlt2]
          exact World.cell?_setCell_same' _ _ _ (by rw [hcr]; rfl)
      · rename_i hlt hgt
        have hgt2 : (g32 ys p).toNat < (g32 xs p).toNat := (i32_lt _ _).1 (by simpa using hgt)
        refine ⟨KeepsOthers.setCell _ _ _, ⟨rfl, pre, ⟨(p, xv), hp, hv⟩, rfl, hz, ?_, ?_⟩, hB'.setCell (p := ⟨g4, 0, none⟩) (by dsimp only; omega) _⟩
        · show xv ≠ g32 ys p
          rw [hv]; intro e; rw [e] at hgt2; omega
        · show _ = some (Value.int .i64 (if xv.toNat < (g32 ys p).toNat then -1 else 1))
          rw [hv, if_neg (by omega)]
          exact World.cell?_setCell_same' _ _ _ (by rw [hcr]; rfl)
      · rename_i hlt hgt
        have hlt2 : (g32 ys p).toNat ≤ (g32 xs p).toNat := (i32_le _ _).1 (by first | exact hlt | exact hgt | omega)
        have hgt2 : (g32 xs p).toNat ≤ (g32 ys p).toNat := (i32_le _ _).1 (by first | exact hgt | exact hlt | omega)
        have he : g32 xs p = g32 ys p := BitVec.eq_of_toNat_eq (by omega)
        refine ⟨KeepsOthers.refl _, KD.refl _ _, ⟨fun y hy => ?_, hcr, hfr, hc3, hs3⟩, hB'⟩
        rcases List.mem_append.1 hy with h2 | h2
        · exact hz y h2
        · obtain rfl := List.mem_singleton.1 h2
          show xv = g32 ys p
          rw [hv]; exact he
    case done =>
      rintro Db ys' W' hD hS' ⟨⟨hz, hcr, hfr, hc3', hs2'⟩, hB'⟩ hK2
      have hz2 : ∀ y ∈ dnL xs xs.length, y.2 = g32 ys y.1 := fun y hy => by
        rw [← hS'] at hy
        obtain ⟨z, hz1, rfl⟩ := List.mem_map.1 hy
        exact hz z hz1
      have ha := dn_alike (Nat.le_antisymm hle1 hle2) (Nat.le_refl _) hz2
      rw [Nat.sub_self, List.drop_zero, List.drop_zero] at ha
      rw [sgn_eq ha] at hK
      clear hz hz2 ha hS' hs2' hc3'
      gi_wp2
      have hK' := (KeepsOthers.setCell W' ⟨g4, 0, none⟩ (.int .i64 0)).same Db _ hK2 rfl
      refine ⟨by simp, .inl ⟨_, _, rfl, run_takeDeferred hK', ?_⟩⟩
      have hc5 := cell_kept (World.cell?_setCell_same' W' ⟨g4, 0, none⟩ (.int .i64 0) (by rw [hcr]; rfl)) (grownBy_putObj' _ Db (.deferred none)) (fun r e => by cases e; exact ⟨_, hK', rfl⟩)
      refine ⟨.int .i64 0, ?_, .one (.v (.int 0)), _, rfl, ⟨rfl, rfl⟩, (hB'.setCell (p := ⟨g4, 0, none⟩) (by dsimp only; omega) _).trans (belowK_b (w := W) (hB.size) _ Db _ _ (by simp at hD; omega) hK' rfl rfl), hK⟩
      simp [results, Try.f30, go_sem, hc5]
    case stop =>
      rintro Db c pre W' hD ⟨k, hk2, hpre⟩ ⟨⟨rfl, pre', x, rfl, hz, hxne, hcr⟩, hB'⟩ hK2
      obtain ⟨k, rfl⟩ : ∃ m, k = m + 1 := by
        rcases k with _ | k
        · simp [dnL] at hpre
        · exact ⟨k, rfl⟩
      rw [dnL_succ, List.map_append] at hpre
      obtain ⟨hp1, hp2⟩ := List.append_inj' hpre rfl
      have hxe : x.1 = dnF xs k := by simpa using hp2
      have hz2 : ∀ y ∈ dnL xs k, y.2 = g32 ys y.1 := fun y hy => by
        rw [← hp1] at hy
        obtain ⟨z, hz1, rfl⟩ := List.mem_map.1 hy
        exact hz z hz1
      have hl := Nat.le_antisymm hle1 hle2
      rw [hxe] at hxne hcr
      obtain ⟨s, hs, hss⟩ : ∃ s : Int, sgn (nv32 xs) (nv32 ys) = s ∧ W'.cell? ⟨g4, 0, none⟩ = some (.int .i64 s) := by
        by_cases hlt : (dnF xs k).2.toNat < (g32 ys (dnF xs k).1).toNat
        · rw [if_pos hlt] at hcr
          exact ⟨_, sgn_lt (dn_less hl (by omega) hz2 hlt), hcr⟩
        · rw [if_neg hlt] at hcr
          have hgt : (g32 ys (ys.length - 1 - k)).toNat < (g32 xs (ys.length - 1 - k)).toNat := by
            rw [← hl]
            have : (g32 xs (xs.length - 1 - k)).toNat ≠ (g32 ys (xs.length - 1 - k)).toNat := fun e => hxne (BitVec.eq_of_toNat_eq e)
            have hlt2 : ¬ (g32 xs (xs.length - 1 - k)).toNat < (g32 ys (xs.length - 1 - k)).toNat := hlt
            omega
          exact ⟨_, sgn_gt (dn_less hl.symm (by omega) (dn_swap hl hz2) hgt), hcr⟩
      rw [hs] at hK
      clear hcr hxne hz hz2 hl hs hpre hp1 hp2 hxe
      gi_wp2
      refine ⟨by simp, .inl ⟨_, _, rfl, run_takeDeferred hK2, ?_⟩⟩
      have hc5 := cell_kept hss (grownBy_putObj' _ Db (.deferred none)) (fun r e => by cases e; exact ⟨_, hK2, rfl⟩)
      refine ⟨.int .i64 s, ?_, .one (.v (.int s)), _, rfl, ⟨rfl, rfl⟩, hB'.trans (belowK_b (w := W) (hB.size) W' Db _ _ (by simp at hD; omega) hK2 rfl rfl), hK⟩
      simp [results, Try.f30, go_sem, hc5]
end Go.Proofs.Ytkpbjkhgiackpaa
