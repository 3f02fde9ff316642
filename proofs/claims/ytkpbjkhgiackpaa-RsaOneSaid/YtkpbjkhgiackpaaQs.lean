/- A number by a word: the program's. -/
import Derived.Test.YtkpbjkhgiackpaaQd
import Derived.Test.YtkpbjkhgiackpaaQm0
import Derived.Test.YtkpbjkhgiackpaaEng3
namespace Go.Proofs.Ytkpbjkhgiackpaa
open Go Go.RowKit Go.Shelf
set_option linter.unusedVariables false
set_option linter.unusedSimpArgs false

attribute [local go_sem] Oper.semAt_some
theorem cons_ofS {n : Nat} {l : List Value} (h : l.length = n + 1) : ∃ t r, l = t :: r ∧ r.length = n := by
  cases l with
  | nil => cases h
  | cons t r => exact ⟨t, r, rfl, by simpa using h⟩
theorem arrS (a : Array Value) (h : a.size = 32) : ∃ t0 t1 t2 t3 t4 t5 t6 t7 t8 t9 t10 t11 t12 t13 t14 t15 t16 t17 t18 t19 t20 t21 t22 t23 t24 t25 t26 t27 t28 t29 t30 t31, a = #[t0, t1, t2, t3, t4, t5, t6, t7, t8, t9, t10, t11, t12, t13, t14, t15, t16, t17, t18, t19, t20, t21, t22, t23, t24, t25, t26, t27, t28, t29, t30, t31] := by
  obtain ⟨l⟩ := a
  have h0 : l.length = 32 := h
  obtain ⟨t0, l1, e0, h1⟩ := cons_ofS h0
  obtain ⟨t1, l2, e1, h2⟩ := cons_ofS h1
  obtain ⟨t2, l3, e2, h3⟩ := cons_ofS h2
  obtain ⟨t3, l4, e3, h4⟩ := cons_ofS h3
  obtain ⟨t4, l5, e4, h5⟩ := cons_ofS h4
  obtain ⟨t5, l6, e5, h6⟩ := cons_ofS h5
  obtain ⟨t6, l7, e6, h7⟩ := cons_ofS h6
  obtain ⟨t7, l8, e7, h8⟩ := cons_ofS h7
  obtain ⟨t8, l9, e8, h9⟩ := cons_ofS h8
  obtain ⟨t9, l10, e9, h10⟩ := cons_ofS h9
  obtain ⟨t10, l11, e10, h11⟩ := cons_ofS h10
  obtain ⟨t11, l12, e11, h12⟩ := cons_ofS h11
  obtain ⟨t12, l13, e12, h13⟩ := cons_ofS h12
  obtain ⟨t13, l14, e13, h14⟩ := cons_ofS h13
  obtain ⟨t14, l15, e14, h15⟩ := cons_ofS h14
  obtain ⟨t15, l16, e15, h16⟩ := cons_ofS h15
  obtain ⟨t16, l17, e16, h17⟩ := cons_ofS h16
  obtain ⟨t17, l18, e17, h18⟩ := cons_ofS h17
  obtain ⟨t18, l19, e18, h19⟩ := cons_ofS h18
  obtain ⟨t19, l20, e19, h20⟩ := cons_ofS h19
  obtain ⟨t20, l21, e20, h21⟩ := cons_ofS h20
  obtain ⟨t21, l22, e21, h22⟩ := cons_ofS h21
  obtain ⟨t22, l23, e22, h23⟩ := cons_ofS h22
  obtain ⟨t23, l24, e23, h24⟩ := cons_ofS h23
  obtain ⟨t24, l25, e24, h25⟩ := cons_ofS h24
  obtain ⟨t25, l26, e25, h26⟩ := cons_ofS h25
  obtain ⟨t26, l27, e26, h27⟩ := cons_ofS h26
  obtain ⟨t27, l28, e27, h28⟩ := cons_ofS h27
  obtain ⟨t28, l29, e28, h29⟩ := cons_ofS h28
  obtain ⟨t29, l30, e29, h30⟩ := cons_ofS h29
  obtain ⟨t30, l31, e30, h31⟩ := cons_ofS h30
  obtain ⟨t31, l32, e31, h32⟩ := cons_ofS h31
  have hn := List.eq_nil_of_length_eq_zero h32
  refine ⟨t0, t1, t2, t3, t4, t5, t6, t7, t8, t9, t10, t11, t12, t13, t14, t15, t16, t17, t18, t19, t20, t21, t22, t23, t24, t25, t26, t27, t28, t29, t30, t31, ?_⟩
  rw [e0, e1, e2, e3, e4, e5, e6, e7, e8, e9, e10, e11, e12, e13, e14, e15, e16, e17, e18, e19, e20, e21, e22, e23, e24, e25, e26, e27, e28, e29, e30, e31, hn]
def cSmallN : CT := fun cas K => match cas with
  | [.s (.c32 a), .v (.u32 d)] => (a.length ≤ 100000 ∧ d ≠ 0) ∧ ∀ q r, Can32 q → Can32 r → nv32 q = nv32 a / d.toNat → nv32 r = nv32 a % d.toNat → q.length ≤ a.length → r.length ≤ 4 → K (.tup [.al (.c32 q), .al (.c32 r)])
  | _ => False
/-- One word more. -/
def smS (d : U32) (s : List U32 × U32) (x : Nat × U32) : List U32 × U32 := (s.1.set x.1 (BitVec.ofNat 32 ((s.2.toNat * 4294967296 + x.2.toNat) / d.toNat)), BitVec.ofNat 32 ((s.2.toNat * 4294967296 + x.2.toNat) % d.toNat))
def smF (d : U32) (n : Nat) (l : List (Nat × U32)) : List U32 × U32 := l.foldl (smS d) (List.replicate n 0, 0)
theorem smF_snoc (d : U32) (n : Nat) (l : List (Nat × U32)) (x : Nat × U32) : smF d n (l ++ [x]) = smS d (smF d n l) x := by simp [smF]
theorem smF_len (d : U32) (n : Nat) (l : List (Nat × U32)) : (smF d n l).1.length = n := by
  suffices h : ∀ s : List U32 × U32, s.1.length = n → (l.foldl (smS d) s).1.length = n from h _ (by simp)
  induction l with
  | nil => exact fun s h => h
  | cons x r ih => exact fun s h => ih _ (by simp [smS, h])
theorem pos_of {d : U32} (hd : d ≠ 0) : 0 < d.toNat := by
  rcases Nat.eq_zero_or_pos d.toNat with h | h
  · exact absurd (BitVec.eq_of_toNat_eq h) hd
  · exact h
theorem smF_lt {d : U32} (hd : d ≠ 0) (n : Nat) (l : List (Nat × U32)) : (smF d n l).2.toNat < d.toNat := by
  have hp := pos_of hd
  suffices h : ∀ s : List U32 × U32, s.2.toNat < d.toNat → (l.foldl (smS d) s).2.toNat < d.toNat from h _ (by simpa using hp)
  induction l with
  | nil => exact fun s h => h
  | cons x r ih => exact fun s h => ih _ (by
      have := Nat.mod_lt (s.2.toNat * 4294967296 + x.2.toNat) hp
      have := d.isLt
      simp only [smS, BitVec.toNat_ofNat]
      rw [Nat.mod_eq_of_lt (by omega)]; assumption)
theorem smF_val {d : U32} (hd : d ≠ 0) (a : List U32) : ∀ {k : Nat}, k ≤ a.length → nv32 (a.drop (a.length - k)) = d.toNat * nv32 ((smF d a.length (dnL a k)).1.drop (a.length - k)) + (smF d a.length (dnL a k)).2.toNat
  | 0, _ => by
    have h := smF_len d a.length (dnL a 0)
    rw [Nat.sub_zero, List.drop_length, List.drop_eq_nil_of_le (by omega)]
    simp [dnL, smF, nv32]
  | k + 1, hk => by
    have ih := smF_val hd a (k := k) (by omega)
    have hl := smF_len d a.length (dnL a k)
    have hr := smF_lt hd a.length (dnL a k)
    rw [dnL_succ, smF_snoc]
    generalize smF d a.length (dnL a k) = s at *
    obtain ⟨q, r⟩ := s
    dsimp only at ih hl hr
    have hp := pos_of hd
    have hx := (g32 a (a.length - 1 - k)).isLt
    have hdl := d.isLt
    have hdm := Nat.div_add_mod (r.toNat * 4294967296 + (g32 a (a.length - 1 - k)).toNat) d.toNat
    have hml := Nat.mod_lt (r.toNat * 4294967296 + (g32 a (a.length - 1 - k)).toNat) hp
    have hql : (r.toNat * 4294967296 + (g32 a (a.length - 1 - k)).toNat) / d.toNat < 4294967296 := by
      rw [Nat.div_lt_iff_lt_mul hp]
      have : (r.toNat + 1) * 4294967296 ≤ d.toNat * 4294967296 := Nat.mul_le_mul_right _ (by omega)
      rw [Nat.mul_comm 4294967296]; omega
    simp only [smS, dnF, BitVec.toNat_ofNat]
    rw [show a.length - (k + 1) = a.length - 1 - k by omega, nv32_drop a, nv32_drop (q.set _ _), show a.length - 1 - k + 1 = a.length - k by omega, List.drop_set_of_lt (by omega), ih]
    rw [show g32 (q.set (a.length - 1 - k) (BitVec.ofNat 32 ((r.toNat * 4294967296 + (g32 a (a.length - 1 - k)).toNat) / d.toNat))) (a.length - 1 - k) = BitVec.ofNat 32 ((r.toNat * 4294967296 + (g32 a (a.length - 1 - k)).toNat) / d.toNat) by simp [g32, show a.length - 1 - k < q.length by omega]]
    rw [BitVec.toNat_ofNat, Nat.mod_eq_of_lt (a := _ / _) (by omega), Nat.mod_eq_of_lt (a := _ % d.toNat) (b := 2 ^ 32) (by omega)]
    generalize (r.toNat * 4294967296 + (g32 a (a.length - 1 - k)).toNat) / d.toNat = X at *
    generalize (r.toNat * 4294967296 + (g32 a (a.length - 1 - k)).toNat) % d.toNat = Y at *
    generalize nv32 (List.drop (a.length - k) q) = V at *
    have e : d.toNat * (X + 4294967296 * V) = d.toNat * X + 4294967296 * (d.toNat * V) := by rw [Nat.mul_add, Nat.mul_left_comm]
    rw [e]
    generalize d.toNat * V = DV at *
    generalize d.toNat * X = DX at *
    omega
def memS (A : Option Addr) (c : Nat) (a : List U32) (d : U32) (g gq g6 g7 : Nat) (s : List U32 × U32) : Mem :=
  [(5, .own g7 34 (.c32 [s.2])), (4, .own g6 23 (.cv [.slc 3 gq 0 a.length a.length])), (3, .own gq 34 (.c32 s.1)), (2, .own g 34 (.c32 [d])), (0, .ro A c (.c32 a))]
def memSR (W : World) (A : Option Addr) (c : Nat) (a : List U32) (d : U32) (g gq g6 g7 : Nat) (s : List U32 × U32) : Mem :=
  [(6, .own W.heap.size 23 (.cv [.ros 0 A a.length c])), (5, .own g7 34 (.c32 [s.2])), (4, .own g6 23 (.cv [.ros 3 (some ⟨gq, 0, none⟩) a.length a.length])), (3, .ro (some ⟨gq, 0, none⟩) a.length (.c32 s.1)), (2, .own g 34 (.c32 [d])), (0, .ro A c (.c32 a))]
def envS (A : Option Addr) (c : Nat) (a : List U32) (d : U32) (g gq g6 g7 : Nat) : Env :=
  [(7, .ptr 5 g7 0), (6, .ptr 4 g6 0), (5, .nils), (4, .nils), (3, .ptr 2 g 0), (1, .u32 d), (0, .ros 0 A a.length c)]
def SmallR (cas : List CA) (K : CR → Prop) (env : Env) (mem : Mem) (nx : Nat) : Prop := ∃ a d A c g gq g6 g7,
  (a.length ≤ 100000 ∧ d ≠ 0 ∧ a.length ≤ c ∧ ∀ q r, Can32 q → Can32 r → nv32 q = nv32 a / d.toNat → nv32 r = nv32 a % d.toNat → q.length ≤ a.length → r.length ≤ 4 → K (.tup [.al (.c32 q), .al (.c32 r)])) ∧
  (∀ k v, getA (envS A c a d g gq g6 g7) k = some v → getA env k = some v) ∧ mem = memS A c a d g gq g6 g7 (List.replicate a.length 0, 0)
/-- A round's end. -/
def SmallB (fx : Mem) (m : List U32 × U32 → Mem) (s : List U32 × U32) : KE := fun e env mem nx => e = .normal ∧ (∀ l v, getA (m s) l = some v → getA mem l = some v) ∧ ∀ k, 1000 ≤ k → getA mem k = getA fx k
def SmallE (tt : TT) (rs : List ResultVar) (ts : List TypeId) (Dn : Nat) (K : CR → Prop) : KE := fun e env mem nx => e = .ret ∧ getA mem 900 = some (.fix Dn (.deferred (some []))) ∧ (∀ l g o, getA (delA mem 900) l ≠ some (.fix g o)) ∧ retR tt rs ts env (delA mem 900) K
def s0 : CTab := fun F => match F with
  | 137 => .fn cDiv32
  | 90 => .fn cTrimN
  | 68 => .fn cFromR
  | _ => .fn noCT
theorem s0_ok : CTok Try.prog s0 := by
  intro F
  unfold s0
  split
  · exact sDiv32
  · exact sTrimN
  · exact sFromN
  · exact sound_none _ _

set_option maxRecDepth 100000 in
set_option maxHeartbeats 4000000 in
theorem sSmallN : Sound Try.prog 115 cSmallN := by
  refine sound_chain (tt := tt) (ct := s0) ttok s0_ok mixed Try.func115 rfl (by decide) (rs := [.tmp 4, .tmp 5]) rfl (ts := [23, 23]) 4 [_, _, _] _ rfl SmallR ?_ ?_
  · intro cas K h
    unfold cSmallN at h
    split at h
    · rename_i a d
      obtain ⟨⟨ha, hd⟩, h⟩ := h
      rw [Try.ntmps115]
      refine ⟨by simp, ?_⟩
      simp only [seqs]
      simp (maxSteps := 10000000) (implicitDefEqProofs := false) only [↓both_true, ↓both_false, ↓entryVC, ↓vc_skip, ↓vc_draw, ↓vc_list, ↓vc_seq, ↓vc_seqn, ↓vc_seqe, ↓vc_seqr, ↓vc_cond, ↓condVC, ↓vc_block, ↓vc_blockn, ↓vc_blockr, ↓vc_blocke, ↓vc_loop, ↓vc_exit, ↓vc_ret, ↓vc_loopn, ↓vc_loope, ↓vc_loopr, ↓vcl_nil, ↓vcl_cons, ↓lw_eq, ↓listVC, ↓memK, ↓memR, ↓envOf, ↓guardVC, ↓opVC, ↓pureVC, ↓binT, ↓wrapT, ↓TDsc.isW, ↓binW, ↓binVC, ↓bin8, ↓bin32, ↓bin64, ↓binInt, ↓shVC, ↓unVC, ↓cvVC, ↓rdVC, ↓loadVC, ↓pickC, ↓fillVC, ↓bndVC, ↓sliceVC, ↓bltVC, ↓storeVC, ↓appVC, ↓apzVC, ↓markVC, ↓copyVC, ↓callVC, ↓argsVC, ↓argVC, ↓bindR, ↓bindR1, ↓bindRs, ↓retW_eq, ↓extW_eq, ↓rowW_eq, ↓aggW_eq, ↓plv_nil, ↓plv_tk, ↓plv_fz, ↓plv_ld, ↓pt_eq, ↓pz_eq, ↓pl_eq, ↓delAll, ↓keepM_nil, ↓keepM, ↓extE, ↓extM, ↓leS, ↓leA, ↓retVC, ↓retR, ↓resVC, ↓resV1, ↓ressVC, ↓strU, ↓xAdd64, ↓xSub64, ↓vc_jn, ↓vc_je, ↓vc_jr, ↓pickA, ↓stU_env, ↓stU_mem, frz, both_true, both_false, both_dec, both_ndec, ev, absC, getA, setA, delA, tt, AV.good, AV.plain, AV.isSl, AV.cells, AV.one, Cells.len, Cells.get, Cells.sub, Cells.part, Cells.agg, Cells.upd, Cells.set, Cells.cat, Cells.rep, Cells.ones, TDsc.agg, zOf, putE, dstB, letGo, quietOp, slotOp, pickA, true_or, or_true, List.append_eq, Int.cast_ofNat_Int, List.any_cons, List.any_nil, beq_iff_eq, Bool.decide_eq_true, Option.getD_some, Option.getD_none, Option.map_some, Option.map_none, Option.bind_some, Option.isSome_some, Option.isNone_some, Option.isNone_none, Option.isSome_none, ↓reduceIte, Nat.reduceEqDiff, Nat.reduceLT, Nat.reduceLeDiff, Nat.reduceAdd, Nat.reduceSub, Nat.reduceMul, Nat.reduceBEq, Int.reduceLE, Int.reduceLT, Int.reduceToNat, Int.reduceNeg, BitVec.reduceToNat, decide_true, decide_false, and_true, true_and, and_self, Bool.or_true, Bool.true_or, Bool.or_false, Bool.false_or, Bool.not_true, Bool.not_false, List.map_cons, List.map_nil, List.length_cons, List.length_nil, List.getElem?_toArray, List.getElem?_cons_zero, List.getElem?_cons_succ, List.getElem?_nil, forall_const, true_implies, reduceCtorEq, false_and, and_false, false_implies, implies_true, Bool.false_eq_true, Bool.true_eq_false, ne_eq, not_true, not_false_iff, Nat.sub_zero, Nat.zero_add, Nat.add_zero, List.drop_zero, List.drop_succ_cons, List.drop_nil, List.take_zero, List.take_succ_cons, List.take_nil, List.set_cons_zero, List.set_cons_succ, List.nil_append, List.cons_append, List.append_nil, List.replicate_zero, List.replicate_succ, BitVec.ofNat_eq_ofNat, Option.some.injEq, AV.int.injEq, AV.u64.injEq, AV.u32.injEq, AV.u8.injEq, AV.bool.injEq, AV.a64.injEq, AV.a32.injEq, AV.a8.injEq, Nat.zero_le, Int.toNat_natCast, s0, partK, cDiv32, cTrimN, cFromR, List.getD_cons_zero]
      intro A c hc g
      refine ⟨by omega, ?_⟩
      intro gq g6 g7
      refine ⟨a, d, A, c, g, gq, g6, g7, ⟨ha, hd, hc, h⟩, ?_, rfl⟩
      intro k v hk
      simp only [envS, getA] at hk ⊢
      repeat' (split at hk)
      all_goals first | cases hk; done | (rename_i hkk; subst hkk; simpa using hk)
    · exact h.elim
  · intro cas K vals W0 env mem nx ac W hC hR hE hM
    obtain ⟨a, d, A, c, g, gq, g6, g7, ⟨ha, hd, hca, hK⟩, henv, rfl⟩ := hR
    obtain ⟨sA, hlc, kA⟩ := hM.ok 0 _ rfl
    obtain ⟨og, bg, _⟩ := hM.ok 2 _ rfl
    obtain ⟨oq, bq, _⟩ := hM.ok 3 _ rfl
    obtain ⟨o6, b6, _⟩ := hM.ok 4 _ rfl
    obtain ⟨o7, b7, _⟩ := hM.ok 5 _ rfl
    have lg := og.lt
    have lq := oq.lt
    have l6 := o6.lt
    have l7 := o7.lt
    have hB := hM.below
    obtain ⟨tmps, defers⟩ := ac
    obtain rfl : defers = [] := hE.defers
    obtain ⟨t0, t1, t2, t3, t4, t5, t6, t7, t8, t9, t10, t11, t12, t13, t14, t15, t16, t17, t18, t19, t20, t21, t22, t23, t24, t25, t26, t27, t28, t29, t30, t31, rfl⟩ := arrS tmps (hE.size.trans Try.ntmps115)
    obtain rfl : t0 = .slice A a.length c := AV.is_good (hE.get 0 _ (henv 0 _ rfl)) rfl
    obtain rfl : t1 = .int .u32 (i32 d) := AV.is_good (hE.get 1 _ (henv 1 _ rfl)) rfl
    obtain rfl : t3 = .pointer (some ⟨g, 0, none⟩) := AV.is_good (hE.get 3 _ (henv 3 _ rfl)) rfl
    obtain rfl : t4 = .slice none 0 0 := AV.is_good (hE.get 4 _ (henv 4 _ rfl)) rfl
    obtain rfl : t5 = .slice none 0 0 := AV.is_good (hE.get 5 _ (henv 5 _ rfl)) rfl
    obtain rfl : t6 = .pointer (some ⟨g6, 0, none⟩) := AV.is_good (hE.get 6 _ (henv 6 _ rfl)) rfl
    obtain rfl : t7 = .pointer (some ⟨g7, 0, none⟩) := AV.is_good (hE.get 7 _ (henv 7 _ rfl)) rfl
    clear hE henv hC
    obtain ⟨F, hFw, hD, hD1, hro⟩ : ∃ F : Fence, IsWide F ∧ F.fn 88 ∧ F.fn 131 ∧ F.round = none := ⟨_, ⟨rfl⟩, trivial, trivial, rfl⟩
    have hFe := hFw.eq
    rw [← hFe]
    clear hFe
    have hM1 := hM.alloc 6 23 (.cv [.ros 0 A a.length c]) rfl
    gi_wp2_with (gi_at_call 88; refine (down_in F (4 - 1) hD hro _ _ _ _).mono ?_; rintro e w' ⟨rfl, rfl⟩)
    have hsz : (W.alloc (.cells #[.slice A a.length c] 23)).heap.size = W.heap.size + 1 := by simp
    have e1 : (W.alloc (.cells (Cells.vals (.cv [.ros 0 A a.length c])).toArray 23)) = W.alloc (.cells #[.slice A a.length c] 23) := rfl
    rw [e1] at hM1
    have oB := (hM1.ok 6 _ rfl).1
    generalize hW1 : W.alloc (.cells #[.slice A a.length c] 23) = W1 at *
    have hS : ∀ k, (k = W.heap.size ∨ blkA A = some k) → k < W1.heap.size := fun k hk => by
      rcases hk with rfl | hk
      · omega
      · have := (kA k hk).1; omega
    have cb : W1.cell? ⟨W.heap.size, 0, none⟩ = some (.slice A a.length c) := by rw [oB.cell]; rfl
    have hL : LiesD (fun k => k = W.heap.size ∨ blkA A = some k) W1 A a := ⟨(hM1.ok 0 _ rfl).1, fun k hk => .inr hk⟩
    have hown : ∀ (s : List U32 × U32) l e k, getA ((6, ME.own W.heap.size 23 (.cv [.ros 0 A a.length c])) :: memS A c a d g gq g6 g7 s) l = some e → e.mine = true → e.blk = some k → k ∈ [W.heap.size, g, gq, g6, g7] := by
      intro s l e k h1 h2 h3
      simp only [memS, getA] at h1
      repeat' (split at h1)
      all_goals first | (cases h1; done) | skip
      all_goals (injection h1 with h1; subst h1)
      all_goals first | (cases h2; done) | (injection h3 with h3; subst h3; simp; done)
    have hnof : ∀ (s : List U32 × U32) l b o, getA ((6, ME.own W.heap.size 23 (.cv [.ros 0 A a.length c])) :: memS A c a d g gq g6 g7 s) l ≠ some (.fix b o) := by
      intro s l b o h1
      simp only [memS, getA] at h1
      repeat' (split at h1)
      all_goals (cases h1; done)
    have hlow : ∀ (s : List U32 × U32) l e, getA ((6, ME.own W.heap.size 23 (.cv [.ros 0 A a.length c])) :: memS A c a d g gq g6 g7 s) l = some e → l < 1000 := by
      intro s l e h1
      simp only [memS, getA] at h1
      repeat' (split at h1)
      all_goals first | (subst_vars; decide) | (cases h1; done)
    refine wpIn_rangeFunc_ownF hro (by decide) (gf := 131) (lb := #[.pointer (some ⟨W.heap.size, 0, none⟩)]) rfl hD1 (enters_of Try.func131 (by kernel_rfl) rfl)
      (down_stopsB F (4 - 1) hD1 hro (by decide) W.heap.size c (fun k => k = W.heap.size ∨ blkA A = some k) A a ha W1 (.inl rfl) hS cb hL) (fun h1 h2 => h1.trans h2) (KD_b hS) (Below.refl _ _) (fun _ => rfl)
      (fun pre W' => MRel (pvOf vals) W0 ((6, ME.own W.heap.size 23 (.cv [.ros 0 A a.length c])) :: memS A c a d g gq g6 g7 (smF d a.length (pre.map Subtype.val))) W')
      (fun _ _ _ => False)
      (fun s X Y row hs hg hr => MRel.grownBy hs (hnof _) hg fun r e => ⟨by have := (hr r e).1; have := hM1.size; omega, (hr r e).2⟩)
      (fun _ s X Y row hs hg hr => hs.elim)
      hM1
      (fun x => { tmps := #[.slice A a.length c, .int .u32 (i32 d), t2, .pointer (some ⟨g, 0, none⟩), .slice none 0 0, .slice none 0 0, .pointer (some ⟨g6, 0, none⟩), .pointer (some ⟨g7, 0, none⟩), .int .i64 (x.1.1 : Int), .int .u32 (i32 x.1.2), t10, t11, t12, .slice A a.length c, .func (.func 131) #[] #[.pointer (some ⟨W.heap.size, 0, none⟩)], .int .i64 (x.1.1 : Int), .int .u32 (i32 x.1.2), t17, t18, t19, t20, t21, t22, t23, t24, t25, t26, t27, t28, t29, t30, t31], defers := [] }) ?assign ?body ?done ?stop
    case assign =>
      intro l x W K hK
      gi_wp2
      exact hK
    case stop => exact fun _ _ _ _ _ _ h => h.elim
    case body =>
      rintro l pre ⟨⟨p, xv⟩, hp, hv⟩ W' hI hpre
      dsimp only at hp hv
      obtain ⟨rfl⟩ := hFw
      have hlen := smF_len d a.length (pre.map Subtype.val)
      have hlt := smF_lt hd a.length (pre.map Subtype.val)
      have hMx := hI.fixed (hlow _) [W.heap.size, g, gq, g6, g7] (hown _)
      generalize hfx : fixL W' _ _ = fx at hMx
      have hst : smF d a.length ((pre ++ [(⟨(p, xv), hp, hv⟩ : DnX a)]).map Subtype.val) = smS d (smF d a.length (pre.map Subtype.val)) (p, xv) := by rw [List.map_append]; exact smF_snoc _ _ _ _
      generalize hs : smF d a.length (pre.map Subtype.val) = s at *
      refine wpIn_block ?_
      have hEb : ERel [] ((8, .int (p : Int)) :: (9, .u32 xv) :: envS A c a d g gq g6 g7) ({ tmps := #[.slice A a.length c, .int .u32 (i32 d), t2, .pointer (some ⟨g, 0, none⟩), .slice none 0 0, .slice none 0 0, .pointer (some ⟨g6, 0, none⟩), .pointer (some ⟨g7, 0, none⟩), .int .i64 (p : Int), .int .u32 (i32 xv), t10, t11, t12, .slice A a.length c, .func (.func 131) #[] #[.pointer (some ⟨W.heap.size, 0, none⟩)], .int .i64 (p : Int), .int .u32 (i32 xv), t17, t18, t19, t20, t21, t22, t23, t24, t25, t26, t27, t28, t29, t30, t31], defers := [] } : Act) Try.f115.ntmps := by
        refine ERel.of_all (by rw [Try.ntmps115]; rfl) rfl ?_
        simp only [envS, List.forall_mem_cons]
        refine ⟨.inr rfl, .inr rfl, .inr rfl, .inr rfl, .inr rfl, .inr rfl, .inr rfl, .inr rfl, .inr rfl, ?_⟩
        intro p h; cases h
      refine Code.wpIn_mono ?_ (draw_round (tt := tt) (ct := s0) (K := SmallB fx (fun s => (6, ME.own W.heap.size 23 (.cv [.ros 0 A a.length c])) :: memS A c a d g gq g6 g7 s) (smS d s (p, xv))) ttok s0_ok mixed _ l (by decide +kernel) (nx := 20) ?_ hEb hMx)
      · rintro e a1 W2 ⟨ex, env1, mem1, nx1, rfl, hE1, hM2, rfl, hm1, hf1⟩
        show KeepsOthers W' W2 ∧ KD _ W' W2 ∧ MRel _ _ _ _
        have hsame : ∀ k, k < W'.heap.size → k ∉ [W.heap.size, g, gq, g6, g7] → W2.heap[k]? = W'.heap[k]? := fun k hk hn => fixed_same hI.below hM2 (fun k hk => by rw [hfx]; exact hf1 k hk) hk hn
        have i2 := (hI.ok 2 _ rfl).1
        have i3 := (hI.ok 3 _ rfl).1
        have i4 := (hI.ok 4 _ rfl).1
        have i5 := (hI.ok 5 _ rfl).1
        have i6 := (hI.ok 6 _ rfl).1
        have j2 := (hM2.ok 2 _ (hm1 2 _ rfl)).1
        have j3 := (hM2.ok 3 _ (hm1 3 _ rfl)).1
        have j4 := (hM2.ok 4 _ (hm1 4 _ rfl)).1
        have j5 := (hM2.ok 5 _ (hm1 5 _ rfl)).1
        have j6 := (hM2.ok 6 _ (hm1 6 _ rfl)).1
        refine ⟨⟨?_, ?_⟩, ?_, by rw [hst]; exact hM2.less hm1⟩
        · rcases Nat.eq_zero_or_pos W'.heap.size with h0 | h0
          · omega
          · by_cases hk : (W'.heap.size - 1) ∈ [W.heap.size, g, gq, g6, g7]
            · have l2 := j2.lt
              have l3 := j3.lt
              have l4 := j4.lt
              have l5 := j5.lt
              have l6 := j6.lt
              simp only [List.mem_cons, List.not_mem_nil, or_false] at hk
              omega
            · have h1 := hsame _ (by omega) hk
              rw [Array.getElem?_eq_getElem (show W'.heap.size - 1 < W'.heap.size by omega)] at h1
              have := (Array.getElem?_eq_some_iff.1 h1).1
              omega
        · intro k o hk hc
          by_cases hm : k ∈ [W.heap.size, g, gq, g6, g7]
          · simp only [List.mem_cons, List.not_mem_nil, or_false] at hm
            rcases hm with rfl | rfl | rfl | rfl | rfl
            · rw [i6] at hk; injection hk with hk; subst hk; cases hc
            · rw [i2] at hk; injection hk with hk; subst hk; cases hc
            · rw [i3] at hk; injection hk with hk; subst hk; cases hc
            · rw [i4] at hk; injection hk with hk; subst hk; cases hc
            · rw [i5] at hk; injection hk with hk; subst hk; cases hc
          · rw [hsame k (Array.getElem?_eq_some_iff.1 hk).1 hm]; exact hk
        · intro pp hpp
          refine World.cell?_of_block (a := pp) ?_
          rcases hpp with h | h
          · rw [h]; exact (show W2.heap[W.heap.size]? = _ from j6).trans (show W'.heap[W.heap.size]? = _ from i6).symm
          · refine hsame _ ((hI.ok 0 _ rfl).2.2 _ h).1 ?_
            intro hm
            simp only [List.mem_cons, List.not_mem_nil, or_false] at hm
            rcases hm with e | e | e | e | e
            · exact hI.sep 6 _ 0 _ rfl rfl (by decide) rfl _ rfl (by rw [← e]; exact h)
            · exact hI.sep 2 _ 0 _ rfl rfl (by decide) rfl _ rfl (by rw [← e]; exact h)
            · exact hI.sep 3 _ 0 _ rfl rfl (by decide) rfl _ rfl (by rw [← e]; exact h)
            · exact hI.sep 4 _ 0 _ rfl rfl (by decide) rfl _ rfl (by rw [← e]; exact h)
            · exact hI.sep 5 _ 0 _ rfl rfl (by decide) rfl _ rfl (by rw [← e]; exact h)
      · rw [Try.ntmps115]
        obtain ⟨q, r⟩ := s
        simp only [memS, envS, List.cons_append, List.nil_append]
        show DrawC tt s0 _ _ _ _ _ _
        refine draw_ _ _ _ [(.fz, 1), (.fz, 3), (.tk, 0), (.tk, 2), (.tk, 4), (.ld, 5), (.fz, 6), (.fz, 7), (.fz, 8), (.tk, 9), (.ld, 10), (.ld, 11)] [] [2, 4] (by kernel_rfl) ?_
        simp (maxSteps := 10000000) (implicitDefEqProofs := false) only [↓both_true, ↓both_false, ↓entryVC, ↓vc_skip, ↓vc_draw, ↓vc_list, ↓vc_seq, ↓vc_seqn, ↓vc_seqe, ↓vc_seqr, ↓vc_cond, ↓condVC, ↓vc_block, ↓vc_blockn, ↓vc_blockr, ↓vc_blocke, ↓vc_loop, ↓vc_exit, ↓vc_ret, ↓vc_loopn, ↓vc_loope, ↓vc_loopr, ↓vcl_nil, ↓vcl_cons, ↓lw_eq, ↓listVC, ↓memK, ↓memR, ↓envOf, ↓guardVC, ↓opVC, ↓pureVC, ↓binT, ↓wrapT, ↓TDsc.isW, ↓binW, ↓binVC, ↓bin8, ↓bin32, ↓bin64, ↓binInt, ↓shVC, ↓unVC, ↓cvVC, ↓rdVC, ↓loadVC, ↓pickC, ↓fillVC, ↓bndVC, ↓sliceVC, ↓bltVC, ↓storeVC, ↓appVC, ↓apzVC, ↓markVC, ↓copyVC, ↓callVC, ↓argsVC, ↓argVC, ↓bindR, ↓bindR1, ↓bindRs, ↓retW_eq, ↓extW_eq, ↓rowW_eq, ↓aggW_eq, ↓plv_nil, ↓plv_tk, ↓plv_fz, ↓plv_ld, ↓pt_eq, ↓pz_eq, ↓pl_eq, ↓delAll, ↓keepM_nil, ↓keepM, ↓extE, ↓extM, ↓leS, ↓leA, ↓retVC, ↓retR, ↓resVC, ↓resV1, ↓ressVC, ↓strU, ↓xAdd64, ↓xSub64, ↓vc_jn, ↓vc_je, ↓vc_jr, ↓pickA, ↓stU_env, ↓stU_mem, frz, both_true, both_false, both_dec, both_ndec, ev, absC, getA, setA, delA, tt, AV.good, AV.plain, AV.isSl, AV.cells, AV.one, Cells.len, Cells.get, Cells.sub, Cells.part, Cells.agg, Cells.upd, Cells.set, Cells.cat, Cells.rep, Cells.ones, TDsc.agg, zOf, putE, dstB, letGo, quietOp, slotOp, pickA, true_or, or_true, List.append_eq, Int.cast_ofNat_Int, List.any_cons, List.any_nil, beq_iff_eq, Bool.decide_eq_true, Option.getD_some, Option.getD_none, Option.map_some, Option.map_none, Option.bind_some, Option.isSome_some, Option.isNone_some, Option.isNone_none, Option.isSome_none, ↓reduceIte, Nat.reduceEqDiff, Nat.reduceLT, Nat.reduceLeDiff, Nat.reduceAdd, Nat.reduceSub, Nat.reduceMul, Nat.reduceBEq, Int.reduceLE, Int.reduceLT, Int.reduceToNat, Int.reduceNeg, BitVec.reduceToNat, decide_true, decide_false, and_true, true_and, and_self, Bool.or_true, Bool.true_or, Bool.or_false, Bool.false_or, Bool.not_true, Bool.not_false, List.map_cons, List.map_nil, List.length_cons, List.length_nil, List.getElem?_toArray, List.getElem?_cons_zero, List.getElem?_cons_succ, List.getElem?_nil, forall_const, true_implies, reduceCtorEq, false_and, and_false, false_implies, implies_true, Bool.false_eq_true, Bool.true_eq_false, ne_eq, not_true, not_false_iff, Nat.sub_zero, Nat.zero_add, Nat.add_zero, List.drop_zero, List.drop_succ_cons, List.drop_nil, List.take_zero, List.take_succ_cons, List.take_nil, List.set_cons_zero, List.set_cons_succ, List.nil_append, List.cons_append, List.append_nil, List.replicate_zero, List.replicate_succ, BitVec.ofNat_eq_ofNat, Option.some.injEq, AV.int.injEq, AV.u64.injEq, AV.u32.injEq, AV.u8.injEq, AV.bool.injEq, AV.a64.injEq, AV.a32.injEq, AV.a8.injEq, Nat.zero_le, Int.toNat_natCast, s0, partK, cDiv32, cTrimN, cFromR, List.getD_cons_zero]
        have hkm : keepM [2, 4] fx = [] := by rw [← hfx]; exact keepM_fixL (by simp) _
        rw [hkm]
        refine ⟨hlt, ?_⟩
        intro q1 r1 he hr1
        simp only [show g32 [r] 0 = r from rfl, show g32 [d] 0 = d from rfl] at he hr1
        dsimp only at hlen hlt
        refine ⟨by omega, by omega, trivial, trivial, rfl, ?_, ?_⟩
        · have hdp := pos_of hd
          have e1 : (r.toNat * 4294967296 + xv.toNat) / d.toNat = q1.toNat := by rw [he, Nat.mul_add_div hdp, Nat.div_eq_of_lt hr1, Nat.add_zero]
          have e2 : (r.toNat * 4294967296 + xv.toNat) % d.toNat = r1.toNat := by rw [he, Nat.mul_add_mod, Nat.mod_eq_of_lt hr1]
          simp only [smS, e1, e2, BitVec.ofNat_toNat, BitVec.setWidth_eq]
          intro l e h
          simp only [getA] at h ⊢
          repeat' (split at h)
          all_goals first | (cases h; done) | (subst_vars; simpa using h)
        · intro k hk
          simp only [getA]
          repeat rw [if_neg (by omega)]
    case done =>
      rename_i Kc hKc
      intro Dn ys W3 hDn hys hI3 hdef
      refine hKc _ _ ?_
      obtain ⟨rfl⟩ := hFw
      rw [hys] at hI3
      have hval := smF_val hd a (Nat.le_refl _)
      rw [Nat.sub_self, List.drop_zero, List.drop_zero] at hval
      have hlen := smF_len d a.length (dnL a a.length)
      have hlt := smF_lt hd a.length (dnL a a.length)
      generalize hs : smF d a.length (dnL a a.length) = s at *
      have hI4 := hI3.view (m2 := memSR W A c a d g gq g6 g7 s) (by
        intro l e2 h
        simp only [memSR, getA] at h
        repeat' (split at h)
        all_goals first | (cases h; done) | (injection h with h)
        all_goals (subst_vars)
        · exact ⟨_, rfl, id, rfl, id⟩
        · exact ⟨_, rfl, id, rfl, id⟩
        · exact ⟨_, rfl, id, rfl, id⟩
        · exact ⟨_, rfl, MEok.own_ro (by simp only [Cells.len, hlen]; omega) (by simp only [Cells.len, hlen]; omega), rfl, fun h => by cases h⟩
        · exact ⟨_, rfl, id, rfl, id⟩
        · exact ⟨_, rfl, id, rfl, id⟩)
      have hMf := hI4.add 900 (.fix Dn (.deferred (some []))) ⟨hdef, by have := hM1.size; omega⟩ (fun l' e' hg hm k hk hk' => by
        injection hk with hk
        subst hk
        have hmi := hm.resolve_left (fun h => by cases h)
        clear hm
        simp only [memSR, getA] at hg
        repeat' (split at hg)
        all_goals first | (cases hg; done) | (injection hg with hg; subst hg)
        all_goals first | (cases hmi; done) | (injection hk' with hk'; omega))
      refine wpIn_wide.2 (Code.wp_mono ?_ (code_ok (ds := [{ target := .collected Dn, args := #[] }]) (tt := tt) (ct := s0) (N := Try.f115.ntmps) ttok s0_ok mixed _ (envS A c a d g gq g6 g7) _ 20 (SmallE tt [.tmp 4, .tmp 5] [23, 23] Dn K) _ _ ?_ ?_ hMf))
      · rintro e a1 W4 ⟨ex, env1, mem1, nx1, rfl, hE1, hM4, rfl, h900, hnf, hret⟩
        have hfix := hM4.ok 900 _ h900
        have hM5 := (hM4.drop 900).grownBy hnf (grownBy_putObj' W4 Dn (.deferred none)) (fun r e => by cases e; exact ⟨hfix.2, _, hfix.1, rfl⟩)
        obtain ⟨v, h1, r, h2, h3⟩ := ret_ok (P := Try.prog) (fn := Try.f115) ttok (rs := [.tmp 4, .tmp 5]) rfl hE1 hM5 hret
        show LeavesInM Fence.wide 4 Try.prog Try.f115 a1.tmps _ a1.defers .returning W4
        rw [hE1.defers]
        refine ⟨by simp, .inl ⟨_, _, rfl, run_takeDeferred hfix.1, ?_⟩⟩
        exact ⟨v, h1, r, v, rfl, h2, hM5.below, h3⟩
      · rw [Try.ntmps115]
        obtain ⟨q, r⟩ := s
        dsimp only at hval hlen hlt
        simp only [memSR, envS]
        simp (maxSteps := 10000000) (implicitDefEqProofs := false) only [↓both_true, ↓both_false, ↓entryVC, ↓vc_skip, ↓vc_draw, ↓vc_list, ↓vc_seq, ↓vc_seqn, ↓vc_seqe, ↓vc_seqr, ↓vc_cond, ↓condVC, ↓vc_block, ↓vc_blockn, ↓vc_blockr, ↓vc_blocke, ↓vc_loop, ↓vc_exit, ↓vc_ret, ↓vc_loopn, ↓vc_loope, ↓vc_loopr, ↓vcl_nil, ↓vcl_cons, ↓lw_eq, ↓listVC, ↓memK, ↓memR, ↓envOf, ↓guardVC, ↓opVC, ↓pureVC, ↓binT, ↓wrapT, ↓TDsc.isW, ↓binW, ↓binVC, ↓bin8, ↓bin32, ↓bin64, ↓binInt, ↓shVC, ↓unVC, ↓cvVC, ↓rdVC, ↓loadVC, ↓pickC, ↓fillVC, ↓bndVC, ↓sliceVC, ↓bltVC, ↓storeVC, ↓appVC, ↓apzVC, ↓markVC, ↓copyVC, ↓callVC, ↓argsVC, ↓argVC, ↓bindR, ↓bindR1, ↓bindRs, ↓retW_eq, ↓extW_eq, ↓rowW_eq, ↓aggW_eq, ↓plv_nil, ↓plv_tk, ↓plv_fz, ↓plv_ld, ↓pt_eq, ↓pz_eq, ↓pl_eq, ↓delAll, ↓keepM_nil, ↓keepM, ↓extE, ↓extM, ↓leS, ↓leA, ↓retVC, ↓retR, ↓resVC, ↓resV1, ↓ressVC, ↓strU, ↓xAdd64, ↓xSub64, ↓vc_jn, ↓vc_je, ↓vc_jr, ↓pickA, ↓stU_env, ↓stU_mem, frz, both_true, both_false, both_dec, both_ndec, ev, absC, getA, setA, delA, tt, AV.good, AV.plain, AV.isSl, AV.cells, AV.one, Cells.len, Cells.get, Cells.sub, Cells.part, Cells.agg, Cells.upd, Cells.set, Cells.cat, Cells.rep, Cells.ones, TDsc.agg, zOf, putE, dstB, letGo, quietOp, slotOp, pickA, true_or, or_true, List.append_eq, Int.cast_ofNat_Int, List.any_cons, List.any_nil, beq_iff_eq, Bool.decide_eq_true, Option.getD_some, Option.getD_none, Option.map_some, Option.map_none, Option.bind_some, Option.isSome_some, Option.isNone_some, Option.isNone_none, Option.isSome_none, ↓reduceIte, Nat.reduceEqDiff, Nat.reduceLT, Nat.reduceLeDiff, Nat.reduceAdd, Nat.reduceSub, Nat.reduceMul, Nat.reduceBEq, Int.reduceLE, Int.reduceLT, Int.reduceToNat, Int.reduceNeg, BitVec.reduceToNat, decide_true, decide_false, and_true, true_and, and_self, Bool.or_true, Bool.true_or, Bool.or_false, Bool.false_or, Bool.not_true, Bool.not_false, List.map_cons, List.map_nil, List.length_cons, List.length_nil, List.getElem?_toArray, List.getElem?_cons_zero, List.getElem?_cons_succ, List.getElem?_nil, forall_const, true_implies, reduceCtorEq, false_and, and_false, false_implies, implies_true, Bool.false_eq_true, Bool.true_eq_false, ne_eq, not_true, not_false_iff, Nat.sub_zero, Nat.zero_add, Nat.add_zero, List.drop_zero, List.drop_succ_cons, List.drop_nil, List.take_zero, List.take_succ_cons, List.take_nil, List.set_cons_zero, List.set_cons_succ, List.nil_append, List.cons_append, List.append_nil, List.replicate_zero, List.replicate_succ, BitVec.ofNat_eq_ofNat, Option.some.injEq, AV.int.injEq, AV.u64.injEq, AV.u32.injEq, AV.u8.injEq, AV.bool.injEq, AV.a64.injEq, AV.a32.injEq, AV.a8.injEq, Nat.zero_le, Int.toNat_natCast, s0, partK, cDiv32, cTrimN, cFromR, List.getD_cons_zero]
        refine draw_ _ _ _ [(.tk, 0), (.tk, 2), (.tk, 3), (.ld, 1), (.ld, 4), (.fz, 5), (.fz, 6)] [] [] (by kernel_rfl) ?_
        simp (maxSteps := 10000000) (implicitDefEqProofs := false) only [↓both_true, ↓both_false, ↓entryVC, ↓vc_skip, ↓vc_draw, ↓vc_list, ↓vc_seq, ↓vc_seqn, ↓vc_seqe, ↓vc_seqr, ↓vc_cond, ↓condVC, ↓vc_block, ↓vc_blockn, ↓vc_blockr, ↓vc_blocke, ↓vc_loop, ↓vc_exit, ↓vc_ret, ↓vc_loopn, ↓vc_loope, ↓vc_loopr, ↓vcl_nil, ↓vcl_cons, ↓lw_eq, ↓listVC, ↓memK, ↓memR, ↓envOf, ↓guardVC, ↓opVC, ↓pureVC, ↓binT, ↓wrapT, ↓TDsc.isW, ↓binW, ↓binVC, ↓bin8, ↓bin32, ↓bin64, ↓binInt, ↓shVC, ↓unVC, ↓cvVC, ↓rdVC, ↓loadVC, ↓pickC, ↓fillVC, ↓bndVC, ↓sliceVC, ↓bltVC, ↓storeVC, ↓appVC, ↓apzVC, ↓markVC, ↓copyVC, ↓callVC, ↓argsVC, ↓argVC, ↓bindR, ↓bindR1, ↓bindRs, ↓retW_eq, ↓extW_eq, ↓rowW_eq, ↓aggW_eq, ↓plv_nil, ↓plv_tk, ↓plv_fz, ↓plv_ld, ↓pt_eq, ↓pz_eq, ↓pl_eq, ↓delAll, ↓keepM_nil, ↓keepM, ↓extE, ↓extM, ↓leS, ↓leA, ↓retVC, ↓retR, ↓resVC, ↓resV1, ↓ressVC, ↓strU, ↓xAdd64, ↓xSub64, ↓vc_jn, ↓vc_je, ↓vc_jr, ↓pickA, ↓stU_env, ↓stU_mem, frz, both_true, both_false, both_dec, both_ndec, ev, absC, getA, setA, delA, tt, AV.good, AV.plain, AV.isSl, AV.cells, AV.one, Cells.len, Cells.get, Cells.sub, Cells.part, Cells.agg, Cells.upd, Cells.set, Cells.cat, Cells.rep, Cells.ones, TDsc.agg, zOf, putE, dstB, letGo, quietOp, slotOp, pickA, true_or, or_true, List.append_eq, Int.cast_ofNat_Int, List.any_cons, List.any_nil, beq_iff_eq, Bool.decide_eq_true, Option.getD_some, Option.getD_none, Option.map_some, Option.map_none, Option.bind_some, Option.isSome_some, Option.isNone_some, Option.isNone_none, Option.isSome_none, ↓reduceIte, Nat.reduceEqDiff, Nat.reduceLT, Nat.reduceLeDiff, Nat.reduceAdd, Nat.reduceSub, Nat.reduceMul, Nat.reduceBEq, Int.reduceLE, Int.reduceLT, Int.reduceToNat, Int.reduceNeg, BitVec.reduceToNat, decide_true, decide_false, and_true, true_and, and_self, Bool.or_true, Bool.true_or, Bool.or_false, Bool.false_or, Bool.not_true, Bool.not_false, List.map_cons, List.map_nil, List.length_cons, List.length_nil, List.getElem?_toArray, List.getElem?_cons_zero, List.getElem?_cons_succ, List.getElem?_nil, forall_const, true_implies, reduceCtorEq, false_and, and_false, false_implies, implies_true, Bool.false_eq_true, Bool.true_eq_false, ne_eq, not_true, not_false_iff, Nat.sub_zero, Nat.zero_add, Nat.add_zero, List.drop_zero, List.drop_succ_cons, List.drop_nil, List.take_zero, List.take_succ_cons, List.take_nil, List.set_cons_zero, List.set_cons_succ, List.nil_append, List.cons_append, List.append_nil, List.replicate_zero, List.replicate_succ, BitVec.ofNat_eq_ofNat, Option.some.injEq, AV.int.injEq, AV.u64.injEq, AV.u32.injEq, AV.u8.injEq, AV.bool.injEq, AV.a64.injEq, AV.a32.injEq, AV.a8.injEq, Nat.zero_le, Int.toNat_natCast, s0, partK, cDiv32, cTrimN, cFromR, List.getD_cons_zero]
        refine ⟨by omega, by omega, ?_⟩
        intro e he hev hel A1 c1 hc1
        intro e2 he2 hev2 hel2 A2 c2 hc2
        have hfin := hK e e2 he he2 (by
          rw [hev, hval, Nat.mul_add_div (pos_of hd), Nat.div_eq_of_lt hlt, Nat.add_zero]) (by
          rw [hev2, hval, Nat.mul_add_mod, Nat.mod_eq_of_lt hlt]
          show (BitVec.setWidth 64 r).toNat = r.toNat
          have := r.isLt
          rw [BitVec.toNat_setWidth, Nat.mod_eq_of_lt (by omega)]) (by omega) hel2
        refine ⟨rfl, rfl, ?_, ?_⟩
        · intro l g o h
          rw [getA_delA] at h
          split at h
          · cases h
          · simp only [getA] at h
            repeat' (split at h)
            all_goals first | (cases h; done) | omega
        · unfold retR
          simp (maxSteps := 10000000) (implicitDefEqProofs := false) only [↓both_true, ↓both_false, ↓entryVC, ↓vc_skip, ↓vc_draw, ↓vc_list, ↓vc_seq, ↓vc_seqn, ↓vc_seqe, ↓vc_seqr, ↓vc_cond, ↓condVC, ↓vc_block, ↓vc_blockn, ↓vc_blockr, ↓vc_blocke, ↓vc_loop, ↓vc_exit, ↓vc_ret, ↓vc_loopn, ↓vc_loope, ↓vc_loopr, ↓vcl_nil, ↓vcl_cons, ↓lw_eq, ↓listVC, ↓memK, ↓memR, ↓envOf, ↓guardVC, ↓opVC, ↓pureVC, ↓binT, ↓wrapT, ↓TDsc.isW, ↓binW, ↓binVC, ↓bin8, ↓bin32, ↓bin64, ↓binInt, ↓shVC, ↓unVC, ↓cvVC, ↓rdVC, ↓loadVC, ↓pickC, ↓fillVC, ↓bndVC, ↓sliceVC, ↓bltVC, ↓storeVC, ↓appVC, ↓apzVC, ↓markVC, ↓copyVC, ↓callVC, ↓argsVC, ↓argVC, ↓bindR, ↓bindR1, ↓bindRs, ↓retW_eq, ↓extW_eq, ↓rowW_eq, ↓aggW_eq, ↓plv_nil, ↓plv_tk, ↓plv_fz, ↓plv_ld, ↓pt_eq, ↓pz_eq, ↓pl_eq, ↓delAll, ↓keepM_nil, ↓keepM, ↓extE, ↓extM, ↓leS, ↓leA, ↓retVC, ↓retR, ↓resVC, ↓resV1, ↓ressVC, ↓strU, ↓xAdd64, ↓xSub64, ↓vc_jn, ↓vc_je, ↓vc_jr, ↓pickA, ↓stU_env, ↓stU_mem, frz, both_true, both_false, both_dec, both_ndec, ev, absC, getA, setA, delA, tt, AV.good, AV.plain, AV.isSl, AV.cells, AV.one, Cells.len, Cells.get, Cells.sub, Cells.part, Cells.agg, Cells.upd, Cells.set, Cells.cat, Cells.rep, Cells.ones, TDsc.agg, zOf, putE, dstB, letGo, quietOp, slotOp, pickA, true_or, or_true, List.append_eq, Int.cast_ofNat_Int, List.any_cons, List.any_nil, beq_iff_eq, Bool.decide_eq_true, Option.getD_some, Option.getD_none, Option.map_some, Option.map_none, Option.bind_some, Option.isSome_some, Option.isNone_some, Option.isNone_none, Option.isSome_none, ↓reduceIte, Nat.reduceEqDiff, Nat.reduceLT, Nat.reduceLeDiff, Nat.reduceAdd, Nat.reduceSub, Nat.reduceMul, Nat.reduceBEq, Int.reduceLE, Int.reduceLT, Int.reduceToNat, Int.reduceNeg, BitVec.reduceToNat, decide_true, decide_false, and_true, true_and, and_self, Bool.or_true, Bool.true_or, Bool.or_false, Bool.false_or, Bool.not_true, Bool.not_false, List.map_cons, List.map_nil, List.length_cons, List.length_nil, List.getElem?_toArray, List.getElem?_cons_zero, List.getElem?_cons_succ, List.getElem?_nil, forall_const, true_implies, reduceCtorEq, false_and, and_false, false_implies, implies_true, Bool.false_eq_true, Bool.true_eq_false, ne_eq, not_true, not_false_iff, Nat.sub_zero, Nat.zero_add, Nat.add_zero, List.drop_zero, List.drop_succ_cons, List.drop_nil, List.take_zero, List.take_succ_cons, List.take_nil, List.set_cons_zero, List.set_cons_succ, List.nil_append, List.cons_append, List.append_nil, List.replicate_zero, List.replicate_succ, BitVec.ofNat_eq_ofNat, Option.some.injEq, AV.int.injEq, AV.u64.injEq, AV.u32.injEq, AV.u8.injEq, AV.bool.injEq, AV.a64.injEq, AV.a32.injEq, AV.a8.injEq, Nat.zero_le, Int.toNat_natCast, s0, partK, cDiv32, cTrimN, cFromR, List.getD_cons_zero]
          exact hfin
      · refine ERel.of_all (by rw [Try.ntmps115]; rfl) rfl ?_
        simp only [envS, List.forall_mem_cons]
        refine ⟨.inr rfl, .inr rfl, .inr rfl, .inr rfl, .inr rfl, .inr rfl, .inr rfl, ?_⟩
        intro p h; cases h
end Go.Proofs.Ytkpbjkhgiackpaa
