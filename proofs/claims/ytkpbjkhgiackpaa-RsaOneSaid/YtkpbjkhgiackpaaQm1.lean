/- The program's numbers that are turned in place: words taken away and added, by the engine. -/
import Derived.Test.YtkpbjkhgiackpaaQm0
namespace Go.Proofs.Ytkpbjkhgiackpaa
open Go Go.RowKit
set_option linter.unusedVariables false
set_option linter.unusedSimpArgs false

/-- A row that grows is lessened by one that is read. -/
def mLessen : MT := fun args mem nx K => match args with
  | [.grow l v n, .ros l2 A m c] => (match getA mem l, getA mem l2 with
    | some (.row v' e (.c32 xs)), some (.ro A' c' (.c32 ys)) => (v' = v ∧ xs.length = n ∧ A' = A ∧ c' = c ∧ ys.length = m ∧ l2 ≠ l ∧ n ≤ 100000 ∧ m ≤ 100000) ∧ ∀ zs : List U32, zs.length = n → (nv32 ys ≤ nv32 xs → nv32 zs + nv32 ys = nv32 xs) → K (.tup []) (setA mem l (.row v e (.c32 zs))) nx
    | _, _ => False)
  | _ => False
def mTake : MT := fun args mem nx K => match args with
  | [.slc l g off n cap, .ros l2 A m c, .u64 q] => (match getA mem l, getA mem l2 with
    | some (.own g' e (.c32 cs)), some (.ro A' c' (.c32 ys)) => (g' = g ∧ off + n ≤ cs.length ∧ A' = A ∧ c' = c ∧ ys.length = m ∧ l2 ≠ l ∧ n ≤ 100000 ∧ m ≤ n ∧ q.toNat < 4294967296 ∧ q.toNat * nv32 ys < 4294967296 ^ n) ∧
      ∀ zs : List U32, zs.length = n → nv32 zs + q.toNat * nv32 ys = nv32 ((cs.drop off).take n) + (if nv32 ((cs.drop off).take n) < q.toNat * nv32 ys then 4294967296 ^ n else 0) →
        K (.bool (decide (nv32 ((cs.drop off).take n) < q.toNat * nv32 ys))) (setA mem l (.own g e (.c32 (cs.take off ++ (zs ++ cs.drop (off + n)))))) nx
    | _, _ => False)
  | _ => False
def mBack : MT := fun args mem nx K => match args with
  | [.slc l g off n cap, .ros l2 A m c] => (match getA mem l, getA mem l2 with
    | some (.own g' e (.c32 cs)), some (.ro A' c' (.c32 ys)) => (g' = g ∧ off + n ≤ cs.length ∧ A' = A ∧ c' = c ∧ ys.length = m ∧ l2 ≠ l ∧ n ≤ 100000 ∧ m ≤ n) ∧
      ∀ (zs : List U32) (k : Nat), zs.length = n → k ≤ 1 → nv32 zs + 4294967296 ^ n * k = nv32 ((cs.drop off).take n) + nv32 ys →
        K (.tup []) (setA mem l (.own g e (.c32 (cs.take off ++ (zs ++ cs.drop (off + n)))))) nx
    | _, _ => False)
  | _ => False
theorem g32_mid {A p Z : List U32} {off i : Nat} (hA : A.length = off) (hi : i < p.length) : g32 (A ++ (p ++ Z)) (off + i) = g32 p i := by
  subst hA
  simp only [g32, List.getD_eq_getElem?_getD]
  rw [List.getElem?_append_right (by omega), Nat.add_sub_cancel_left, List.getElem?_append_left hi]
theorem set_mid {A p Z : List U32} {off i : Nat} (hA : A.length = off) (hi : i < p.length) (v : U32) : (A ++ (p ++ Z)).set (off + i) v = A ++ (p.set i v ++ Z) := by
  subst hA
  rw [List.set_append_right _ _ (by omega), Nat.add_sub_cancel_left, List.set_append_left _ _ hi]
theorem cut3 (cs : List U32) (off n : Nat) : cs = cs.take off ++ ((cs.drop off).take n ++ cs.drop (off + n)) := by
  rw [← List.drop_drop, List.take_append_drop, List.take_append_drop]
theorem LeJ.sameU {ι : Type} {env env' : Env} {mem mem' : Mem} {ks : List Nat} {nx : Nat} {U : ι → Env} {M : ι → Mem} {p : ι → Prop} (j : ι) (hp : p j) (hm : mem' = M j) (h : leA env' (U j ++ pickA env ks)) : LeJ env' mem' (stU env mem ks [] nx U M) p :=
  LeJ.same j hp (by rw [stU_mem, hm]; simp [pickA]) h
/-- Words taken away so far. -/
def LessN (xs ys : List U32) (s : Nat × List U32 × U32) : Prop := s.1 ≤ xs.length ∧ s.2.1.length = xs.length ∧ s.2.2.toNat ≤ 1 ∧ (∀ j, s.1 ≤ j → g32 s.2.1 j = g32 xs j) ∧ nv32 s.2.1 + nv32 (ys.take s.1) = nv32 xs + 4294967296 ^ s.1 * s.2.2.toNat
theorem lessn_start (xs ys : List U32) : LessN xs ys (0, xs, 0) := ⟨Nat.zero_le _, rfl, by dsimp only; decide, fun _ _ => rfl, by simp [nv32]⟩
theorem lessn_step {xs ys p : List U32} {c v c' : U32} {i : Nat} (hi : i < xs.length) (h : LessN xs ys (i, p, c)) (hc : c'.toNat ≤ 1) (hv : v.toNat + (g32 ys i).toNat + c.toNat = (g32 p i).toNat + 4294967296 * c'.toNat) : LessN xs ys (i + 1, p.set i v, c') := by
  obtain ⟨h1, h2, h3, h4, h5⟩ := h
  dsimp only at h1 h2 h3 h4 h5
  have hs := nv32_set p i v (by omega)
  refine ⟨by dsimp only; omega, by simp [h2], hc, fun j hj => ?_, ?_⟩
  · dsimp only at hj ⊢
    rw [g32_set_ne32 (by omega)]; exact h4 j (by omega)
  · dsimp only
    rw [nv32_take_succ, Nat.pow_succ, Nat.mul_assoc]
    generalize 4294967296 ^ i = D at *
    have e : D * (v.toNat + (g32 ys i).toNat + c.toNat) = D * ((g32 p i).toNat + 4294967296 * c'.toNat) := by rw [hv]
    rw [Nat.mul_add, Nat.mul_add, Nat.mul_add] at e
    omega
theorem lessn_end {xs ys p : List U32} {c : U32} (h : LessN xs ys (xs.length, p, c)) (hle : nv32 ys ≤ nv32 xs) : nv32 p + nv32 ys = nv32 xs := by
  obtain ⟨h1, h2, h3, h4, h5⟩ := h
  dsimp only at h1 h2 h3 h4 h5
  have hx := nv32_lt xs
  have hp := nv32_lt p
  rw [h2] at hp
  have ht : nv32 (ys.take xs.length) ≤ nv32 ys := by
    rcases Nat.le_total xs.length ys.length with hl | hl
    · rw [nv32_take_drop ys xs.length hl]; exact Nat.le_add_right _ _
    · rw [List.take_of_length_le hl]; exact Nat.le_refl _
  have hy : nv32 (ys.take xs.length) = nv32 ys := by
    rcases Nat.le_total xs.length ys.length with hl | hl
    · have e := nv32_take_drop ys xs.length hl
      have hd : nv32 (ys.drop xs.length) = 0 := by
        rcases Nat.eq_zero_or_pos (nv32 (ys.drop xs.length)) with h0 | h0
        · exact h0
        · have : 4294967296 ^ xs.length * 1 ≤ 4294967296 ^ xs.length * nv32 (ys.drop xs.length) := Nat.mul_le_mul_left _ h0
          omega
      rw [hd] at e; omega
    · rw [List.take_of_length_le hl]
  have hc0 : c.toNat = 0 := by
    rcases (by omega : c.toNat = 0 ∨ c.toNat = 1) with h0 | h0
    · exact h0
    · rw [h0] at h5; omega
  rw [hc0, hy] at h5
  omega
/-- So many times a number taken away so far. -/
def TakeN (xs ys : List U32) (q : Nat) (s : Nat × List U32 × U64 × U32) : Prop := s.1 ≤ xs.length ∧ s.2.1.length = xs.length ∧ s.2.2.1.toNat < 4294967296 ∧ s.2.2.2.toNat ≤ 1 ∧ (∀ j, s.1 ≤ j → g32 s.2.1 j = g32 xs j) ∧
  nv32 s.2.1 + q * nv32 (ys.take s.1) = nv32 xs + 4294967296 ^ s.1 * (s.2.2.2.toNat + s.2.2.1.toNat) ∧ 4294967296 ^ s.1 * s.2.2.1.toNat ≤ q * nv32 (ys.take s.1)
theorem taken_start (xs ys : List U32) (q : Nat) : TakeN xs ys q (0, xs, 0, 0) := ⟨Nat.zero_le _, rfl, by dsimp only; decide, by dsimp only; decide, fun _ _ => rfl, by simp [nv32], by simp [nv32]⟩
theorem take_v {c q : U64} {y : U32} (hc : c.toNat < 4294967296) (hq : q.toNat < 4294967296) : (c + q * y.setWidth 64).toNat = c.toNat + q.toNat * y.toNat := by
  have hy := y.isLt
  have hb : q.toNat * y.toNat ≤ 4294967295 * 4294967295 := Nat.mul_le_mul (by omega) (by omega)
  simp only [BitVec.toNat_add, BitVec.toNat_mul, BitVec.toNat_setWidth]
  rw [Nat.mod_eq_of_lt (a := y.toNat) (by omega)]
  generalize q.toNat * y.toNat = E at *
  omega
theorem taken_step {xs ys p : List U32} {q c : U64} {b v b' : U32} {i : Nat} (hq : q.toNat < 4294967296) (hi : i < xs.length) (h : TakeN xs ys q.toNat (i, p, c, b)) (hc : b'.toNat ≤ 1) (hv : v.toNat + ((c + q * (g32 ys i).setWidth 64).setWidth 32 : U32).toNat + b.toNat = (g32 p i).toNat + 4294967296 * b'.toNat) :
    TakeN xs ys q.toNat (i + 1, p.set i v, (c + q * (g32 ys i).setWidth 64) >>> 32, b') := by
  obtain ⟨h1, h2, h3, h4, h5, h6, h7⟩ := h
  dsimp only at h1 h2 h3 h4 h5 h6 h7
  have hs := nv32_set p i v (by omega)
  have hw := take_v (c := c) (q := q) (y := g32 ys i) h3 hq
  have hy := (g32 ys i).isLt
  have hb : q.toNat * (g32 ys i).toNat ≤ 4294967295 * 4294967295 := Nat.mul_le_mul (by omega) (by omega)
  have l1 := lo32n (c + q * (g32 ys i).setWidth 64)
  have l2 := hi32n (c + q * (g32 ys i).setWidth 64)
  rw [hw] at l1 l2
  rw [l1] at hv
  refine ⟨by dsimp only; omega, by simp [h2], by dsimp only; rw [l2]; generalize q.toNat * (g32 ys i).toNat = E at *; omega, hc, fun j hj => ?_, ?_, ?_⟩
  · dsimp only at hj ⊢
    rw [g32_set_ne32 (by omega)]; exact h5 j (by omega)
  · dsimp only
    rw [l2, nv32_take_succ, Nat.pow_succ, Nat.mul_add, Nat.mul_left_comm q.toNat]
    generalize q.toNat * (g32 ys i).toNat = E at *
    generalize 4294967296 ^ i = D at *
    have e1 : D * (v.toNat + (c.toNat + E) % 4294967296 + b.toNat) = D * ((g32 p i).toNat + 4294967296 * b'.toNat) := by rw [hv]
    have e2 : D * ((c.toNat + E) % 4294967296 + 4294967296 * ((c.toNat + E) / 4294967296)) = D * (c.toNat + E) := by rw [Nat.mod_add_div]
    rw [Nat.mul_add, Nat.mul_add, Nat.mul_add] at e1
    rw [Nat.mul_add, Nat.mul_add D c.toNat] at e2
    rw [Nat.mul_add] at h6 ⊢
    rw [Nat.mul_assoc, Nat.mul_assoc]
    omega
  · dsimp only
    rw [l2, nv32_take_succ, Nat.pow_succ, Nat.mul_add, Nat.mul_left_comm q.toNat]
    generalize q.toNat * (g32 ys i).toNat = E at *
    generalize 4294967296 ^ i = D at *
    have e2 : D * ((c.toNat + E) % 4294967296 + 4294967296 * ((c.toNat + E) / 4294967296)) = D * (c.toNat + E) := by rw [Nat.mod_add_div]
    rw [Nat.mul_add, Nat.mul_add D c.toNat] at e2
    rw [Nat.mul_assoc]
    omega
theorem taken_end {xs ys p : List U32} {q : Nat} {c : U64} {b : U32} (hl : ys.length ≤ xs.length) (hq : q * nv32 ys < 4294967296 ^ xs.length) (h : TakeN xs ys q (xs.length, p, c, b)) :
    nv32 p + q * nv32 ys = nv32 xs + (if nv32 xs < q * nv32 ys then 4294967296 ^ xs.length else 0) ∧ (b = 0#32) = ¬ nv32 xs < q * nv32 ys := by
  obtain ⟨h1, h2, h3, h4, h5, h6, h7⟩ := h
  dsimp only at h1 h2 h3 h4 h5 h6 h7
  have hx := nv32_lt xs
  have hp := nv32_lt p
  rw [h2] at hp
  rw [List.take_of_length_le hl] at h6 h7
  have hc0 : c.toNat = 0 := by
    rcases Nat.eq_zero_or_pos c.toNat with h0 | h0
    · exact h0
    · have : 4294967296 ^ xs.length * 1 ≤ 4294967296 ^ xs.length * c.toNat := Nat.mul_le_mul_left _ h0
      omega
  rw [hc0, Nat.add_zero] at h6
  have hz : (b = 0#32) = (b.toNat = 0) := propext ⟨fun h => by rw [h]; rfl, fun h => BitVec.eq_of_toNat_eq h⟩
  rw [hz]
  rcases (by omega : b.toNat = 0 ∨ b.toNat = 1) with h0 | h0
  · rw [h0, Nat.mul_zero, Nat.add_zero] at h6
    have : ¬ nv32 xs < q * nv32 ys := by omega
    rw [if_neg this]
    exact ⟨by omega, propext ⟨fun _ => this, fun _ => h0⟩⟩
  · rw [h0, Nat.mul_one] at h6
    have : nv32 xs < q * nv32 ys := by omega
    rw [if_pos this]
    exact ⟨h6, propext ⟨fun h => by omega, fun h => absurd this h⟩⟩
/-- Words added so far. -/
def BackN (xs ys : List U32) (s : Nat × List U32 × U32) : Prop := s.1 ≤ xs.length ∧ s.2.1.length = xs.length ∧ s.2.2.toNat ≤ 1 ∧ (∀ j, s.1 ≤ j → g32 s.2.1 j = g32 xs j) ∧ nv32 s.2.1 + 4294967296 ^ s.1 * s.2.2.toNat = nv32 xs + nv32 (ys.take s.1)
theorem backn_start (xs ys : List U32) : BackN xs ys (0, xs, 0) := ⟨Nat.zero_le _, rfl, by dsimp only; decide, fun _ _ => rfl, by simp [nv32]⟩
theorem backn_step {xs ys p : List U32} {c v c' : U32} {i : Nat} (hi : i < xs.length) (h : BackN xs ys (i, p, c)) (hc : c'.toNat ≤ 1) (hv : v.toNat + 4294967296 * c'.toNat = (g32 p i).toNat + (g32 ys i).toNat + c.toNat) : BackN xs ys (i + 1, p.set i v, c') := by
  obtain ⟨h1, h2, h3, h4, h5⟩ := h
  dsimp only at h1 h2 h3 h4 h5
  have hs := nv32_set p i v (by omega)
  refine ⟨by dsimp only; omega, by simp [h2], hc, fun j hj => ?_, ?_⟩
  · dsimp only at hj ⊢
    rw [g32_set_ne32 (by omega)]; exact h4 j (by omega)
  · dsimp only
    rw [nv32_take_succ, Nat.pow_succ, Nat.mul_assoc]
    generalize 4294967296 ^ i = D at *
    have e : D * (v.toNat + 4294967296 * c'.toNat) = D * ((g32 p i).toNat + (g32 ys i).toNat + c.toNat) := by rw [hv]
    rw [Nat.mul_add, Nat.mul_add, Nat.mul_add] at e
    omega
def m1 : CTab := fun F => match F with
  | 93 => .fn cWordN
  | 136 => .fn cSub32
  | 138 => .fn cAdd32
  | _ => .fn noCT
theorem m1_ok : CTok Try.prog m1 := by
  intro F
  unfold m1
  split
  · exact sWordN
  · exact sSub32
  · exact sAdd32
  · exact sound_none _ _
set_option maxRecDepth 100000 in
set_option maxHeartbeats 1000000 in
theorem mLessen_ok : MSound Try.prog 114 mLessen := by
  refine msound_vc (tt := tt) (ct := m1) ttok m1_ok mixed Try.func114 rfl (by decide) (rs := []) rfl ?_
  intro args mem nx K h
  unfold mLessen at h
  split at h
  · rename_i l v n l2 A m c
    split at h
    · rename_i v1 e xs A1 c1 ys h1 h2
      obtain ⟨⟨rfl, rfl, rfl, rfl, rfl, hne, hnm, hmm⟩, h⟩ := h
    
      have hs : ∀ e, getA (setA mem l e) l = some e := fun e => getA_setA_self h1
      have hn : ∀ e, getA (setA mem l e) l2 = some (.ro A1 c1 (.c32 ys)) := fun e => (getA_setA_ne hne).trans h2
      rw [Try.ntmps114]
      refine ⟨⟨rfl, by simp⟩, ?_⟩
      simp (maxSteps := 10000000) (implicitDefEqProofs := false) only [↓both_true, ↓both_false, ↓entryVC, ↓vc_skip, ↓vc_draw, ↓vc_list, ↓vc_seq, ↓vc_seqn, ↓vc_seqe, ↓vc_seqr, ↓vc_cond, ↓condVC, ↓vc_block, ↓vc_blockn, ↓vc_blockr, ↓vc_blocke, ↓vc_loop, ↓vc_exit, ↓vc_ret, ↓vc_loopn, ↓vc_loope, ↓vc_loopr, ↓vcl_nil, ↓vcl_cons, ↓lw_eq, ↓listVC, ↓memK, ↓memR, ↓envOf, ↓guardVC, ↓opVC, ↓pureVC, ↓binT, ↓wrapT, ↓TDsc.isW, ↓binW, ↓binVC, ↓bin8, ↓bin32, ↓bin64, ↓binInt, ↓shVC, ↓unVC, ↓cvVC, ↓rdVC, ↓loadVC, ↓pickC, ↓fillVC, ↓bndVC, ↓sliceVC, ↓bltVC, ↓storeVC, ↓appVC, ↓apzVC, ↓markVC, ↓copyVC, ↓callVC, ↓argsVC, ↓argVC, ↓bindR, ↓bindR1, ↓bindRs, ↓retW_eq, ↓extW_eq, ↓rowW_eq, ↓aggW_eq, ↓plv_nil, ↓plv_tk, ↓plv_fz, ↓plv_ld, ↓pt_eq, ↓pz_eq, ↓pl_eq, ↓delAll, ↓keepM_nil, ↓keepM, ↓extE, ↓extM, ↓leS, ↓leA, ↓retVC, ↓retR, ↓resVC, ↓resV1, ↓ressVC, ↓strU, ↓xAdd64, ↓xSub64, ↓vc_jn, ↓vc_je, ↓vc_jr, ↓pickA, ↓stU_env, ↓stU_mem, frz, both_true, both_false, both_dec, both_ndec, ev, absC, getA, setA, delA, tt, AV.good, AV.plain, AV.isSl, AV.cells, AV.one, Cells.len, Cells.get, Cells.sub, Cells.part, Cells.agg, Cells.upd, Cells.set, Cells.cat, Cells.rep, Cells.ones, TDsc.agg, zOf, putE, dstB, letGo, quietOp, slotOp, pickA, true_or, or_true, List.append_eq, Int.cast_ofNat_Int, List.any_cons, List.any_nil, beq_iff_eq, Bool.decide_eq_true, Option.getD_some, Option.getD_none, Option.map_some, Option.map_none, Option.bind_some, Option.isSome_some, Option.isNone_some, Option.isNone_none, Option.isSome_none, ↓reduceIte, Nat.reduceEqDiff, Nat.reduceLT, Nat.reduceLeDiff, Nat.reduceAdd, Nat.reduceSub, Nat.reduceMul, Nat.reduceBEq, Int.reduceLE, Int.reduceLT, Int.reduceToNat, Int.reduceNeg, BitVec.reduceToNat, decide_true, decide_false, and_true, true_and, and_self, Bool.or_true, Bool.true_or, Bool.or_false, Bool.false_or, Bool.not_true, Bool.not_false, List.map_cons, List.map_nil, List.length_cons, List.length_nil, List.getElem?_toArray, List.getElem?_cons_zero, List.getElem?_cons_succ, List.getElem?_nil, forall_const, true_implies, reduceCtorEq, false_and, and_false, false_implies, implies_true, Bool.false_eq_true, Bool.true_eq_false, ne_eq, not_true, not_false_iff, Nat.sub_zero, Nat.zero_add, Nat.add_zero, List.drop_zero, List.drop_succ_cons, List.drop_nil, List.take_zero, List.take_succ_cons, List.take_nil, List.set_cons_zero, List.set_cons_succ, List.nil_append, List.cons_append, List.append_nil, List.replicate_zero, List.replicate_succ, BitVec.ofNat_eq_ofNat, Option.some.injEq, AV.int.injEq, AV.u64.injEq, AV.u32.injEq, AV.u8.injEq, AV.bool.injEq, AV.a64.injEq, AV.a32.injEq, AV.a8.injEq, Nat.zero_le, Int.toNat_natCast, m1, cWordN, cSub32, cAdd32, setA_setA, hs, hn, pickA, List.length_append, h1, h2]
      (try refine And.intro ⟨rfl, by omega⟩ ?_)
      refine loopU _ _ _ [0, 1, 7] [] nx (ι := {s : Nat × List U32 × U32 // LessN xs ys s}) (fun s => [(8, .int (s.1.1 : Int)), (4, .u32 s.1.2.2)]) (fun s => setA mem l (.row v1 e (.c32 s.1.2.1))) (fun s => xs.length - s.1.1) ?_ ?_
      · refine LeJ.sameU ⟨(0, xs, 0), lessn_start xs ys⟩ trivial ((setA_same h1).symm) ?_
        simp (maxSteps := 1000000) only [leS, leA, stU_env, stU_mem, pickA, getA, delA, setA, Cells.part, Cells.len, List.take_nil, List.drop_nil, List.length_nil, Nat.zero_add, ↓reduceIte, Nat.reduceEqDiff, Option.some.injEq, List.nil_append, List.cons_append, true_and, and_true, and_self, reduceCtorEq, AV.int.injEq, ME.own.injEq, ME.row.injEq, Cells.c32.injEq, Cells.c64.injEq, Cells.c8.injEq, AV.ptr.injEq, AV.ros.injEq, AV.grow.injEq, AV.u64.injEq, AV.u32.injEq]
        first | done | rfl | exact ⟨rfl, rfl⟩ | exact ⟨⟨rfl, rfl⟩, rfl⟩ | exact ⟨⟨rfl, rfl⟩, rfl, rfl⟩ | simp
      · rintro ⟨⟨i, p, c⟩, hI⟩
        obtain ⟨hi, hl, hc, -⟩ := id hI
        dsimp only at hi hl hc
        simp (maxSteps := 10000000) (implicitDefEqProofs := false) only [↓both_true, ↓both_false, ↓entryVC, ↓vc_skip, ↓vc_draw, ↓vc_list, ↓vc_seq, ↓vc_seqn, ↓vc_seqe, ↓vc_seqr, ↓vc_cond, ↓condVC, ↓vc_block, ↓vc_blockn, ↓vc_blockr, ↓vc_blocke, ↓vc_loop, ↓vc_exit, ↓vc_ret, ↓vc_loopn, ↓vc_loope, ↓vc_loopr, ↓vcl_nil, ↓vcl_cons, ↓lw_eq, ↓listVC, ↓memK, ↓memR, ↓envOf, ↓guardVC, ↓opVC, ↓pureVC, ↓binT, ↓wrapT, ↓TDsc.isW, ↓binW, ↓binVC, ↓bin8, ↓bin32, ↓bin64, ↓binInt, ↓shVC, ↓unVC, ↓cvVC, ↓rdVC, ↓loadVC, ↓pickC, ↓fillVC, ↓bndVC, ↓sliceVC, ↓bltVC, ↓storeVC, ↓appVC, ↓apzVC, ↓markVC, ↓copyVC, ↓callVC, ↓argsVC, ↓argVC, ↓bindR, ↓bindR1, ↓bindRs, ↓retW_eq, ↓extW_eq, ↓rowW_eq, ↓aggW_eq, ↓plv_nil, ↓plv_tk, ↓plv_fz, ↓plv_ld, ↓pt_eq, ↓pz_eq, ↓pl_eq, ↓delAll, ↓keepM_nil, ↓keepM, ↓extE, ↓extM, ↓leS, ↓leA, ↓retVC, ↓retR, ↓resVC, ↓resV1, ↓ressVC, ↓strU, ↓xAdd64, ↓xSub64, ↓vc_jn, ↓vc_je, ↓vc_jr, ↓pickA, ↓stU_env, ↓stU_mem, frz, both_true, both_false, both_dec, both_ndec, ev, absC, getA, setA, delA, tt, AV.good, AV.plain, AV.isSl, AV.cells, AV.one, Cells.len, Cells.get, Cells.sub, Cells.part, Cells.agg, Cells.upd, Cells.set, Cells.cat, Cells.rep, Cells.ones, TDsc.agg, zOf, putE, dstB, letGo, quietOp, slotOp, pickA, true_or, or_true, List.append_eq, Int.cast_ofNat_Int, List.any_cons, List.any_nil, beq_iff_eq, Bool.decide_eq_true, Option.getD_some, Option.getD_none, Option.map_some, Option.map_none, Option.bind_some, Option.isSome_some, Option.isNone_some, Option.isNone_none, Option.isSome_none, ↓reduceIte, Nat.reduceEqDiff, Nat.reduceLT, Nat.reduceLeDiff, Nat.reduceAdd, Nat.reduceSub, Nat.reduceMul, Nat.reduceBEq, Int.reduceLE, Int.reduceLT, Int.reduceToNat, Int.reduceNeg, BitVec.reduceToNat, decide_true, decide_false, and_true, true_and, and_self, Bool.or_true, Bool.true_or, Bool.or_false, Bool.false_or, Bool.not_true, Bool.not_false, List.map_cons, List.map_nil, List.length_cons, List.length_nil, List.getElem?_toArray, List.getElem?_cons_zero, List.getElem?_cons_succ, List.getElem?_nil, forall_const, true_implies, reduceCtorEq, false_and, and_false, false_implies, implies_true, Bool.false_eq_true, Bool.true_eq_false, ne_eq, not_true, not_false_iff, Nat.sub_zero, Nat.zero_add, Nat.add_zero, List.drop_zero, List.drop_succ_cons, List.drop_nil, List.take_zero, List.take_succ_cons, List.take_nil, List.set_cons_zero, List.set_cons_succ, List.nil_append, List.cons_append, List.append_nil, List.replicate_zero, List.replicate_succ, BitVec.ofNat_eq_ofNat, Option.some.injEq, AV.int.injEq, AV.u64.injEq, AV.u32.injEq, AV.u8.injEq, AV.bool.injEq, AV.a64.injEq, AV.a32.injEq, AV.a8.injEq, Nat.zero_le, Int.toNat_natCast, m1, cWordN, cSub32, cAdd32, setA_setA, hs, hn, pickA, List.length_append]
        refine ⟨fun hlt => ?_, fun hge => ?_⟩
        · have hlt : i < xs.length := by omega
          refine draw_ _ _ _ [(.fz, 0), (.fz, 1), (.fz, 2), (.fz, 3), (.fz, 6), (.fz, 7), (.fz, 9), (.tk, 4), (.tk, 5), (.ld, 8), (.ld, 10), (.fz, 11), (.fz, 12), (.fz, 13), (.tk, 14), (.ld, 15), (.fz, 16)] [] [] (by kernel_rfl) ?_
          simp (maxSteps := 10000000) (implicitDefEqProofs := false) only [↓both_true, ↓both_false, ↓entryVC, ↓vc_skip, ↓vc_draw, ↓vc_list, ↓vc_seq, ↓vc_seqn, ↓vc_seqe, ↓vc_seqr, ↓vc_cond, ↓condVC, ↓vc_block, ↓vc_blockn, ↓vc_blockr, ↓vc_blocke, ↓vc_loop, ↓vc_exit, ↓vc_ret, ↓vc_loopn, ↓vc_loope, ↓vc_loopr, ↓vcl_nil, ↓vcl_cons, ↓lw_eq, ↓listVC, ↓memK, ↓memR, ↓envOf, ↓guardVC, ↓opVC, ↓pureVC, ↓binT, ↓wrapT, ↓TDsc.isW, ↓binW, ↓binVC, ↓bin8, ↓bin32, ↓bin64, ↓binInt, ↓shVC, ↓unVC, ↓cvVC, ↓rdVC, ↓loadVC, ↓pickC, ↓fillVC, ↓bndVC, ↓sliceVC, ↓bltVC, ↓storeVC, ↓appVC, ↓apzVC, ↓markVC, ↓copyVC, ↓callVC, ↓argsVC, ↓argVC, ↓bindR, ↓bindR1, ↓bindRs, ↓retW_eq, ↓extW_eq, ↓rowW_eq, ↓aggW_eq, ↓plv_nil, ↓plv_tk, ↓plv_fz, ↓plv_ld, ↓pt_eq, ↓pz_eq, ↓pl_eq, ↓delAll, ↓keepM_nil, ↓keepM, ↓extE, ↓extM, ↓leS, ↓leA, ↓retVC, ↓retR, ↓resVC, ↓resV1, ↓ressVC, ↓strU, ↓xAdd64, ↓xSub64, ↓vc_jn, ↓vc_je, ↓vc_jr, ↓pickA, ↓stU_env, ↓stU_mem, frz, both_true, both_false, both_dec, both_ndec, ev, absC, getA, setA, delA, tt, AV.good, AV.plain, AV.isSl, AV.cells, AV.one, Cells.len, Cells.get, Cells.sub, Cells.part, Cells.agg, Cells.upd, Cells.set, Cells.cat, Cells.rep, Cells.ones, TDsc.agg, zOf, putE, dstB, letGo, quietOp, slotOp, pickA, true_or, or_true, List.append_eq, Int.cast_ofNat_Int, List.any_cons, List.any_nil, beq_iff_eq, Bool.decide_eq_true, Option.getD_some, Option.getD_none, Option.map_some, Option.map_none, Option.bind_some, Option.isSome_some, Option.isNone_some, Option.isNone_none, Option.isSome_none, ↓reduceIte, Nat.reduceEqDiff, Nat.reduceLT, Nat.reduceLeDiff, Nat.reduceAdd, Nat.reduceSub, Nat.reduceMul, Nat.reduceBEq, Int.reduceLE, Int.reduceLT, Int.reduceToNat, Int.reduceNeg, BitVec.reduceToNat, decide_true, decide_false, and_true, true_and, and_self, Bool.or_true, Bool.true_or, Bool.or_false, Bool.false_or, Bool.not_true, Bool.not_false, List.map_cons, List.map_nil, List.length_cons, List.length_nil, List.getElem?_toArray, List.getElem?_cons_zero, List.getElem?_cons_succ, List.getElem?_nil, forall_const, true_implies, reduceCtorEq, false_and, and_false, false_implies, implies_true, Bool.false_eq_true, Bool.true_eq_false, ne_eq, not_true, not_false_iff, Nat.sub_zero, Nat.zero_add, Nat.add_zero, List.drop_zero, List.drop_succ_cons, List.drop_nil, List.take_zero, List.take_succ_cons, List.take_nil, List.set_cons_zero, List.set_cons_succ, List.nil_append, List.cons_append, List.append_nil, List.replicate_zero, List.replicate_succ, BitVec.ofNat_eq_ofNat, Option.some.injEq, AV.int.injEq, AV.u64.injEq, AV.u32.injEq, AV.u8.injEq, AV.bool.injEq, AV.a64.injEq, AV.a32.injEq, AV.a8.injEq, Nat.zero_le, Int.toNat_natCast, m1, cWordN, cSub32, cAdd32, setA_setA, hs, hn, pickA, List.length_append]
          repeat (refine And.intro (by first | omega | (simp only [intIn, intIn]; omega) | decide) ?_)
          intro s1 k1 hk1 hk2
          repeat (refine And.intro (by first | omega | (simp only [intIn, intIn]; omega) | decide) ?_)
          refine LeJ.sameU ⟨(i + 1, p.set i s1, k1), lessn_step hlt hI hk1 hk2⟩ (by dsimp only; omega) rfl ?_
          simp (maxSteps := 1000000) only [leS, leA, stU_env, stU_mem, pickA, getA, delA, setA, Cells.part, Cells.len, List.take_nil, List.drop_nil, List.length_nil, Nat.zero_add, ↓reduceIte, Nat.reduceEqDiff, Option.some.injEq, List.nil_append, List.cons_append, true_and, and_true, and_self, reduceCtorEq, AV.int.injEq, ME.own.injEq, ME.row.injEq, Cells.c32.injEq, Cells.c64.injEq, Cells.c8.injEq, AV.ptr.injEq, AV.ros.injEq, AV.grow.injEq, AV.u64.injEq, AV.u32.injEq]
          first | done | rfl | omega | exact ⟨by omega, rfl⟩
        · obtain rfl : i = xs.length := by omega
          (try repeat (refine And.intro (by first | omega | (simp only [intIn, intIn]; omega) | decide) ?_))
          exact h p hl fun hle => lessn_end hI hle
    · exact h.elim
  · exact h.elim
set_option maxRecDepth 100000 in
set_option maxHeartbeats 1000000 in
theorem mBack_ok : MSound Try.prog 119 mBack := by
  refine msound_vc (tt := tt) (ct := m1) ttok m1_ok mixed Try.func119 rfl (by decide) (rs := []) rfl ?_
  intro args mem nx K h
  unfold mBack at h
  split at h
  · rename_i l g off n cap l2 A m c
    split at h
    · rename_i g1 e cs A1 c1 ys h1 h2
      obtain ⟨⟨rfl, hof, rfl, rfl, rfl, hne, hnm, hmm⟩, h⟩ := h
      have hcut := cut3 cs off n
      obtain ⟨A0, hA0⟩ : ∃ A0, cs.take off = A0 := ⟨_, rfl⟩
      obtain ⟨Z0, hZ0⟩ : ∃ A0, cs.drop (off + n) = A0 := ⟨_, rfl⟩
      obtain ⟨xs, hxs⟩ : ∃ A0, (cs.drop off).take n = A0 := ⟨_, rfl⟩
      have hAl : A0.length = off := by rw [← hA0, List.length_take]; omega
      have hxl : xs.length = n := by rw [← hxs, List.length_take, List.length_drop]; omega
      rw [hA0, hZ0, hxs] at h hcut
      subst hxl
    
      have hs : ∀ e, getA (setA mem l e) l = some e := fun e => getA_setA_self h1
      have hn : ∀ e, getA (setA mem l e) l2 = some (.ro A1 c1 (.c32 ys)) := fun e => (getA_setA_ne hne).trans h2
      rw [Try.ntmps119]
      refine ⟨⟨rfl, by simp⟩, ?_⟩
      simp (maxSteps := 10000000) (implicitDefEqProofs := false) only [↓both_true, ↓both_false, ↓entryVC, ↓vc_skip, ↓vc_draw, ↓vc_list, ↓vc_seq, ↓vc_seqn, ↓vc_seqe, ↓vc_seqr, ↓vc_cond, ↓condVC, ↓vc_block, ↓vc_blockn, ↓vc_blockr, ↓vc_blocke, ↓vc_loop, ↓vc_exit, ↓vc_ret, ↓vc_loopn, ↓vc_loope, ↓vc_loopr, ↓vcl_nil, ↓vcl_cons, ↓lw_eq, ↓listVC, ↓memK, ↓memR, ↓envOf, ↓guardVC, ↓opVC, ↓pureVC, ↓binT, ↓wrapT, ↓TDsc.isW, ↓binW, ↓binVC, ↓bin8, ↓bin32, ↓bin64, ↓binInt, ↓shVC, ↓unVC, ↓cvVC, ↓rdVC, ↓loadVC, ↓pickC, ↓fillVC, ↓bndVC, ↓sliceVC, ↓bltVC, ↓storeVC, ↓appVC, ↓apzVC, ↓markVC, ↓copyVC, ↓callVC, ↓argsVC, ↓argVC, ↓bindR, ↓bindR1, ↓bindRs, ↓retW_eq, ↓extW_eq, ↓rowW_eq, ↓aggW_eq, ↓plv_nil, ↓plv_tk, ↓plv_fz, ↓plv_ld, ↓pt_eq, ↓pz_eq, ↓pl_eq, ↓delAll, ↓keepM_nil, ↓keepM, ↓extE, ↓extM, ↓leS, ↓leA, ↓retVC, ↓retR, ↓resVC, ↓resV1, ↓ressVC, ↓strU, ↓xAdd64, ↓xSub64, ↓vc_jn, ↓vc_je, ↓vc_jr, ↓pickA, ↓stU_env, ↓stU_mem, frz, both_true, both_false, both_dec, both_ndec, ev, absC, getA, setA, delA, tt, AV.good, AV.plain, AV.isSl, AV.cells, AV.one, Cells.len, Cells.get, Cells.sub, Cells.part, Cells.agg, Cells.upd, Cells.set, Cells.cat, Cells.rep, Cells.ones, TDsc.agg, zOf, putE, dstB, letGo, quietOp, slotOp, pickA, true_or, or_true, List.append_eq, Int.cast_ofNat_Int, List.any_cons, List.any_nil, beq_iff_eq, Bool.decide_eq_true, Option.getD_some, Option.getD_none, Option.map_some, Option.map_none, Option.bind_some, Option.isSome_some, Option.isNone_some, Option.isNone_none, Option.isSome_none, ↓reduceIte, Nat.reduceEqDiff, Nat.reduceLT, Nat.reduceLeDiff, Nat.reduceAdd, Nat.reduceSub, Nat.reduceMul, Nat.reduceBEq, Int.reduceLE, Int.reduceLT, Int.reduceToNat, Int.reduceNeg, BitVec.reduceToNat, decide_true, decide_false, and_true, true_and, and_self, Bool.or_true, Bool.true_or, Bool.or_false, Bool.false_or, Bool.not_true, Bool.not_false, List.map_cons, List.map_nil, List.length_cons, List.length_nil, List.getElem?_toArray, List.getElem?_cons_zero, List.getElem?_cons_succ, List.getElem?_nil, forall_const, true_implies, reduceCtorEq, false_and, and_false, false_implies, implies_true, Bool.false_eq_true, Bool.true_eq_false, ne_eq, not_true, not_false_iff, Nat.sub_zero, Nat.zero_add, Nat.add_zero, List.drop_zero, List.drop_succ_cons, List.drop_nil, List.take_zero, List.take_succ_cons, List.take_nil, List.set_cons_zero, List.set_cons_succ, List.nil_append, List.cons_append, List.append_nil, List.replicate_zero, List.replicate_succ, BitVec.ofNat_eq_ofNat, Option.some.injEq, AV.int.injEq, AV.u64.injEq, AV.u32.injEq, AV.u8.injEq, AV.bool.injEq, AV.a64.injEq, AV.a32.injEq, AV.a8.injEq, Nat.zero_le, Int.toNat_natCast, m1, cWordN, cSub32, cAdd32, setA_setA, hs, hn, pickA, List.length_append, hAl, h1, h2]
      (try refine And.intro ⟨rfl, by omega⟩ ?_)
      refine loopU _ _ _ [0, 1, 7] [] nx (ι := {s : Nat × List U32 × U32 // BackN xs ys s}) (fun s => [(8, .int (s.1.1 : Int)), (4, .u32 s.1.2.2)]) (fun s => setA mem l (.own g1 e (.c32 (A0 ++ (s.1.2.1 ++ Z0))))) (fun s => xs.length - s.1.1) ?_ ?_
      · refine LeJ.sameU ⟨(0, xs, 0), backn_start xs ys⟩ trivial (by dsimp only; rw [← hcut]; exact (setA_same h1).symm) ?_
        simp (maxSteps := 1000000) only [leS, leA, stU_env, stU_mem, pickA, getA, delA, setA, Cells.part, Cells.len, List.take_nil, List.drop_nil, List.length_nil, Nat.zero_add, ↓reduceIte, Nat.reduceEqDiff, Option.some.injEq, List.nil_append, List.cons_append, true_and, and_true, and_self, reduceCtorEq, AV.int.injEq, ME.own.injEq, ME.row.injEq, Cells.c32.injEq, Cells.c64.injEq, Cells.c8.injEq, AV.ptr.injEq, AV.ros.injEq, AV.grow.injEq, AV.u64.injEq, AV.u32.injEq]
        first | done | rfl | exact ⟨rfl, rfl⟩ | exact ⟨⟨rfl, rfl⟩, rfl⟩ | exact ⟨⟨rfl, rfl⟩, rfl, rfl⟩ | simp
      · rintro ⟨⟨i, p, c⟩, hI⟩
        obtain ⟨hi, hl, hc, -⟩ := id hI
        dsimp only at hi hl hc
        simp (maxSteps := 10000000) (implicitDefEqProofs := false) only [↓both_true, ↓both_false, ↓entryVC, ↓vc_skip, ↓vc_draw, ↓vc_list, ↓vc_seq, ↓vc_seqn, ↓vc_seqe, ↓vc_seqr, ↓vc_cond, ↓condVC, ↓vc_block, ↓vc_blockn, ↓vc_blockr, ↓vc_blocke, ↓vc_loop, ↓vc_exit, ↓vc_ret, ↓vc_loopn, ↓vc_loope, ↓vc_loopr, ↓vcl_nil, ↓vcl_cons, ↓lw_eq, ↓listVC, ↓memK, ↓memR, ↓envOf, ↓guardVC, ↓opVC, ↓pureVC, ↓binT, ↓wrapT, ↓TDsc.isW, ↓binW, ↓binVC, ↓bin8, ↓bin32, ↓bin64, ↓binInt, ↓shVC, ↓unVC, ↓cvVC, ↓rdVC, ↓loadVC, ↓pickC, ↓fillVC, ↓bndVC, ↓sliceVC, ↓bltVC, ↓storeVC, ↓appVC, ↓apzVC, ↓markVC, ↓copyVC, ↓callVC, ↓argsVC, ↓argVC, ↓bindR, ↓bindR1, ↓bindRs, ↓retW_eq, ↓extW_eq, ↓rowW_eq, ↓aggW_eq, ↓plv_nil, ↓plv_tk, ↓plv_fz, ↓plv_ld, ↓pt_eq, ↓pz_eq, ↓pl_eq, ↓delAll, ↓keepM_nil, ↓keepM, ↓extE, ↓extM, ↓leS, ↓leA, ↓retVC, ↓retR, ↓resVC, ↓resV1, ↓ressVC, ↓strU, ↓xAdd64, ↓xSub64, ↓vc_jn, ↓vc_je, ↓vc_jr, ↓pickA, ↓stU_env, ↓stU_mem, frz, both_true, both_false, both_dec, both_ndec, ev, absC, getA, setA, delA, tt, AV.good, AV.plain, AV.isSl, AV.cells, AV.one, Cells.len, Cells.get, Cells.sub, Cells.part, Cells.agg, Cells.upd, Cells.set, Cells.cat, Cells.rep, Cells.ones, TDsc.agg, zOf, putE, dstB, letGo, quietOp, slotOp, pickA, true_or, or_true, List.append_eq, Int.cast_ofNat_Int, List.any_cons, List.any_nil, beq_iff_eq, Bool.decide_eq_true, Option.getD_some, Option.getD_none, Option.map_some, Option.map_none, Option.bind_some, Option.isSome_some, Option.isNone_some, Option.isNone_none, Option.isSome_none, ↓reduceIte, Nat.reduceEqDiff, Nat.reduceLT, Nat.reduceLeDiff, Nat.reduceAdd, Nat.reduceSub, Nat.reduceMul, Nat.reduceBEq, Int.reduceLE, Int.reduceLT, Int.reduceToNat, Int.reduceNeg, BitVec.reduceToNat, decide_true, decide_false, and_true, true_and, and_self, Bool.or_true, Bool.true_or, Bool.or_false, Bool.false_or, Bool.not_true, Bool.not_false, List.map_cons, List.map_nil, List.length_cons, List.length_nil, List.getElem?_toArray, List.getElem?_cons_zero, List.getElem?_cons_succ, List.getElem?_nil, forall_const, true_implies, reduceCtorEq, false_and, and_false, false_implies, implies_true, Bool.false_eq_true, Bool.true_eq_false, ne_eq, not_true, not_false_iff, Nat.sub_zero, Nat.zero_add, Nat.add_zero, List.drop_zero, List.drop_succ_cons, List.drop_nil, List.take_zero, List.take_succ_cons, List.take_nil, List.set_cons_zero, List.set_cons_succ, List.nil_append, List.cons_append, List.append_nil, List.replicate_zero, List.replicate_succ, BitVec.ofNat_eq_ofNat, Option.some.injEq, AV.int.injEq, AV.u64.injEq, AV.u32.injEq, AV.u8.injEq, AV.bool.injEq, AV.a64.injEq, AV.a32.injEq, AV.a8.injEq, Nat.zero_le, Int.toNat_natCast, m1, cWordN, cSub32, cAdd32, setA_setA, hs, hn, pickA, List.length_append, hAl]
        refine ⟨fun hlt => ?_, fun hge => ?_⟩
        · have hlt : i < xs.length := by omega
          have r1 := g32_mid (Z := Z0) hAl (show i < p.length by omega)
          have r2 := fun v => set_mid (Z := Z0) hAl (show i < p.length by omega) v
          refine draw_ _ _ _ [(.fz, 0), (.fz, 1), (.fz, 2), (.fz, 3), (.fz, 6), (.fz, 7), (.fz, 9), (.tk, 4), (.tk, 5), (.ld, 8), (.ld, 10), (.fz, 11), (.fz, 12), (.fz, 13), (.tk, 14), (.ld, 15), (.fz, 16)] [] [] (by kernel_rfl) ?_
          simp (maxSteps := 10000000) (implicitDefEqProofs := false) only [↓both_true, ↓both_false, ↓entryVC, ↓vc_skip, ↓vc_draw, ↓vc_list, ↓vc_seq, ↓vc_seqn, ↓vc_seqe, ↓vc_seqr, ↓vc_cond, ↓condVC, ↓vc_block, ↓vc_blockn, ↓vc_blockr, ↓vc_blocke, ↓vc_loop, ↓vc_exit, ↓vc_ret, ↓vc_loopn, ↓vc_loope, ↓vc_loopr, ↓vcl_nil, ↓vcl_cons, ↓lw_eq, ↓listVC, ↓memK, ↓memR, ↓envOf, ↓guardVC, ↓opVC, ↓pureVC, ↓binT, ↓wrapT, ↓TDsc.isW, ↓binW, ↓binVC, ↓bin8, ↓bin32, ↓bin64, ↓binInt, ↓shVC, ↓unVC, ↓cvVC, ↓rdVC, ↓loadVC, ↓pickC, ↓fillVC, ↓bndVC, ↓sliceVC, ↓bltVC, ↓storeVC, ↓appVC, ↓apzVC, ↓markVC, ↓copyVC, ↓callVC, ↓argsVC, ↓argVC, ↓bindR, ↓bindR1, ↓bindRs, ↓retW_eq, ↓extW_eq, ↓rowW_eq, ↓aggW_eq, ↓plv_nil, ↓plv_tk, ↓plv_fz, ↓plv_ld, ↓pt_eq, ↓pz_eq, ↓pl_eq, ↓delAll, ↓keepM_nil, ↓keepM, ↓extE, ↓extM, ↓leS, ↓leA, ↓retVC, ↓retR, ↓resVC, ↓resV1, ↓ressVC, ↓strU, ↓xAdd64, ↓xSub64, ↓vc_jn, ↓vc_je, ↓vc_jr, ↓pickA, ↓stU_env, ↓stU_mem, frz, both_true, both_false, both_dec, both_ndec, ev, absC, getA, setA, delA, tt, AV.good, AV.plain, AV.isSl, AV.cells, AV.one, Cells.len, Cells.get, Cells.sub, Cells.part, Cells.agg, Cells.upd, Cells.set, Cells.cat, Cells.rep, Cells.ones, TDsc.agg, zOf, putE, dstB, letGo, quietOp, slotOp, pickA, true_or, or_true, List.append_eq, Int.cast_ofNat_Int, List.any_cons, List.any_nil, beq_iff_eq, Bool.decide_eq_true, Option.getD_some, Option.getD_none, Option.map_some, Option.map_none, Option.bind_some, Option.isSome_some, Option.isNone_some, Option.isNone_none, Option.isSome_none, ↓reduceIte, Nat.reduceEqDiff, Nat.reduceLT, Nat.reduceLeDiff, Nat.reduceAdd, Nat.reduceSub, Nat.reduceMul, Nat.reduceBEq, Int.reduceLE, Int.reduceLT, Int.reduceToNat, Int.reduceNeg, BitVec.reduceToNat, decide_true, decide_false, and_true, true_and, and_self, Bool.or_true, Bool.true_or, Bool.or_false, Bool.false_or, Bool.not_true, Bool.not_false, List.map_cons, List.map_nil, List.length_cons, List.length_nil, List.getElem?_toArray, List.getElem?_cons_zero, List.getElem?_cons_succ, List.getElem?_nil, forall_const, true_implies, reduceCtorEq, false_and, and_false, false_implies, implies_true, Bool.false_eq_true, Bool.true_eq_false, ne_eq, not_true, not_false_iff, Nat.sub_zero, Nat.zero_add, Nat.add_zero, List.drop_zero, List.drop_succ_cons, List.drop_nil, List.take_zero, List.take_succ_cons, List.take_nil, List.set_cons_zero, List.set_cons_succ, List.nil_append, List.cons_append, List.append_nil, List.replicate_zero, List.replicate_succ, BitVec.ofNat_eq_ofNat, Option.some.injEq, AV.int.injEq, AV.u64.injEq, AV.u32.injEq, AV.u8.injEq, AV.bool.injEq, AV.a64.injEq, AV.a32.injEq, AV.a8.injEq, Nat.zero_le, Int.toNat_natCast, m1, cWordN, cSub32, cAdd32, setA_setA, hs, hn, pickA, List.length_append, hAl, r1, r2]
          repeat (refine And.intro (by first | omega | (simp only [intIn, intIn]; omega) | decide) ?_)
          intro s1 k1 hk1 hk2
          repeat (refine And.intro (by first | omega | (simp only [intIn, intIn]; omega) | decide) ?_)
          refine LeJ.sameU ⟨(i + 1, p.set i s1, k1), backn_step hlt hI hk1 hk2⟩ (by dsimp only; omega) rfl ?_
          simp (maxSteps := 1000000) only [leS, leA, stU_env, stU_mem, pickA, getA, delA, setA, Cells.part, Cells.len, List.take_nil, List.drop_nil, List.length_nil, Nat.zero_add, ↓reduceIte, Nat.reduceEqDiff, Option.some.injEq, List.nil_append, List.cons_append, true_and, and_true, and_self, reduceCtorEq, AV.int.injEq, ME.own.injEq, ME.row.injEq, Cells.c32.injEq, Cells.c64.injEq, Cells.c8.injEq, AV.ptr.injEq, AV.ros.injEq, AV.grow.injEq, AV.u64.injEq, AV.u32.injEq]
          first | done | rfl | omega | exact ⟨by omega, rfl⟩
        · obtain rfl : i = xs.length := by omega
          (try repeat (refine And.intro (by first | omega | (simp only [intIn, intIn]; omega) | decide) ?_))
          exact h p c.toNat hl hc (by have := hI.2.2.2.2; dsimp only at this; rw [List.take_of_length_le (l := ys) (by omega)] at this; exact this)
    · exact h.elim
  · exact h.elim
set_option maxRecDepth 100000 in
set_option maxHeartbeats 1000000 in
theorem mTake_ok : MSound Try.prog 118 mTake := by
  refine msound_vc (tt := tt) (ct := m1) ttok m1_ok mixed Try.func118 rfl (by decide) (rs := [.tmp 6]) rfl ?_
  intro args mem nx K h
  unfold mTake at h
  split at h
  · rename_i l g off n cap l2 A m c q
    split at h
    · rename_i g1 e cs A1 c1 ys h1 h2
      obtain ⟨⟨rfl, hof, rfl, rfl, rfl, hne, hnm, hmm, hq, hqm⟩, h⟩ := h
      have hcut := cut3 cs off n
      obtain ⟨A0, hA0⟩ : ∃ A0, cs.take off = A0 := ⟨_, rfl⟩
      obtain ⟨Z0, hZ0⟩ : ∃ A0, cs.drop (off + n) = A0 := ⟨_, rfl⟩
      obtain ⟨xs, hxs⟩ : ∃ A0, (cs.drop off).take n = A0 := ⟨_, rfl⟩
      have hAl : A0.length = off := by rw [← hA0, List.length_take]; omega
      have hxl : xs.length = n := by rw [← hxs, List.length_take, List.length_drop]; omega
      rw [hA0, hZ0, hxs] at h hcut
      subst hxl
    
      have hs : ∀ e, getA (setA mem l e) l = some e := fun e => getA_setA_self h1
      have hn : ∀ e, getA (setA mem l e) l2 = some (.ro A1 c1 (.c32 ys)) := fun e => (getA_setA_ne hne).trans h2
      rw [Try.ntmps118]
      refine ⟨⟨rfl, by simp⟩, ?_⟩
      simp (maxSteps := 10000000) (implicitDefEqProofs := false) only [↓both_true, ↓both_false, ↓entryVC, ↓vc_skip, ↓vc_draw, ↓vc_list, ↓vc_seq, ↓vc_seqn, ↓vc_seqe, ↓vc_seqr, ↓vc_cond, ↓condVC, ↓vc_block, ↓vc_blockn, ↓vc_blockr, ↓vc_blocke, ↓vc_loop, ↓vc_exit, ↓vc_ret, ↓vc_loopn, ↓vc_loope, ↓vc_loopr, ↓vcl_nil, ↓vcl_cons, ↓lw_eq, ↓listVC, ↓memK, ↓memR, ↓envOf, ↓guardVC, ↓opVC, ↓pureVC, ↓binT, ↓wrapT, ↓TDsc.isW, ↓binW, ↓binVC, ↓bin8, ↓bin32, ↓bin64, ↓binInt, ↓shVC, ↓unVC, ↓cvVC, ↓rdVC, ↓loadVC, ↓pickC, ↓fillVC, ↓bndVC, ↓sliceVC, ↓bltVC, ↓storeVC, ↓appVC, ↓apzVC, ↓markVC, ↓copyVC, ↓callVC, ↓argsVC, ↓argVC, ↓bindR, ↓bindR1, ↓bindRs, ↓retW_eq, ↓extW_eq, ↓rowW_eq, ↓aggW_eq, ↓plv_nil, ↓plv_tk, ↓plv_fz, ↓plv_ld, ↓pt_eq, ↓pz_eq, ↓pl_eq, ↓delAll, ↓keepM_nil, ↓keepM, ↓extE, ↓extM, ↓leS, ↓leA, ↓retVC, ↓retR, ↓resVC, ↓resV1, ↓ressVC, ↓strU, ↓xAdd64, ↓xSub64, ↓vc_jn, ↓vc_je, ↓vc_jr, ↓pickA, ↓stU_env, ↓stU_mem, frz, both_true, both_false, both_dec, both_ndec, ev, absC, getA, setA, delA, tt, AV.good, AV.plain, AV.isSl, AV.cells, AV.one, Cells.len, Cells.get, Cells.sub, Cells.part, Cells.agg, Cells.upd, Cells.set, Cells.cat, Cells.rep, Cells.ones, TDsc.agg, zOf, putE, dstB, letGo, quietOp, slotOp, pickA, true_or, or_true, List.append_eq, Int.cast_ofNat_Int, List.any_cons, List.any_nil, beq_iff_eq, Bool.decide_eq_true, Option.getD_some, Option.getD_none, Option.map_some, Option.map_none, Option.bind_some, Option.isSome_some, Option.isNone_some, Option.isNone_none, Option.isSome_none, ↓reduceIte, Nat.reduceEqDiff, Nat.reduceLT, Nat.reduceLeDiff, Nat.reduceAdd, Nat.reduceSub, Nat.reduceMul, Nat.reduceBEq, Int.reduceLE, Int.reduceLT, Int.reduceToNat, Int.reduceNeg, BitVec.reduceToNat, decide_true, decide_false, and_true, true_and, and_self, Bool.or_true, Bool.true_or, Bool.or_false, Bool.false_or, Bool.not_true, Bool.not_false, List.map_cons, List.map_nil, List.length_cons, List.length_nil, List.getElem?_toArray, List.getElem?_cons_zero, List.getElem?_cons_succ, List.getElem?_nil, forall_const, true_implies, reduceCtorEq, false_and, and_false, false_implies, implies_true, Bool.false_eq_true, Bool.true_eq_false, ne_eq, not_true, not_false_iff, Nat.sub_zero, Nat.zero_add, Nat.add_zero, List.drop_zero, List.drop_succ_cons, List.drop_nil, List.take_zero, List.take_succ_cons, List.take_nil, List.set_cons_zero, List.set_cons_succ, List.nil_append, List.cons_append, List.append_nil, List.replicate_zero, List.replicate_succ, BitVec.ofNat_eq_ofNat, Option.some.injEq, AV.int.injEq, AV.u64.injEq, AV.u32.injEq, AV.u8.injEq, AV.bool.injEq, AV.a64.injEq, AV.a32.injEq, AV.a8.injEq, Nat.zero_le, Int.toNat_natCast, m1, cWordN, cSub32, cAdd32, setA_setA, hs, hn, pickA, List.length_append, hAl, h1, h2]
      (try refine And.intro ⟨rfl, by omega⟩ ?_)
      refine loopU _ _ _ [0, 1, 2, 6, 11] [] nx (ι := {s : Nat × List U32 × U64 × U32 // TakeN xs ys q.toNat s}) (fun s => [(12, .int (s.1.1 : Int)), (7, .u64 s.1.2.2.1), (8, .u32 s.1.2.2.2)]) (fun s => setA mem l (.own g1 e (.c32 (A0 ++ (s.1.2.1 ++ Z0))))) (fun s => xs.length - s.1.1) ?_ ?_
      · refine LeJ.sameU ⟨(0, xs, 0, 0), taken_start xs ys q.toNat⟩ trivial (by dsimp only; rw [← hcut]; exact (setA_same h1).symm) ?_
        simp (maxSteps := 1000000) only [leS, leA, stU_env, stU_mem, pickA, getA, delA, setA, Cells.part, Cells.len, List.take_nil, List.drop_nil, List.length_nil, Nat.zero_add, ↓reduceIte, Nat.reduceEqDiff, Option.some.injEq, List.nil_append, List.cons_append, true_and, and_true, and_self, reduceCtorEq, AV.int.injEq, ME.own.injEq, ME.row.injEq, Cells.c32.injEq, Cells.c64.injEq, Cells.c8.injEq, AV.ptr.injEq, AV.ros.injEq, AV.grow.injEq, AV.u64.injEq, AV.u32.injEq]
        first | done | rfl | exact ⟨rfl, rfl⟩ | exact ⟨⟨rfl, rfl⟩, rfl⟩ | exact ⟨⟨rfl, rfl⟩, rfl, rfl⟩ | simp
      · rintro ⟨⟨i, p, c, b⟩, hI⟩
        obtain ⟨hi, hl, hc, hb, -⟩ := id hI
        dsimp only at hi hl hc
        simp (maxSteps := 10000000) (implicitDefEqProofs := false) only [↓both_true, ↓both_false, ↓entryVC, ↓vc_skip, ↓vc_draw, ↓vc_list, ↓vc_seq, ↓vc_seqn, ↓vc_seqe, ↓vc_seqr, ↓vc_cond, ↓condVC, ↓vc_block, ↓vc_blockn, ↓vc_blockr, ↓vc_blocke, ↓vc_loop, ↓vc_exit, ↓vc_ret, ↓vc_loopn, ↓vc_loope, ↓vc_loopr, ↓vcl_nil, ↓vcl_cons, ↓lw_eq, ↓listVC, ↓memK, ↓memR, ↓envOf, ↓guardVC, ↓opVC, ↓pureVC, ↓binT, ↓wrapT, ↓TDsc.isW, ↓binW, ↓binVC, ↓bin8, ↓bin32, ↓bin64, ↓binInt, ↓shVC, ↓unVC, ↓cvVC, ↓rdVC, ↓loadVC, ↓pickC, ↓fillVC, ↓bndVC, ↓sliceVC, ↓bltVC, ↓storeVC, ↓appVC, ↓apzVC, ↓markVC, ↓copyVC, ↓callVC, ↓argsVC, ↓argVC, ↓bindR, ↓bindR1, ↓bindRs, ↓retW_eq, ↓extW_eq, ↓rowW_eq, ↓aggW_eq, ↓plv_nil, ↓plv_tk, ↓plv_fz, ↓plv_ld, ↓pt_eq, ↓pz_eq, ↓pl_eq, ↓delAll, ↓keepM_nil, ↓keepM, ↓extE, ↓extM, ↓leS, ↓leA, ↓retVC, ↓retR, ↓resVC, ↓resV1, ↓ressVC, ↓strU, ↓xAdd64, ↓xSub64, ↓vc_jn, ↓vc_je, ↓vc_jr, ↓pickA, ↓stU_env, ↓stU_mem, frz, both_true, both_false, both_dec, both_ndec, ev, absC, getA, setA, delA, tt, AV.good, AV.plain, AV.isSl, AV.cells, AV.one, Cells.len, Cells.get, Cells.sub, Cells.part, Cells.agg, Cells.upd, Cells.set, Cells.cat, Cells.rep, Cells.ones, TDsc.agg, zOf, putE, dstB, letGo, quietOp, slotOp, pickA, true_or, or_true, List.append_eq, Int.cast_ofNat_Int, List.any_cons, List.any_nil, beq_iff_eq, Bool.decide_eq_true, Option.getD_some, Option.getD_none, Option.map_some, Option.map_none, Option.bind_some, Option.isSome_some, Option.isNone_some, Option.isNone_none, Option.isSome_none, ↓reduceIte, Nat.reduceEqDiff, Nat.reduceLT, Nat.reduceLeDiff, Nat.reduceAdd, Nat.reduceSub, Nat.reduceMul, Nat.reduceBEq, Int.reduceLE, Int.reduceLT, Int.reduceToNat, Int.reduceNeg, BitVec.reduceToNat, decide_true, decide_false, and_true, true_and, and_self, Bool.or_true, Bool.true_or, Bool.or_false, Bool.false_or, Bool.not_true, Bool.not_false, List.map_cons, List.map_nil, List.length_cons, List.length_nil, List.getElem?_toArray, List.getElem?_cons_zero, List.getElem?_cons_succ, List.getElem?_nil, forall_const, true_implies, reduceCtorEq, false_and, and_false, false_implies, implies_true, Bool.false_eq_true, Bool.true_eq_false, ne_eq, not_true, not_false_iff, Nat.sub_zero, Nat.zero_add, Nat.add_zero, List.drop_zero, List.drop_succ_cons, List.drop_nil, List.take_zero, List.take_succ_cons, List.take_nil, List.set_cons_zero, List.set_cons_succ, List.nil_append, List.cons_append, List.append_nil, List.replicate_zero, List.replicate_succ, BitVec.ofNat_eq_ofNat, Option.some.injEq, AV.int.injEq, AV.u64.injEq, AV.u32.injEq, AV.u8.injEq, AV.bool.injEq, AV.a64.injEq, AV.a32.injEq, AV.a8.injEq, Nat.zero_le, Int.toNat_natCast, m1, cWordN, cSub32, cAdd32, setA_setA, hs, hn, pickA, List.length_append, hAl]
        refine ⟨fun hlt => ?_, fun hge => ?_⟩
        · have hlt : i < xs.length := by omega
          have r1 := g32_mid (Z := Z0) hAl (show i < p.length by omega)
          have r2 := fun v => set_mid (Z := Z0) hAl (show i < p.length by omega) v
          simp only [r1, r2]
          repeat (refine And.intro (by first | omega | (simp only [intIn, intIn]; omega) | decide) ?_)
          intro s1 k1 hk1 hk2
          repeat (refine And.intro (by first | omega | (simp only [intIn, intIn]; omega) | decide) ?_)
          refine LeJ.sameU ⟨(i + 1, p.set i s1, _, k1), taken_step hq hlt hI hk1 hk2⟩ (by dsimp only; omega) rfl ?_
          simp (maxSteps := 1000000) only [leS, leA, stU_env, stU_mem, pickA, getA, delA, setA, Cells.part, Cells.len, List.take_nil, List.drop_nil, List.length_nil, Nat.zero_add, ↓reduceIte, Nat.reduceEqDiff, Option.some.injEq, List.nil_append, List.cons_append, true_and, and_true, and_self, reduceCtorEq, AV.int.injEq, ME.own.injEq, ME.row.injEq, Cells.c32.injEq, Cells.c64.injEq, Cells.c8.injEq, AV.ptr.injEq, AV.ros.injEq, AV.grow.injEq, AV.u64.injEq, AV.u32.injEq]
          first | done | rfl | omega | exact ⟨by omega, rfl⟩
        · obtain rfl : i = xs.length := by omega
          (try repeat (refine And.intro (by first | omega | (simp only [intIn, intIn]; omega) | decide) ?_))
          obtain ⟨f1, f2⟩ := taken_end (by omega) hqm hI
          simp only [f2, decide_not, Bool.not_not]
          exact h p hl f1
    · exact h.elim
  · exact h.elim
end Go.Proofs.Ytkpbjkhgiackpaa
