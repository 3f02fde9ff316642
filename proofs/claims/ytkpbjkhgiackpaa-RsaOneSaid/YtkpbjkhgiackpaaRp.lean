/- Bytes over and over: Go's own function, by the engine. -/
import Derived.Test.YtkpbjkhgiackpaaN1r
import Derived.Lib.MakeNoZero
namespace Go.Proofs.Ytkpbjkhgiackpaa
open Go Go.RowKit
set_option linter.unusedVariables false
set_option linter.unusedSimpArgs false

/-- Bytes that are there already. -/
def mNoZero : MT := fun args mem nx K => match args with
  | [.int n] => (0 ≤ n ∧ n ≤ 100000) ∧ ∀ (g : Nat) (xs : List U8), n.toNat ≤ xs.length → xs.length ≤ 9223372036854775807 → K (.slc nx g 0 n.toNat xs.length) ((nx, .own g 5 (.c8 xs)) :: mem) (nx + 1)
  | _ => False
theorem digits_bytes : ∀ (n t : Nat) (acc : Array Value), ∃ xs : List U8, xs.length = n ∧ Extern.BytealgMakeNoZero.digits n t acc = acc ++ (xs.map v8).toArray
  | 0, t, acc => ⟨[], rfl, by simp [Extern.BytealgMakeNoZero.digits]⟩
  | n + 1, t, acc => by
    obtain ⟨xs, hl, he⟩ := digits_bytes n (t / 256) (acc.push (.int .u8 (Int.ofNat (t % 256))))
    refine ⟨BitVec.ofNat 8 (t % 256) :: xs, by simp [hl], ?_⟩
    rw [Extern.BytealgMakeNoZero.digits, he]
    have e : v8 (BitVec.ofNat 8 (t % 256)) = .int .u8 (Int.ofNat (t % 256)) := by
      simp [v8, i8]
    rw [List.map_cons, e, Array.push_eq_append, Array.append_assoc]
    congr 1
    simp
theorem run_noZero {P : Program} (w : World) (ps : Array TypeId) (t e : TypeId) (ht : P.underlying t = some (.slice e)) (n : Nat) (hn : n ≤ 281474976710656) :
    ∃ xs : List U8, (Extern.BytealgMakeNoZero.makeNoZero ps #[t] #[.int .i64 n]).run P w = .ok (.slice (some ⟨w.heap.size, 0, none⟩) n xs.length) (w.drew.drew.alloc (.cells (xs.map v8).toArray e)) ∧ n ≤ xs.length ∧ (n ≤ maxLen → xs.length ≤ maxLen) := by
  have hdef : Extern.BytealgMakeNoZero.makeNoZero ps #[t] #[.int .i64 n] =
      (do
        let .slice elem ← underlying t | stuck "bytealg.MakeNoZero: slice type expected"
        if (n : Int) < 0 || (n : Int) > 2 ^ 48 then runtimePanic (.error "makeslice: len out of range")
        let cap ← choose (.appendCap (n : Int).toNat 0 elem)
        askRoom cap
        let bytes ← choose (.extern "internal/bytealg.MakeNoZero.bytes" 0)
        let a ← newRow elem (Extern.BytealgMakeNoZero.digits cap bytes #[])
        pure (.slice (some a) (n : Int).toNat cap)) := rfl
  obtain ⟨xs, hl, hx⟩ := digits_bytes (grownCap w n 0 e) ((Question.extern "internal/bytealg.MakeNoZero.bytes" 0).cut (w.tape (w.drawn + 1) (.extern "internal/bytealg.MakeNoZero.bytes" 0))) #[]
  have hx2 : Extern.BytealgMakeNoZero.digits (grownCap w n 0 e) ((Question.extern "internal/bytealg.MakeNoZero.bytes" 0).cut (w.tape (w.drawn + 1) (.extern "internal/bytealg.MakeNoZero.bytes" 0))) #[] = (xs.map v8).toArray := by rw [hx]; simp
  refine ⟨xs, ?_, ?_, ?_⟩
  · rw [hdef, hl, ← hx2]
    have h1 : ¬ (n : Int) < 0 := by omega
    have h2 : ¬ (281474976710656 : Int) < (n : Int) := by omega
    simp [run_underlying ht, h1, h2, Question.forced, newRow, grownCap]
  · rw [hl]
    simpa using grownCap_ge w n 0 e
  · intro hm
    rw [hl]
    simpa using grownCap_le_maxLen w n 0 e hm
theorem run_extern2 {P : Program} {F : FuncId} {fn : Func} {e : Array Value → Sem Value} (hf : P.funcs[F]? = some fn) (hname : (fn.name == "runtime.NumGoroutine") = false) (hb : fn.body.isNone = true) (hn : Extern.findNext fn = none) (he : Extern.find fn = some e) (args : Array Value) (W : World) {W' : World} {v : Value} (hr : (e args).run P W = .ok v W') :
    (callFunc F args).run P W = .ok (.value v) W' := by
  unfold callFunc
  simp only [Sem.run_bind, run_program, Result.andThen_ok, hf, hname, Bool.false_eq_true, if_false, hb, if_true, mark, Sem.run, hn, he, Sem.run_pure, hr]
theorem mNoZero_ok : XMSound Try.prog 135 mNoZero := by
  intro pv w0 W args mem nx K h hM
  unfold mNoZero at h
  split at h
  · rename_i n
    obtain ⟨⟨h0, h1⟩, h⟩ := h
    obtain ⟨m, rfl⟩ : ∃ m : Nat, n = m := ⟨n.toNat, by omega⟩
    obtain ⟨xs, hr, hl, hcap⟩ := run_noZero (P := Try.prog) W #[3] 53 5 Try.underlying53 m (by omega)
    refine ⟨fun u hu => (by rw [List.mem_singleton.1 hu]; rfl), .slc nx W.heap.size 0 m xs.length, _, nx + 1, _, ?_, rfl, hM.drew.drew.alloc nx 5 (.c8 xs) rfl, h _ xs hl (by have := hcap (by simp only [maxLen]; omega); simpa [maxLen] using this)⟩
    exact run_extern2 Try.func135 (by decide) (by kernel_rfl) (by kernel_rfl) (e := Extern.BytealgMakeNoZero.makeNoZero #[3] #[53]) (by kernel_rfl) #[.int .i64 m] W hr
  · exact h.elim
def cRep : CT := fun cas K => match cas with
  | [.s (.c8 b), .v (.int n)] => (b.length = 1 ∧ 0 ≤ n ∧ n ≤ 8192) ∧ K (.one (.s (.c8 (List.replicate n.toNat (g8 b 0)))))
  | _ => False
/-- So many of them are there. -/
def RepI (x : U8) (n : Nat) (s : Nat × List U8) : Prop := 1 ≤ s.1 ∧ s.1 ≤ n ∧ n ≤ s.2.length ∧ ∀ j, j < s.1 → g8 s.2 j = x
theorem rep_step {x : U8} {n k : Nat} {p : List U8} (hk : k < n) (h : RepI x n (k, p)) : RepI x n (k + min k (n - k), p.take k ++ (p.take (min k (n - k))) ++ p.drop (k + min k (n - k))) := by
  obtain ⟨h1, h2, h3, h4⟩ := h
  dsimp only at h1 h2 h3 h4
  refine ⟨by dsimp only; omega, by dsimp only; omega, by simp only [List.length_append, List.length_take, List.length_drop]; omega, fun j hj => ?_⟩
  dsimp only at hj ⊢
  have hjl : j < p.length := by omega
  have hg : ∀ (l : List U8) (i : Nat), g8 l i = (l[i]?).getD 0 := fun l i => by simp [g8, List.getD_eq_getElem?_getD]
  simp only [hg] at h4 ⊢
  have hmn : min k (n - k) ≤ k ∧ min k (n - k) ≤ n - k := by omega
  by_cases e1 : j < k
  · rw [List.append_assoc, List.getElem?_append_left (by rw [List.length_take]; omega), List.getElem?_take_of_lt e1]
    exact h4 j e1
  · rw [List.append_assoc, List.getElem?_append_right (by rw [List.length_take]; omega), List.length_take, Nat.min_eq_left (show k ≤ p.length by omega), List.getElem?_append_left (by rw [List.length_take]; omega), List.getElem?_take_of_lt (by omega)]
    exact h4 _ (by omega)
theorem rep_end {x : U8} {n k : Nat} {p : List U8} (hk : n ≤ k) (h : RepI x n (k, p)) : p.take n = List.replicate n x := by
  obtain ⟨h1, h2, h3, h4⟩ := h
  dsimp only at h1 h2 h3 h4
  refine List.ext_getElem? fun j => ?_
  have hg : ∀ (l : List U8) (i : Nat), g8 l i = (l[i]?).getD 0 := fun l i => by simp [g8, List.getD_eq_getElem?_getD]
  rcases Nat.lt_or_ge j n with hj | hj
  · have := h4 j (by omega)
    rw [hg] at this
    have hjl : j < p.length := by omega
    rw [List.getElem?_eq_getElem hjl] at this
    rw [List.getElem?_take_of_lt hj, List.getElem?_eq_getElem hjl, List.getElem?_replicate_of_lt hj]
    simpa using this
  · rw [List.getElem?_eq_none (by rw [List.length_take]; omega), List.getElem?_eq_none (by simpa using hj)]
theorem prod_bound {x y a b : Nat} (hx : x ≤ a) (hy : y ≤ b) : x * y ≤ a * b := Nat.mul_le_mul hx hy
/-- A word's halves. -/
theorem mul_halves (x y : Nat) (hx : x < 18446744073709551616) (hy : y < 18446744073709551616) :
    let x0 := x % 4294967296; let x1 := x / 4294967296; let y0 := y % 4294967296; let y1 := y / 4294967296
    let w0 := x0 * y0; let t := x1 * y0 + w0 / 4294967296; let w1 := t % 4294967296 + x0 * y1
    x1 * y1 + t / 4294967296 + w1 / 4294967296 = x * y / 18446744073709551616 ∧ w0 < 18446744073709551616 ∧ t < 18446744073709551616 ∧ w1 < 18446744073709551616 ∧ x1 * y1 + t / 4294967296 + w1 / 4294967296 < 18446744073709551616 := by
  intro x0 x1 y0 y1 w0 t w1
  have e : x * y = w0 + 4294967296 * (x1 * y0) + 4294967296 * (x0 * y1) + 18446744073709551616 * (x1 * y1) := by
    have ex : x = x0 + 4294967296 * x1 := by simp only [x0, x1]; omega
    have ey : y = y0 + 4294967296 * y1 := by simp only [y0, y1]; omega
    rw [ex, ey, Nat.add_mul, Nat.mul_add, Nat.mul_add]
    simp only [w0, Nat.mul_assoc, Nat.mul_left_comm x0 4294967296, Nat.mul_left_comm x1 4294967296]
    omega
  have b0 : w0 ≤ 4294967295 * 4294967295 := prod_bound (by simp only [x0]; omega) (by simp only [y0]; omega)
  have b1 : x1 * y0 ≤ 4294967295 * 4294967295 := prod_bound (by simp only [x1]; omega) (by simp only [y0]; omega)
  have b2 : x0 * y1 ≤ 4294967295 * 4294967295 := prod_bound (by simp only [x0]; omega) (by simp only [y1]; omega)
  have b3 : x1 * y1 ≤ 4294967295 * 4294967295 := prod_bound (by simp only [x1]; omega) (by simp only [y1]; omega)
  simp only [w1, t]
  generalize w0 = A at *
  generalize x1 * y0 = B at *
  generalize x0 * y1 = C at *
  generalize x1 * y1 = D at *
  generalize x * y = E at *
  omega
theorem lo32 (x : U64) : (x &&& 4294967295#64).toNat = x.toNat % 4294967296 := by
  rw [BitVec.toNat_and]; exact Nat.and_two_pow_sub_one_eq_mod x.toNat 32
theorem hi32 (x : U64) : (x >>> 32).toNat = x.toNat / 4294967296 := by rw [BitVec.toNat_ushiftRight, Nat.shiftRight_eq_div_pow]
theorem mul64_hi (x y : U64) : x >>> 32 * y >>> 32 + (x >>> 32 * (y &&& 4294967295#64) + ((x &&& 4294967295#64) * (y &&& 4294967295#64)) >>> 32) >>> 32 + ((x >>> 32 * (y &&& 4294967295#64) + ((x &&& 4294967295#64) * (y &&& 4294967295#64)) >>> 32 &&& 4294967295#64) + (x &&& 4294967295#64) * y >>> 32) >>> 32 = BitVec.ofNat 64 (x.toNat * y.toNat / 2 ^ 64) := by
  obtain ⟨e, b1, b2, b3, b4⟩ := mul_halves x.toNat y.toNat x.isLt y.isLt
  apply BitVec.eq_of_toNat_eq
  simp only [BitVec.toNat_add, BitVec.toNat_mul, lo32, hi32, BitVec.toNat_ofNat]
  generalize x.toNat % 4294967296 * (y.toNat % 4294967296) = A at *
  generalize x.toNat / 4294967296 * (y.toNat % 4294967296) = B at *
  generalize x.toNat % 4294967296 * (y.toNat / 4294967296) = C at *
  generalize x.toNat / 4294967296 * (y.toNat / 4294967296) = D at *
  generalize x.toNat * y.toNat = E at *
  omega
def rpm : CTab := fun F => match F with
  | _ => .fn noCT
theorem rpm_ok : CTok Try.prog rpm := by
  intro F
  exact sound_none _ _
def cMul64 : CT := fun cas K => match cas with
  | [.v (.u64 x), .v (.u64 y)] => K (.tup [.v (.u64 (BitVec.ofNat 64 (x.toNat * y.toNat / 2 ^ 64))), .v (.u64 (x * y))])
  | _ => False
set_option maxRecDepth 100000 in
set_option maxHeartbeats 1000000 in
theorem sMul64 : Sound Try.prog 143 cMul64 := by
  refine sound_vc (tt := tt) (ct := rpm) ttok rpm_ok mixed Try.func143 rfl (by decide) (rs := [.tmp 4, .tmp 5]) rfl (ts := [37, 37]) (k := 0) ?_
  intro cas K h
  unfold cMul64 at h
  split at h
  · rename_i x y
    rw [Try.ntmps143]
    refine ⟨by simp, ?_⟩
    simp (maxSteps := 10000000) (implicitDefEqProofs := false) only [↓both_true, ↓both_false, ↓entryVC, ↓vc_skip, ↓vc_draw, ↓vc_list, ↓vc_seq, ↓vc_seqn, ↓vc_seqe, ↓vc_seqr, ↓vc_cond, ↓condVC, ↓vc_block, ↓vc_blockn, ↓vc_blockr, ↓vc_blocke, ↓vc_loop, ↓vc_exit, ↓vc_ret, ↓vc_loopn, ↓vc_loope, ↓vc_loopr, ↓vcl_nil, ↓vcl_cons, ↓lw_eq, ↓listVC, ↓memK, ↓memR, ↓envOf, ↓guardVC, ↓opVC, ↓pureVC, ↓binT, ↓wrapT, ↓TDsc.isW, ↓binW, ↓binVC, ↓bin8, ↓bin32, ↓bin64, ↓binInt, ↓shVC, ↓unVC, ↓cvVC, ↓rdVC, ↓loadVC, ↓pickC, ↓fillVC, ↓bndVC, ↓sliceVC, ↓bltVC, ↓storeVC, ↓appVC, ↓apzVC, ↓markVC, ↓copyVC, ↓callVC, ↓argsVC, ↓argVC, ↓bindR, ↓bindR1, ↓bindRs, ↓retW_eq, ↓extW_eq, ↓rowW_eq, ↓aggW_eq, ↓plv_nil, ↓plv_tk, ↓plv_fz, ↓plv_ld, ↓pt_eq, ↓pz_eq, ↓pl_eq, ↓delAll, ↓keepM_nil, ↓keepM, ↓extE, ↓extM, ↓leS, ↓leA, ↓retVC, ↓retR, ↓resVC, ↓resV1, ↓ressVC, ↓strU, ↓xAdd64, ↓xSub64, frz, frzs, both_true, both_false, both_dec, both_ndec, ev, absC, getA, setA, delA, tt, AV.good, AV.plain, AV.isSl, AV.cells, AV.one, Cells.len, Cells.get, Cells.sub, Cells.part, Cells.agg, Cells.upd, Cells.set, Cells.cat, Cells.rep, Cells.ones, TDsc.agg, zOf, putE, dstB, letGo, quietOp, slotOp, true_or, or_true, List.append_eq, Int.cast_ofNat_Int, List.any_cons, List.any_nil, beq_iff_eq, Bool.decide_eq_true, Option.getD_some, Option.getD_none, Option.map_some, Option.map_none, Option.bind_some, Option.isSome_some, Option.isNone_some, Option.isNone_none, Option.isSome_none, ↓reduceIte, Nat.reduceEqDiff, Nat.reduceLT, Nat.reduceLeDiff, Nat.reduceAdd, Nat.reduceSub, Nat.reduceMul, Nat.reduceBEq, Int.reduceLE, Int.reduceLT, Int.reduceToNat, Int.reduceNeg, BitVec.reduceToNat, decide_true, decide_false, and_true, true_and, and_self, Bool.or_true, Bool.true_or, Bool.or_false, Bool.false_or, Bool.not_true, Bool.not_false, List.map_cons, List.map_nil, List.length_cons, List.length_nil, List.getElem?_toArray, List.getElem?_cons_zero, List.getElem?_cons_succ, List.getElem?_nil, forall_const, true_implies, reduceCtorEq, false_and, and_false, false_implies, implies_true, Bool.false_eq_true, Bool.true_eq_false, ne_eq, not_true, not_false_iff, Nat.sub_zero, Nat.zero_add, Nat.add_zero, List.drop_zero, List.drop_succ_cons, List.drop_nil, List.take_zero, List.take_succ_cons, List.take_nil, List.set_cons_zero, List.set_cons_succ, List.nil_append, List.cons_append, List.append_nil, List.replicate_zero, List.replicate_succ, BitVec.ofNat_eq_ofNat, Option.some.injEq, AV.int.injEq, AV.u64.injEq, AV.u32.injEq, AV.u8.injEq, AV.bool.injEq, AV.a64.injEq, AV.a32.injEq, AV.a8.injEq, Nat.zero_le, Int.toNat_natCast, rpm]
    rw [mul64_hi]
    exact h
  · exact h.elim
def rp0 : CTab := fun F => match F with
  | 143 => .fn cMul64
  | _ => .fn noCT
theorem rp0_ok : CTok Try.prog rp0 := by
  intro F
  unfold rp0
  split
  · exact sMul64
  · exact sound_none _ _
set_option maxRecDepth 100000 in
set_option maxHeartbeats 1000000 in
theorem sMulB : Sound Try.prog 134 cMul64 := by
  refine sound_vc (tt := tt) (ct := rp0) ttok rp0_ok mixed Try.func134 rfl (by decide) (rs := [.tmp 4, .tmp 5]) rfl (ts := [90, 90]) (k := 0) ?_
  intro cas K h
  unfold cMul64 at h
  split at h
  · rename_i x y
    rw [Try.ntmps134]
    refine ⟨by simp, ?_⟩
    simp (maxSteps := 10000000) (implicitDefEqProofs := false) only [↓both_true, ↓both_false, ↓entryVC, ↓vc_skip, ↓vc_draw, ↓vc_list, ↓vc_seq, ↓vc_seqn, ↓vc_seqe, ↓vc_seqr, ↓vc_cond, ↓condVC, ↓vc_block, ↓vc_blockn, ↓vc_blockr, ↓vc_blocke, ↓vc_loop, ↓vc_exit, ↓vc_ret, ↓vc_loopn, ↓vc_loope, ↓vc_loopr, ↓vcl_nil, ↓vcl_cons, ↓lw_eq, ↓listVC, ↓memK, ↓memR, ↓envOf, ↓guardVC, ↓opVC, ↓pureVC, ↓binT, ↓wrapT, ↓TDsc.isW, ↓binW, ↓binVC, ↓bin8, ↓bin32, ↓bin64, ↓binInt, ↓shVC, ↓unVC, ↓cvVC, ↓rdVC, ↓loadVC, ↓pickC, ↓fillVC, ↓bndVC, ↓sliceVC, ↓bltVC, ↓storeVC, ↓appVC, ↓apzVC, ↓markVC, ↓copyVC, ↓callVC, ↓argsVC, ↓argVC, ↓bindR, ↓bindR1, ↓bindRs, ↓retW_eq, ↓extW_eq, ↓rowW_eq, ↓aggW_eq, ↓plv_nil, ↓plv_tk, ↓plv_fz, ↓plv_ld, ↓pt_eq, ↓pz_eq, ↓pl_eq, ↓delAll, ↓keepM_nil, ↓keepM, ↓extE, ↓extM, ↓leS, ↓leA, ↓retVC, ↓retR, ↓resVC, ↓resV1, ↓ressVC, ↓strU, ↓xAdd64, ↓xSub64, ↓vc_jn, ↓vc_je, ↓vc_jr, ↓pickA, ↓stU_env, ↓stU_mem, frz, frzs, both_true, both_false, both_dec, both_ndec, ev, absC, getA, setA, delA, tt, AV.good, AV.plain, AV.isSl, AV.cells, AV.one, Cells.len, Cells.get, Cells.sub, Cells.part, Cells.agg, Cells.upd, Cells.set, Cells.cat, Cells.rep, Cells.ones, TDsc.agg, zOf, putE, dstB, letGo, quietOp, slotOp, pickA, true_or, or_true, List.append_eq, Int.cast_ofNat_Int, List.any_cons, List.any_nil, beq_iff_eq, Bool.decide_eq_true, Option.getD_some, Option.getD_none, Option.map_some, Option.map_none, Option.bind_some, Option.isSome_some, Option.isNone_some, Option.isNone_none, Option.isSome_none, ↓reduceIte, Nat.reduceEqDiff, Nat.reduceLT, Nat.reduceLeDiff, Nat.reduceAdd, Nat.reduceSub, Nat.reduceMul, Nat.reduceBEq, Int.reduceLE, Int.reduceLT, Int.reduceToNat, Int.reduceNeg, BitVec.reduceToNat, decide_true, decide_false, and_true, true_and, and_self, Bool.or_true, Bool.true_or, Bool.or_false, Bool.false_or, Bool.not_true, Bool.not_false, List.map_cons, List.map_nil, List.length_cons, List.length_nil, List.getElem?_toArray, List.getElem?_cons_zero, List.getElem?_cons_succ, List.getElem?_nil, forall_const, true_implies, reduceCtorEq, false_and, and_false, false_implies, implies_true, Bool.false_eq_true, Bool.true_eq_false, ne_eq, not_true, not_false_iff, Nat.sub_zero, Nat.zero_add, Nat.add_zero, List.drop_zero, List.drop_succ_cons, List.drop_nil, List.take_zero, List.take_succ_cons, List.take_nil, List.set_cons_zero, List.set_cons_succ, List.nil_append, List.cons_append, List.append_nil, List.replicate_zero, List.replicate_succ, BitVec.ofNat_eq_ofNat, Option.some.injEq, AV.int.injEq, AV.u64.injEq, AV.u32.injEq, AV.u8.injEq, AV.bool.injEq, AV.a64.injEq, AV.a32.injEq, AV.a8.injEq, Nat.zero_le, Int.toNat_natCast, rp0, cMul64, List.getD_cons_zero, Int.reduceEq, Int.reduceNe]
    exact h
  · exact h.elim
def rp1 : CTab := fun F => match F with
  | 134 => .fn cMul64
  | 135 => .xmem mNoZero
  | _ => .fn noCT
theorem rp1_ok : CTok Try.prog rp1 := by
  intro F
  unfold rp1
  split
  · exact sMulB
  · exact mNoZero_ok
  · exact sound_none _ _
set_option maxRecDepth 100000 in
set_option maxHeartbeats 1000000 in
theorem sRepeat : Sound Try.prog 107 cRep := by
  refine sound_vc (tt := tt) (ct := rp1) ttok rp1_ok mixed Try.func107 rfl (by decide) (rs := [.tmp 4]) rfl (ts := [53]) (k := 0) ?_
  intro cas K h
  unfold cRep at h
  split at h
  · rename_i b n
    rw [Try.ntmps107]
    refine ⟨by simp, ?_⟩
    obtain ⟨⟨hb, hn0, hn⟩, h⟩ := h
    obtain ⟨m, rfl⟩ : ∃ m : Nat, n = m := ⟨n.toNat, by omega⟩
    have eo : (BitVec.ofInt 64 (m : Int) : U64).toNat = m := by rw [BitVec.ofInt_natCast, BitVec.toNat_ofNat]; omega
    have eq1 : (BitVec.ofInt 64 1 : U64).toNat = 1 := rfl
    have e1 : (BitVec.ofInt 64 1 * BitVec.ofInt 64 (m : Int) : U64).toNat = m := by rw [BitVec.toNat_mul, eo, eq1]; omega
    have e2 : (BitVec.ofNat 64 ((BitVec.ofInt 64 1 : U64).toNat * (BitVec.ofInt 64 (m : Int) : U64).toNat / 2 ^ 64) : U64).toNat = 0 := by rw [eo, eq1, BitVec.toNat_ofNat]; omega
    have c1 : ¬ (8192 : Int) < (m : Int) := by omega
    have c2 : ¬ 9223372036854775807 < m := by omega
    have c3 : ¬ (m : Int) < 0 := by omega
    have e0 : ((m : Int)).toNat = m := rfl
    rw [e0] at h
    by_cases hm0 : (m : Int) = 0
    · obtain rfl : m = 0 := by omega
      simp (maxSteps := 10000000) (implicitDefEqProofs := false) only [↓both_true, ↓both_false, ↓entryVC, ↓vc_skip, ↓vc_draw, ↓vc_list, ↓vc_seq, ↓vc_seqn, ↓vc_seqe, ↓vc_seqr, ↓vc_cond, ↓condVC, ↓vc_block, ↓vc_blockn, ↓vc_blockr, ↓vc_blocke, ↓vc_loop, ↓vc_exit, ↓vc_ret, ↓vc_loopn, ↓vc_loope, ↓vc_loopr, ↓vcl_nil, ↓vcl_cons, ↓lw_eq, ↓listVC, ↓memK, ↓memR, ↓envOf, ↓guardVC, ↓opVC, ↓pureVC, ↓binT, ↓wrapT, ↓TDsc.isW, ↓binW, ↓binVC, ↓bin8, ↓bin32, ↓bin64, ↓binInt, ↓shVC, ↓unVC, ↓cvVC, ↓rdVC, ↓loadVC, ↓pickC, ↓fillVC, ↓bndVC, ↓sliceVC, ↓bltVC, ↓storeVC, ↓appVC, ↓apzVC, ↓markVC, ↓copyVC, ↓callVC, ↓argsVC, ↓argVC, ↓bindR, ↓bindR1, ↓bindRs, ↓retW_eq, ↓extW_eq, ↓rowW_eq, ↓aggW_eq, ↓plv_nil, ↓plv_tk, ↓plv_fz, ↓plv_ld, ↓pt_eq, ↓pz_eq, ↓pl_eq, ↓delAll, ↓keepM_nil, ↓keepM, ↓extE, ↓extM, ↓leS, ↓leA, ↓retVC, ↓retR, ↓resVC, ↓resV1, ↓ressVC, ↓strU, ↓xAdd64, ↓xSub64, ↓vc_jn, ↓vc_je, ↓vc_jr, ↓pickA, ↓stU_env, ↓stU_mem, frz, frzs, both_true, both_false, both_dec, both_ndec, ev, absC, getA, setA, delA, tt, AV.good, AV.plain, AV.isSl, AV.cells, AV.one, Cells.len, Cells.get, Cells.sub, Cells.part, Cells.agg, Cells.upd, Cells.set, Cells.cat, Cells.rep, Cells.ones, TDsc.agg, zOf, putE, dstB, letGo, quietOp, slotOp, pickA, true_or, or_true, List.append_eq, Int.cast_ofNat_Int, List.any_cons, List.any_nil, beq_iff_eq, Bool.decide_eq_true, Option.getD_some, Option.getD_none, Option.map_some, Option.map_none, Option.bind_some, Option.isSome_some, Option.isNone_some, Option.isNone_none, Option.isSome_none, ↓reduceIte, Nat.reduceEqDiff, Nat.reduceLT, Nat.reduceLeDiff, Nat.reduceAdd, Nat.reduceSub, Nat.reduceMul, Nat.reduceBEq, Int.reduceLE, Int.reduceLT, Int.reduceToNat, Int.reduceNeg, BitVec.reduceToNat, decide_true, decide_false, and_true, true_and, and_self, Bool.or_true, Bool.true_or, Bool.or_false, Bool.false_or, Bool.not_true, Bool.not_false, List.map_cons, List.map_nil, List.length_cons, List.length_nil, List.getElem?_toArray, List.getElem?_cons_zero, List.getElem?_cons_succ, List.getElem?_nil, forall_const, true_implies, reduceCtorEq, false_and, and_false, false_implies, implies_true, Bool.false_eq_true, Bool.true_eq_false, ne_eq, not_true, not_false_iff, Nat.sub_zero, Nat.zero_add, Nat.add_zero, List.drop_zero, List.drop_succ_cons, List.drop_nil, List.take_zero, List.take_succ_cons, List.take_nil, List.set_cons_zero, List.set_cons_succ, List.nil_append, List.cons_append, List.append_nil, List.replicate_zero, List.replicate_succ, BitVec.ofNat_eq_ofNat, Option.some.injEq, AV.int.injEq, AV.u64.injEq, AV.u32.injEq, AV.u8.injEq, AV.bool.injEq, AV.a64.injEq, AV.a32.injEq, AV.a8.injEq, Nat.zero_le, Int.toNat_natCast, rp1, cMul64, mNoZero, List.getD_cons_zero, Int.reduceEq, Int.reduceNe, hb]
      intros
      exact h
    simp (maxSteps := 10000000) (implicitDefEqProofs := false) only [↓both_true, ↓both_false, ↓entryVC, ↓vc_skip, ↓vc_draw, ↓vc_list, ↓vc_seq, ↓vc_seqn, ↓vc_seqe, ↓vc_seqr, ↓vc_cond, ↓condVC, ↓vc_block, ↓vc_blockn, ↓vc_blockr, ↓vc_blocke, ↓vc_loop, ↓vc_exit, ↓vc_ret, ↓vc_loopn, ↓vc_loope, ↓vc_loopr, ↓vcl_nil, ↓vcl_cons, ↓lw_eq, ↓listVC, ↓memK, ↓memR, ↓envOf, ↓guardVC, ↓opVC, ↓pureVC, ↓binT, ↓wrapT, ↓TDsc.isW, ↓binW, ↓binVC, ↓bin8, ↓bin32, ↓bin64, ↓binInt, ↓shVC, ↓unVC, ↓cvVC, ↓rdVC, ↓loadVC, ↓pickC, ↓fillVC, ↓bndVC, ↓sliceVC, ↓bltVC, ↓storeVC, ↓appVC, ↓apzVC, ↓markVC, ↓copyVC, ↓callVC, ↓argsVC, ↓argVC, ↓bindR, ↓bindR1, ↓bindRs, ↓retW_eq, ↓extW_eq, ↓rowW_eq, ↓aggW_eq, ↓plv_nil, ↓plv_tk, ↓plv_fz, ↓plv_ld, ↓pt_eq, ↓pz_eq, ↓pl_eq, ↓delAll, ↓keepM_nil, ↓keepM, ↓extE, ↓extM, ↓leS, ↓leA, ↓retVC, ↓retR, ↓resVC, ↓resV1, ↓ressVC, ↓strU, ↓xAdd64, ↓xSub64, ↓vc_jn, ↓vc_je, ↓vc_jr, ↓pickA, ↓stU_env, ↓stU_mem, frz, frzs, both_true, both_false, both_dec, both_ndec, ev, absC, getA, setA, delA, tt, AV.good, AV.plain, AV.isSl, AV.cells, AV.one, Cells.len, Cells.get, Cells.sub, Cells.part, Cells.agg, Cells.upd, Cells.set, Cells.cat, Cells.rep, Cells.ones, TDsc.agg, zOf, putE, dstB, letGo, quietOp, slotOp, pickA, true_or, or_true, List.append_eq, Int.cast_ofNat_Int, List.any_cons, List.any_nil, beq_iff_eq, Bool.decide_eq_true, Option.getD_some, Option.getD_none, Option.map_some, Option.map_none, Option.bind_some, Option.isSome_some, Option.isNone_some, Option.isNone_none, Option.isSome_none, ↓reduceIte, Nat.reduceEqDiff, Nat.reduceLT, Nat.reduceLeDiff, Nat.reduceAdd, Nat.reduceSub, Nat.reduceMul, Nat.reduceBEq, Int.reduceLE, Int.reduceLT, Int.reduceToNat, Int.reduceNeg, BitVec.reduceToNat, decide_true, decide_false, and_true, true_and, and_self, Bool.or_true, Bool.true_or, Bool.or_false, Bool.false_or, Bool.not_true, Bool.not_false, List.map_cons, List.map_nil, List.length_cons, List.length_nil, List.getElem?_toArray, List.getElem?_cons_zero, List.getElem?_cons_succ, List.getElem?_nil, forall_const, true_implies, reduceCtorEq, false_and, and_false, false_implies, implies_true, Bool.false_eq_true, Bool.true_eq_false, ne_eq, not_true, not_false_iff, Nat.sub_zero, Nat.zero_add, Nat.add_zero, List.drop_zero, List.drop_succ_cons, List.drop_nil, List.take_zero, List.take_succ_cons, List.take_nil, List.set_cons_zero, List.set_cons_succ, List.nil_append, List.cons_append, List.append_nil, List.replicate_zero, List.replicate_succ, BitVec.ofNat_eq_ofNat, Option.some.injEq, AV.int.injEq, AV.u64.injEq, AV.u32.injEq, AV.u8.injEq, AV.bool.injEq, AV.a64.injEq, AV.a32.injEq, AV.a8.injEq, Nat.zero_le, Int.toNat_natCast, rp1, cMul64, mNoZero, List.getD_cons_zero, Int.reduceEq, Int.reduceNe, hb, e1, e2, hm0, c1, c2, c3, Nat.lt_irrefl, e0]
    intro A c hc
    refine ⟨by omega, ⟨by omega, by omega⟩, fun g xs hxl hxm => ⟨by omega, by omega, ⟨Nat.le_refl _, hxl⟩, hxl, ?_⟩⟩
    have hmin : min 1 m = 1 := by omega
    have hst : RepI (g8 b 0) m (1, List.take (min 1 m) b ++ List.drop (List.take (min 1 m) b).length xs) := by
      rw [hmin, List.take_of_length_le (by omega), hb]
      refine ⟨Nat.le_refl _, by dsimp only; omega, by simp only [List.length_append, List.length_drop]; omega, fun j hj => ?_⟩
      dsimp only at hj ⊢
      obtain rfl : j = 0 := by omega
      match b, hb with
      | [x], _ => rfl
    rw [hmin] at hst ⊢
    refine loopU _ _ _ [7, 8, 9] [] 100 (ι := {s : Nat × List U8 // RepI (g8 b 0) m s ∧ s.2.length ≤ 9223372036854775807}) (fun s => [(10, .int (s.1.1 : Int))]) (fun s => [(2, .own g 5 (.c8 s.1.2))]) (fun s => m - s.1.1) ?_ ?_
    · refine LeJ.mk ⟨(1, _), hst, ?_⟩ trivial ?_
      · simp only [List.length_append, List.length_drop, List.length_take]; omega
      · simp (maxSteps := 1000000) only [leS, leA, stU_env, stU_mem, pickA, getA, delA, setA, Cells.part, Cells.len, List.take_nil, List.drop_nil, List.length_nil, Nat.zero_add, ↓reduceIte, Nat.reduceEqDiff, Option.some.injEq, List.nil_append, List.cons_append, true_and, and_true, and_self, reduceCtorEq, AV.int.injEq, ME.own.injEq, ME.row.injEq, Cells.c32.injEq, Cells.c64.injEq, Cells.c8.injEq, AV.ptr.injEq, AV.ros.injEq, AV.grow.injEq, AV.u64.injEq, AV.u32.injEq]
        first | done | rfl | trivial | omega | exact ⟨rfl, rfl⟩
    · rintro ⟨⟨k, p⟩, hI, hpl⟩
      obtain ⟨hk1, hkm, hml, -⟩ := id hI
      dsimp only at hk1 hkm hml hpl
      simp (maxSteps := 10000000) (implicitDefEqProofs := false) only [↓both_true, ↓both_false, ↓entryVC, ↓vc_skip, ↓vc_draw, ↓vc_list, ↓vc_seq, ↓vc_seqn, ↓vc_seqe, ↓vc_seqr, ↓vc_cond, ↓condVC, ↓vc_block, ↓vc_blockn, ↓vc_blockr, ↓vc_blocke, ↓vc_loop, ↓vc_exit, ↓vc_ret, ↓vc_loopn, ↓vc_loope, ↓vc_loopr, ↓vcl_nil, ↓vcl_cons, ↓lw_eq, ↓listVC, ↓memK, ↓memR, ↓envOf, ↓guardVC, ↓opVC, ↓pureVC, ↓binT, ↓wrapT, ↓TDsc.isW, ↓binW, ↓binVC, ↓bin8, ↓bin32, ↓bin64, ↓binInt, ↓shVC, ↓unVC, ↓cvVC, ↓rdVC, ↓loadVC, ↓pickC, ↓fillVC, ↓bndVC, ↓sliceVC, ↓bltVC, ↓storeVC, ↓appVC, ↓apzVC, ↓markVC, ↓copyVC, ↓callVC, ↓argsVC, ↓argVC, ↓bindR, ↓bindR1, ↓bindRs, ↓retW_eq, ↓extW_eq, ↓rowW_eq, ↓aggW_eq, ↓plv_nil, ↓plv_tk, ↓plv_fz, ↓plv_ld, ↓pt_eq, ↓pz_eq, ↓pl_eq, ↓delAll, ↓keepM_nil, ↓keepM, ↓extE, ↓extM, ↓leS, ↓leA, ↓retVC, ↓retR, ↓resVC, ↓resV1, ↓ressVC, ↓strU, ↓xAdd64, ↓xSub64, ↓vc_jn, ↓vc_je, ↓vc_jr, ↓pickA, ↓stU_env, ↓stU_mem, frz, frzs, both_true, both_false, both_dec, both_ndec, ev, absC, getA, setA, delA, tt, AV.good, AV.plain, AV.isSl, AV.cells, AV.one, Cells.len, Cells.get, Cells.sub, Cells.part, Cells.agg, Cells.upd, Cells.set, Cells.cat, Cells.rep, Cells.ones, TDsc.agg, zOf, putE, dstB, letGo, quietOp, slotOp, pickA, true_or, or_true, List.append_eq, Int.cast_ofNat_Int, List.any_cons, List.any_nil, beq_iff_eq, Bool.decide_eq_true, Option.getD_some, Option.getD_none, Option.map_some, Option.map_none, Option.bind_some, Option.isSome_some, Option.isNone_some, Option.isNone_none, Option.isSome_none, ↓reduceIte, Nat.reduceEqDiff, Nat.reduceLT, Nat.reduceLeDiff, Nat.reduceAdd, Nat.reduceSub, Nat.reduceMul, Nat.reduceBEq, Int.reduceLE, Int.reduceLT, Int.reduceToNat, Int.reduceNeg, BitVec.reduceToNat, decide_true, decide_false, and_true, true_and, and_self, Bool.or_true, Bool.true_or, Bool.or_false, Bool.false_or, Bool.not_true, Bool.not_false, List.map_cons, List.map_nil, List.length_cons, List.length_nil, List.getElem?_toArray, List.getElem?_cons_zero, List.getElem?_cons_succ, List.getElem?_nil, forall_const, true_implies, reduceCtorEq, false_and, and_false, false_implies, implies_true, Bool.false_eq_true, Bool.true_eq_false, ne_eq, not_true, not_false_iff, Nat.sub_zero, Nat.zero_add, Nat.add_zero, List.drop_zero, List.drop_succ_cons, List.drop_nil, List.take_zero, List.take_succ_cons, List.take_nil, List.set_cons_zero, List.set_cons_succ, List.nil_append, List.cons_append, List.append_nil, List.replicate_zero, List.replicate_succ, BitVec.ofNat_eq_ofNat, Option.some.injEq, AV.int.injEq, AV.u64.injEq, AV.u32.injEq, AV.u8.injEq, AV.bool.injEq, AV.a64.injEq, AV.a32.injEq, AV.a8.injEq, Nat.zero_le, Int.toNat_natCast, rp1, cMul64, mNoZero, List.getD_cons_zero, Int.reduceEq, Int.reduceNe, e0]
      refine ⟨fun hlt => ?_, fun hge => ?_⟩
      · have hlt : k < m := by omega
        have hif : (if (m : Int) < (k : Int) then (m : Int) else (k : Int)) = (k : Int) := by rw [if_neg (by omega)]
        rw [hif]
        refine draw_ _ _ _ [(.fz, 0), (.fz, 1), (.fz, 2), (.fz, 4), (.fz, 5), (.tk, 3), (.tk, 6), (.ld, 7), (.fz, 8), (.fz, 9)] [] [] (by kernel_rfl) ?_
        simp (maxSteps := 10000000) (implicitDefEqProofs := false) only [↓both_true, ↓both_false, ↓entryVC, ↓vc_skip, ↓vc_draw, ↓vc_list, ↓vc_seq, ↓vc_seqn, ↓vc_seqe, ↓vc_seqr, ↓vc_cond, ↓condVC, ↓vc_block, ↓vc_blockn, ↓vc_blockr, ↓vc_blocke, ↓vc_loop, ↓vc_exit, ↓vc_ret, ↓vc_loopn, ↓vc_loope, ↓vc_loopr, ↓vcl_nil, ↓vcl_cons, ↓lw_eq, ↓listVC, ↓memK, ↓memR, ↓envOf, ↓guardVC, ↓opVC, ↓pureVC, ↓binT, ↓wrapT, ↓TDsc.isW, ↓binW, ↓binVC, ↓bin8, ↓bin32, ↓bin64, ↓binInt, ↓shVC, ↓unVC, ↓cvVC, ↓rdVC, ↓loadVC, ↓pickC, ↓fillVC, ↓bndVC, ↓sliceVC, ↓bltVC, ↓storeVC, ↓appVC, ↓apzVC, ↓markVC, ↓copyVC, ↓callVC, ↓argsVC, ↓argVC, ↓bindR, ↓bindR1, ↓bindRs, ↓retW_eq, ↓extW_eq, ↓rowW_eq, ↓aggW_eq, ↓plv_nil, ↓plv_tk, ↓plv_fz, ↓plv_ld, ↓pt_eq, ↓pz_eq, ↓pl_eq, ↓delAll, ↓keepM_nil, ↓keepM, ↓extE, ↓extM, ↓leS, ↓leA, ↓retVC, ↓retR, ↓resVC, ↓resV1, ↓ressVC, ↓strU, ↓xAdd64, ↓xSub64, ↓vc_jn, ↓vc_je, ↓vc_jr, ↓pickA, ↓stU_env, ↓stU_mem, frz, frzs, both_true, both_false, both_dec, both_ndec, ev, absC, getA, setA, delA, tt, AV.good, AV.plain, AV.isSl, AV.cells, AV.one, Cells.len, Cells.get, Cells.sub, Cells.part, Cells.agg, Cells.upd, Cells.set, Cells.cat, Cells.rep, Cells.ones, TDsc.agg, zOf, putE, dstB, letGo, quietOp, slotOp, pickA, true_or, or_true, List.append_eq, Int.cast_ofNat_Int, List.any_cons, List.any_nil, beq_iff_eq, Bool.decide_eq_true, Option.getD_some, Option.getD_none, Option.map_some, Option.map_none, Option.bind_some, Option.isSome_some, Option.isNone_some, Option.isNone_none, Option.isSome_none, ↓reduceIte, Nat.reduceEqDiff, Nat.reduceLT, Nat.reduceLeDiff, Nat.reduceAdd, Nat.reduceSub, Nat.reduceMul, Nat.reduceBEq, Int.reduceLE, Int.reduceLT, Int.reduceToNat, Int.reduceNeg, BitVec.reduceToNat, decide_true, decide_false, and_true, true_and, and_self, Bool.or_true, Bool.true_or, Bool.or_false, Bool.false_or, Bool.not_true, Bool.not_false, List.map_cons, List.map_nil, List.length_cons, List.length_nil, List.getElem?_toArray, List.getElem?_cons_zero, List.getElem?_cons_succ, List.getElem?_nil, forall_const, true_implies, reduceCtorEq, false_and, and_false, false_implies, implies_true, Bool.false_eq_true, Bool.true_eq_false, ne_eq, not_true, not_false_iff, Nat.sub_zero, Nat.zero_add, Nat.add_zero, List.drop_zero, List.drop_succ_cons, List.drop_nil, List.take_zero, List.take_succ_cons, List.take_nil, List.set_cons_zero, List.set_cons_succ, List.nil_append, List.cons_append, List.append_nil, List.replicate_zero, List.replicate_succ, BitVec.ofNat_eq_ofNat, Option.some.injEq, AV.int.injEq, AV.u64.injEq, AV.u32.injEq, AV.u8.injEq, AV.bool.injEq, AV.a64.injEq, AV.a32.injEq, AV.a8.injEq, Nat.zero_le, Int.toNat_natCast, rp1, List.getD_cons_zero, Int.reduceEq, Int.reduceNe, e0]
        have hl1 : (List.take k p).length = k := by rw [List.length_take]; omega
        have e3 : List.take (min k (m - k)) (List.take k p) = p.take (min k (m - k)) := by rw [List.take_take]; congr 1; omega
        have e4 : (p.take (min k (m - k))).length = min k (m - k) := by rw [List.length_take]; omega
        simp only [hl1, e3, e4]
        repeat (refine And.intro (by first | omega | (simp only [intIn]; omega) | decide) ?_)
        refine LeJ.mk ⟨(k + min k (m - k), _), rep_step hlt hI, ?_⟩ (by dsimp only; omega) ?_
        · simp only [List.length_append, List.length_take, List.length_drop]; omega
        · simp (maxSteps := 1000000) only [leS, leA, stU_env, stU_mem, pickA, getA, delA, setA, Cells.part, Cells.len, List.take_nil, List.drop_nil, List.length_nil, Nat.zero_add, ↓reduceIte, Nat.reduceEqDiff, Option.some.injEq, List.nil_append, List.cons_append, true_and, and_true, and_self, reduceCtorEq, AV.int.injEq, ME.own.injEq, ME.row.injEq, Cells.c32.injEq, Cells.c64.injEq, Cells.c8.injEq, AV.ptr.injEq, AV.ros.injEq, AV.grow.injEq, AV.u64.injEq, AV.u32.injEq]
          first | done | rfl | trivial | omega | exact ⟨rfl, rfl⟩
      · refine ⟨⟨hml, Nat.le_refl _, hpl⟩, ?_⟩
        rw [rep_end (by omega) hI]
        exact h
  · exact h.elim
end Go.Proofs.Ytkpbjkhgiackpaa
