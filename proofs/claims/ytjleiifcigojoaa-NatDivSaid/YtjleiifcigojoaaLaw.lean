/- Words of this seat's laws: what comes in, opened; arrays that are asked whether they are the same. For any program. -/
import Derived.Test.YtjleiifcigojoaaRow
import Derived.ProofKit
import Derived.OpenShut
import Derived.ShutString
import Derived.ChangeOld
import Derived.Below
import Derived.Carry
namespace Go.Proofs.Ytjleiifcigojoaa
open Go.RowKit Go.ChangeShapes Go.WideShapes
section
variable {α : Type} [DecidableEq α] {P : Program} {f : α → Value} {k : IntKind} {j : α → Int}
theorem run_equalIn_arr (hf : ∀ x, f x = .int k (j x)) (hj : ∀ x y, j x = j y → x = y) (d t e n : Nat) (ht : P.underlying t = some (.array n e)) (hi : (P.info? e).map (·.size) = some 1) (hue : P.underlying e = some (.int k)) (xs ys : List α) (hx : xs.length = n) (hy : ys.length = n) (w : World) :
    (Op.equalIn (d + 2) t (.agg (xs.map f).toArray) (.agg (ys.map f).toArray)).run P w = .ok (decide (xs = ys)) w := by
  obtain ⟨ei, he1, he2⟩ := Option.map_eq_some_iff.1 hi
  have hint : ∀ x y, (Op.equalIn (d + 1) e (f x) (f y)).run P w = .ok (decide (x = y)) w := by
    intro x y
    rw [hf, hf, run_equalIn_int (h := hue)]
    congr 1
    by_cases h : x = y
    · simp [h]
    · simp [h]; exact fun h2 => h (hj _ _ h2)
  rw [Op.equalIn]
  simp only [Sem.run_bind, run_underlying ht, Result.andThen_ok, sizeOf, typeInfo, run_program, he1, he2, Sem.run_pure]
  simp only [Std.Legacy.Range.forIn_eq_forIn_range', Std.Legacy.Range.size, Nat.sub_zero, Nat.add_one_sub_one, Nat.div_one]
  have hpart : ∀ (zs : List α) (i : Nat) (h : i < zs.length), (part e (zs.map f).toArray (i * 1)).run P w = .ok (f zs[i]) w := by
    intro zs i h
    simp [part, isAgg, run_underlying hue, h]
  have loop : ∀ m i, i + m = n → Sem.run P (forIn (List.range' i m) ((none : Option Bool), ()) fun i __s => do
            let __do_lift ← part e (List.map f xs).toArray (i * 1)
            let __do_lift_1 ← part e (List.map f ys).toArray (i * 1)
            let __do_lift ← Op.equalIn (d + 1) e __do_lift __do_lift_1
            if (!__do_lift) = true then pure (ForInStep.done (some false, ())) else pure (ForInStep.yield (none, ()))) w
      = .ok ((if xs.drop i = ys.drop i then (none : Option Bool) else some false), ()) w := by
    intro m
    induction m with
    | zero =>
      intro i hi
      rw [List.drop_eq_nil_of_le (by omega), List.drop_eq_nil_of_le (by omega)]
      simp
    | succ m ih =>
      intro i hi
      have hxi : i < xs.length := by omega
      have hyi : i < ys.length := by omega
      rw [List.range'_succ, List.forIn_cons]
      simp only [Sem.run_bind, hpart xs i hxi, hpart ys i hyi, Result.andThen_ok, hint]
      rw [List.drop_eq_getElem_cons hxi, List.drop_eq_getElem_cons hyi]
      by_cases h : xs[i] = ys[i]
      · have h2 := ih (i + 1) (by omega)
        simp only [h, decide_true, Bool.not_true, Bool.false_eq_true, if_false, Sem.run_pure, Result.andThen_ok, List.cons.injEq, true_and]
        exact h2
      · simp only [h, decide_false, Bool.not_false, if_true, Sem.run_pure, Result.andThen_ok, List.cons.injEq, false_and, if_false]
  rw [loop n 0 (by omega)]
  simp only [Result.andThen_ok, List.drop_zero]
  by_cases h : xs = ys <;> simp [h]
theorem run_eqi_arr (hf : ∀ x, f x = .int k (j x)) (hj : ∀ x y, j x = j y → x = y) (t e n : Nat) (ht : P.underlying t = some (.array n e)) (hi : (P.info? e).map (·.size) = some 1) (hue : P.underlying e = some (.int k)) (xs ys : List α) (hx : xs.length = n) (hy : ys.length = n) (w : World) :
    (Op.equalIn 10000 t (.agg (xs.map f).toArray) (.agg (ys.map f).toArray)).run P w = .ok (decide (xs = ys)) w :=
  run_equalIn_arr hf hj 9998 t e n ht hi hue xs ys hx hy w
end
section
variable {P : Program} (t e n : Nat) (w : World)
theorem run_eqi8 (ht : P.underlying t = some (.array n e)) (hi : (P.info? e).map (·.size) = some 1) (hue : P.underlying e = some (.int .u8)) (xs ys : List U8) (hx : xs.length = n) (hy : ys.length = n) :
    (Op.equalIn 10000 t (.agg (cs8 xs)) (.agg (cs8 ys))).run P w = .ok (decide (xs = ys)) w := run_eqi_arr (fun _ => rfl) (fun _ _ => i8_inj.1) t e n ht hi hue xs ys hx hy w
theorem run_eqi32 (ht : P.underlying t = some (.array n e)) (hi : (P.info? e).map (·.size) = some 1) (hue : P.underlying e = some (.int .u32)) (xs ys : List U32) (hx : xs.length = n) (hy : ys.length = n) :
    (Op.equalIn 10000 t (.agg (cs32 xs)) (.agg (cs32 ys))).run P w = .ok (decide (xs = ys)) w := run_eqi_arr (fun _ => rfl) (fun _ _ => i32_inj.1) t e n ht hi hue xs ys hx hy w
theorem run_eqi64 (ht : P.underlying t = some (.array n e)) (hi : (P.info? e).map (·.size) = some 1) (hue : P.underlying e = some (.int .u64)) (xs ys : List U64) (hx : xs.length = n) (hy : ys.length = n) :
    (Op.equalIn 10000 t (.agg (cs64 xs)) (.agg (cs64 ys))).run P w = .ok (decide (xs = ys)) w := run_eqi_arr (fun _ => rfl) (fun _ _ => i64_inj.1) t e n ht hi hue xs ys hx hy w
end

/-- A region's question whether two arrays are the same. -/
theorem yieldsIf_eql {P : Program} {ops : Array Oper} {S : World → Prop} {op : Oper} {a : Act} (hw : Region.wanted op (yielded ops a.tmps) = true) (t t2 : TypeId) (x y : Operand) (ho : op.op = .binOp .eql t x y t2) (xs ys : Array Value) (hx : a.eval x = .agg xs) (hy : a.eval y = .agg ys)
    (hm : P.eqGuardType P.depth t = false) (b : Bool) (he : ∀ W, (Op.equalIn 10000 t (.agg xs) (.agg ys)).run P W = .ok b W) : YieldsIf P ops S op (.bool b) a :=
  .inl ⟨hw, fun w _ => by
    unfold execOp
    simp only [ho, hx, hy, Sem.run_bind, run_eqGuard_agg w _ _ _ _ _ _ hm, Result.andThen_ok, run_eql_struct, he, Sem.run_pure]⟩

theorem own_sl8 {W : World} {g : Nat} {t : TypeId} {xs : List U8} (h : Own W g t (cs8 xs)) (hl : xs.length ≤ 9223372036854775807) : Sl v8 W (some ⟨g, 0, none⟩) xs :=
  Sl.of_row hl fun i x hx => by rw [Nat.zero_add, h.cell]; simp [cs8, hx]
theorem i64_and_mask (n : Int) (m : Nat) (hm : m < 9223372036854775808) : ∃ r : Nat, r ≤ m ∧ bits .and .i64 n (m : Int) = (r : Int) := by
  refine ⟨(BitVec.ofInt 64 n).toNat &&& m, Nat.and_le_right, ?_⟩
  have h1 : (BitVec.ofInt 64 (m : Int)).toNat = m := by
    rw [BitVec.ofInt_natCast, BitVec.toNat_ofNat]; exact Nat.mod_eq_of_lt (by omega)
  have hx : (BitVec.ofInt 64 n).toNat &&& m ≤ m := Nat.and_le_right
  show IntKind.i64.wrap ((BitVec.ofInt 64 n &&& BitVec.ofInt 64 (m : Int)).toNat : Int) = _
  rw [BitVec.toNat_and, h1]
  exact IntWalk.i64_in _ (by omega)
/-- 'make([]byte, m)'. -/
theorem run_make8 {P : Program} (t e : TypeId) (ht : P.underlying t = some (.slice e)) (hinfo : (P.info? e).map (fun i => (i.zero, i.size, i.bytes)) = some (some (.int .u8 0), 1, 1)) (k k' : IntKind) (m : Nat) (hm : m ≤ 1000000) (w : World) :
    (Instr.makeSlice t (.int k (m : Int)) (.int k' (m : Int))).run P w = .ok (.slice (some ⟨w.heap.size, 0, none⟩) m m) (w.alloc (.cells (cs8 (z8 m)) e)) := by
  obtain ⟨i, hi, he⟩ := Option.map_eq_some_iff.1 hinfo
  simp only [Prod.mk.injEq] at he
  obtain ⟨hz, hs, hb⟩ := he
  rw [run_makeSlice w t e i _ ht hi hz k k' _ _ (by omega) (Int.le_refl _) (by rw [hs]; omega) (by rw [hb]; omega) (by omega)]
  rw [hs, Int.toNat_natCast, Nat.mul_one]
  congr 3
  apply Array.ext
  · simp [size_madeCells, cs8, z8]
  · intro j h1 h2
    simp [madeCells, cs8, z8, Value.cells, v8, i8, Nat.mod_one]
/-! ### Bytes as a string -/
def strF (bs : List U8) : ByteArray := strOfNums (bs.map i8)
theorem run_bytes_str {P : Program} {w : World} {A : Option Addr} {bs : List U8} (h : Sl v8 w A bs) (src dst e : TypeId) (c : Nat) (hs : P.underlying src = some (.slice e)) (he : P.underlying e = some (.int .u8)) (hd : P.underlying dst = some .string) :
    (convert src dst (.slice A bs.length c)).run P w = .ok (.string (strF bs)) w := by
  rcases Nat.eq_zero_or_pos bs.length with h0 | h0
  · obtain rfl := List.eq_nil_of_length_eq_zero h0
    cases A with
    | none => rw [run_convert_bytes_nil w src e hs he _ _ dst hd]; rfl
    | some a =>
      obtain ⟨b, o, s⟩ := a
      rw [run_convert_bytes_string w src dst e _ _ c hs he hd, run_bytesToString w _ _ c [] (by simpa using run_loadCells_list (P := P) w ⟨b, o, s⟩ [] (fun j v hj => by simp at hj))]
      rfl
  · obtain ⟨b, o, rfl, hc⟩ := h.all h0
    exact run_convert_bytes_arg w src e hs he b o bs.length c (bs.map i8) (by simp) (fun i hi => by rw [hc i _ (List.getElem?_eq_getElem hi)]; simp [v8, hi]) dst hd

/-! ### What comes in, opened -/
section
variable {H : Type} {enc : TypeId × Value → H} {P : Program} {w : World} {b0 base : Nat} {r : Reach} {spare : Nat → Bool} {held : Bool} {t e n : Nat} {v : Value} {d : DataW H} {ps : List MemPlace}
theorem of_wf8 {z : Int} (h : (Lit.int .u8 z).wf = true) : ∃ x : U8, z = i8 x := by
  have hb := bounds_u8 h
  exact ⟨BitVec.ofNat 8 z.toNat, by unfold i8; rw [BitVec.toNat_ofNat]; omega⟩
theorem of_wf32 {z : Int} (h : (Lit.int .u32 z).wf = true) : ∃ x : U32, z = i32 x := by
  have hb := bounds_u32 h
  exact ⟨BitVec.ofNat 32 z.toNat, by unfold i32; rw [BitVec.toNat_ofNat]; omega⟩
theorem of_wf64 {z : Int} (h : (Lit.int .u64 z).wf = true) : ∃ x : U64, z = i64 x := by
  have hb := bounds_u64 h
  exact ⟨BitVec.ofNat 64 z.toNat, by unfold i64; rw [BitVec.toNat_ofNat]; omega⟩
/-- A list of which each place is of a kind is a list of that kind. -/
theorem list_of {α β : Type} {f : α → β} (zs : List β) (h : ∀ z ∈ zs, ∃ x, z = f x) : ∃ xs : List α, zs = xs.map f := by
  induction zs with
  | nil => exact ⟨[], rfl⟩
  | cons z zs ih =>
    obtain ⟨x, rfl⟩ := h z (List.mem_cons_self ..)
    obtain ⟨xs, rfl⟩ := ih fun y hy => h y (List.mem_cons_of_mem _ hy)
    exact ⟨x :: xs, rfl⟩
theorem open_row {α : Type} {f : α → Value} {k : IntKind} {j : α → Int} (hf : ∀ x, f x = .int k (j x)) (hj : ∀ z, (Lit.int k z).wf = true → ∃ x, z = j x) (ht : P.underlying t = some (.slice e)) (he : P.underlying e = some (.int k)) (hc : P.cellsOf e = 1)
    (hval : Value.okWide P w r b0 t v) (hd : DataW.Trod enc P w base (fun _ => true) held t v d ps) : ∃ A xs c, v = .slice A xs.length c ∧ xs.length ≤ c ∧ c ≤ maxLen ∧ Sl f w A xs := by
  obtain ⟨a, len, cap, rfl⟩ := okWide_slice ht hval
  obtain ⟨fuel, hfu⟩ := hd
  rcases open_ints ht he hc hfu with ⟨hcs, _⟩ | ⟨x, l, c, zs, hcs, _, hl, hm, hz, _, hcell, hwz⟩
  · simp [Value.cells] at hcs
    obtain ⟨rfl, rfl, rfl⟩ := hcs
    exact ⟨none, [], 0, rfl, Nat.le_refl _, by unfold maxLen; omega, Sl.nil _ _⟩
  · simp [Value.cells] at hcs
    obtain ⟨rfl, rfl, rfl⟩ := hcs
    simp only [if_true] at hz
    obtain ⟨xs, hxs⟩ := list_of (f := j) zs fun z hz => hj z (hwz z hz)
    subst hxs
    have hxl : xs.length = cap := by simpa using hz
    have hlen : (xs.take len).length = len := by rw [List.length_take]; omega
    refine ⟨_, xs.take len, cap, by rw [hlen], by omega, hm, by unfold maxLen at hm; omega, fun i y hy => ?_⟩
    have hi : i < len := by rw [← hlen]; exact (List.getElem?_eq_some_iff.1 hy).1
    have hy' : xs[i]? = some y := by rw [List.getElem?_take, if_pos hi] at hy; exact hy
    have h0 := World.cell?_spot (hcell 0 (by simp; omega))
    obtain ⟨b, o, spot⟩ := x
    have hs : spot = none := by simpa [Addr.add] using h0
    subst hs
    refine ⟨b, o, rfl, ?_⟩
    have h1 := hcell i (by simp; omega)
    have ha : (⟨b, o, none⟩ : Addr).add i = ⟨b, o + i, none⟩ := by unfold Addr.add; split <;> simp_all
    rw [ha, List.getD_eq_getElem?_getD, List.getElem?_map, hy'] at h1
    rw [h1, hf]; rfl
theorem open_arr {α : Type} {f : α → Value} {k : IntKind} {j : α → Int} (hf : ∀ x, f x = .int k (j x)) (hj : ∀ z, (Lit.int k z).wf = true → ∃ x, z = j x) (ht : P.underlying t = some (.array n e)) (he : P.underlying e = some (.int k)) (hc : P.cellsOf e = 1) (hcn : P.cellsOf t = n)
    (hval : Value.okWide P w r b0 t v) (hd : DataW.Trod enc P w base spare held t v d ps) : ∃ xs : List α, v = .agg (xs.map f).toArray ∧ xs.length = n ∧ ps = [] := by
  simp only [Value.okWide, ht] at hval
  obtain ⟨cs, rfl, hsz, _⟩ := hval
  obtain ⟨fuel, hfu⟩ := hd
  obtain ⟨ys, m, _, hx, hl, hyl, hel⟩ := DataW.trod_array ht hfu
  rw [hc] at hel
  have each : ∀ i (h : i < cs.size), ∃ y ∈ ys[i]?, y.2 = [] ∧ ∃ x, cs[i] = f x := by
    intro i h
    have hi : i < n := by omega
    have h1 := hel i hi
    have h2 : (List.take 1 (List.drop (i * 1) (Value.agg cs).cells.toList)) = [cs[i]] := by
      rw [Nat.mul_one, show (Value.agg cs).cells = cs from rfl, List.drop_eq_getElem_cons (by simpa using h)]
      simp
    rw [h2, List.getElem?_eq_getElem (by omega)] at h1
    obtain ⟨z, hz1, hz2, hz3⟩ := DataW.trod_int he h1
    obtain ⟨x, rfl⟩ := hj z hz3
    refine ⟨ys[i], by simp, by rw [hz2], x, ?_⟩
    rw [hf]; simpa using hz1
  obtain ⟨xs, hxs⟩ := list_of (f := f) cs.toList fun z hz => by
    obtain ⟨i, hi, rfl⟩ := List.getElem_of_mem hz
    obtain ⟨_, _, _, x, h⟩ := each i (by simpa using hi)
    exact ⟨x, by simpa using h⟩
  refine ⟨xs, by rw [← hxs], ?_, ?_⟩
  · have := congrArg List.length hxs
    simp at this; omega
  · injection hx with _ h2
    rw [h2, List.flatMap_eq_nil_iff]
    intro y hy
    obtain ⟨i, hi, rfl⟩ := List.getElem_of_mem hy
    obtain ⟨y', hy', h, _⟩ := each i (by omega)
    rw [List.getElem?_eq_getElem hi] at hy'
    simp at hy'
    rw [hy']; exact h
end
end Go.Proofs.Ytjleiifcigojoaa
