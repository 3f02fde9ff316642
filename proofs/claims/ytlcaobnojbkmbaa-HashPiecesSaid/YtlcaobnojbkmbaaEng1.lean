/- The engine, part 1: what is owed for code, told without a world. For any program. -/
import Derived.OrdersHeld
import Derived.StillTail
import Derived.Deep.RegionHeld
import Derived.WalkKit
import Derived.WalkLawsBesides
import Derived.WalkSpells
import Derived.Lib.Hide
import Derived.Deep.RegionHeld3
import Derived.Deep.QuietTactic
import Derived.BigQuiet
import Derived.Maps.AppendAt
import Derived.Laws.CopyOwn
import Derived.Deep.AppendLies
import Derived.Deep.MidRow
import Derived.ProofKit
import Derived.OpenShut
import Derived.ShutString
import Derived.ChangeOld
import Derived.Below
import Derived.Carry
/- A region whose order Go leaves open, carried out in a planned order: a head of operations (loads and reckonings taken as soon as they may come up, the others where they alone may come up), and a tail that waits for all of the head. For any program. -/
namespace Go.Proofs.Ytlcaobnojbkmbaa
open Go
section
variable {P : Program} {ops : Array Oper} {Q : Exit → Act → World → Prop} {md : Region.Mode} {S : World → Prop}

/-- Whatever order is picked: 'f' operations of the head are still to come; S holds behind each; then the tail, in the text's order. -/
def wpAnyT (P : Program) (md : Region.Mode) (ops : Array Oper) (Q : Exit → Act → World → Prop) (S : World → Prop) (n : Nat) : Nat → Array Bool → Act → World → Prop
  | 0, listed, a, w => Region.seqB md ops (ops.size - n) n listed = true ∧ wpList P ops Q (ops.toList.drop n) a w
  | f + 1, listed, a, w => Region.ready md ops listed ≠ [] ∧ ∀ i ∈ Region.ready md ops listed, i < n ∧ wpOp P ops Q i (fun a' w' => S w' ∧ wpAnyT P md ops Q S n f (listed.setIfInBounds i true) a' w') a w

theorem wpAny_of_T {n : Nat} : ∀ (f : Nat) (listed : Array Bool) (a : Act) (w : World), wpAnyT P md ops Q S n f listed a w → wpAny P md ops Q (f + (ops.size - n)) listed a w
  | 0, listed, a, w, h => by
    have hl : (ops.toList.drop n).length = ops.size - n := by simp
    have := wpAny_of_seq (md := md) (Q' := Q) (P := P) (ops := ops) (ops.toList.drop n) n listed a w (fun j => by simp [List.getElem?_drop]) (by rw [hl]; exact h.1) h.2
    rw [hl] at this
    rwa [Nat.zero_add]
  | f + 1, listed, a, w, h => by
    rw [show f + 1 + (ops.size - n) = (f + (ops.size - n)) + 1 by omega]
    exact ⟨fun h0 => absurd h0 h.1, fun i hi => wpOp_mono (fun a' w' h' => wpAny_of_T f _ a' w' h'.2) (h.2 i hi).2⟩

/-- The tail waits for all of the head; or there is none. -/
def Region.restB (md : Region.Mode) (ops : Array Oper) (n : Nat) : Bool :=
  decide (ops.size ≤ n) || (Region.sinkB md ops n && Region.chainB md ops n)
theorem rest_waits {n i : Nat} {listed : Array Bool} (hs : Region.restB md ops n = true) (inv : HeadInv md ops n listed) (hin : i < n) (hun : listed.getD i true = false) :
    ∀ j ∈ Region.ready md ops listed, j < n := by
  intro j hj
  rcases Nat.lt_or_ge j n with h | h
  · exact h
  · obtain ⟨_, oj, hoj, _⟩ := mem_ready.1 hj
    have hlt : j < ops.size := (Array.getElem?_eq_some_iff.1 hoj).1
    simp only [Region.restB, Bool.or_eq_true, decide_eq_true_eq, Bool.and_eq_true] at hs
    rcases hs with hs | ⟨hs, hc⟩
    · omega
    · exact absurd hj (tail_waits hs hc (by omega) inv _ i rfl hin hun j h)

theorem wpAnyT_first {n i : Nat} {oi : Oper} {v : Value} (hi : ops[i]? = some oi) (hsel : ∀ (j : Nat) (o : Oper) cs b, ops[j]? = some o → o.op ≠ .select cs b)
    (hs : Region.restB md ops n = true) (hin : i < n) (hQ : ∀ c a w, Q (.panic c) (a.put oi.dst v) w → Q (.panic c) a w) :
    ∀ (f : Nat) (listed : Array Bool) (a : Act) (w : World), HeadInv md ops n listed →
      (∀ j oj, ops[j]? = some oj → j ≠ i → listed.getD j true = false → (∀ e ∈ oj.after, Region.binds md e = true → e.on ≠ i) → oi.apart ops oj = true) →
      i ∈ Region.ready md ops listed → YieldsIf P ops S oi v a → S w →
      wpAnyT P md ops Q S n f (listed.setIfInBounds i true) (a.put oi.dst v) w → wpAnyT P md ops Q S n (f + 1) listed a w := by
  intro f
  induction f with
  | zero =>
    intro listed a w inv _ hr hy hS H
    have hun := (mem_ready.1 hr).1
    refine ⟨fun h => (by rw [h] at hr; cases hr), fun j hj => ⟨rest_waits hs inv hin hun j hj, ?_⟩⟩
    by_cases hji : j = i
    · subst hji; exact hy.wpOp hi hS ⟨hS, H⟩
    · have h1 := seqB_ready H.1 j (ready_mono hj hji)
      have := rest_waits hs inv hin hun j hj
      omega
  | succ f ih =>
    intro listed a w inv hfree hr hy hS H
    have hun := (mem_ready.1 hr).1
    refine ⟨fun h => (by rw [h] at hr; cases hr), fun j hj => ?_⟩
    have hjn := rest_waits hs inv hin hun j hj
    refine ⟨hjn, ?_⟩
    by_cases hji : j = i
    · subst hji; exact hy.wpOp hi hS ⟨hS, H⟩
    · have h1 := (H.2 j (ready_mono hj hji)).2
      obtain ⟨hjun, oj, hoj, hall⟩ := mem_ready.1 hj
      have hnot : ∀ e ∈ oj.after, Region.binds md e = true → e.on ≠ i := fun e he hb heq => by
        have h1 := hall e he hb
        rw [heq, getD_both hun] at h1
        cases h1
      have h2 := wpOp_putIf hoj (hfree j oj hoj hji hjun hnot) (fun cs b => hsel i oi cs b hi) (fun cs b => hsel j oj cs b hoj) hQ hy h1
      have hfree' : ∀ k ok, ops[k]? = some ok → k ≠ i → (listed.setIfInBounds j true).getD k true = false →
          (∀ e ∈ ok.after, Region.binds md e = true → e.on ≠ i) → oi.apart ops ok = true := fun k ok hk hki hun hno => by
        refine hfree k ok hk hki ?_ hno
        by_cases hjk : j = k
        · subst hjk; exact hjun
        · rw [getD_set_ne true hjk] at hun; exact hun
      refine wpOp_mono (fun a' w' h3 => ⟨h3.2.1, ih (listed.setIfInBounds j true) a' w' (inv.set hj hjn) hfree' (ready_mono hr (Ne.symm hji)) h3.1 h3.2.1 ?_⟩) h2
      rw [Array.setIfInBounds_comm _ _ hji]
      exact h3.2.2

/-- May the plan be carried out? 'true': taken; 'false': it alone may come up. -/
def Region.planB (md : Region.Mode) (ops : Array Oper) (n : Nat) : List (Bool × Nat) → Array Bool → Bool
  | [], listed => Region.seqB md ops (ops.size - n) n listed
  | (true, i) :: r, listed => decide (i < n) && (Region.ready md ops listed).contains i && Region.free md ops listed i && Region.planB md ops n r (listed.setIfInBounds i true)
  | (false, i) :: r, listed => decide (i < n) && decide (Region.ready md ops listed = [i]) && Region.planB md ops n r (listed.setIfInBounds i true)

/-- What is owed along the plan. -/
def wpPlan (P : Program) (ops : Array Oper) (Q : Exit → Act → World → Prop) (S : World → Prop) (n : Nat) : List (Bool × Nat) → Act → World → Prop
  | [], a, w => wpList P ops Q (ops.toList.drop n) a w
  | (true, i) :: r, a, w => ∃ v, YieldsIf P ops S (ops.getD i default) v a ∧ wpPlan P ops Q S n r (a.put (ops.getD i default).dst v) w
  | (false, i) :: r, a, w => wpList P ops (Exit.then (fun a' w' => S w' ∧ wpPlan P ops Q S n r a' w') Q) [ops.getD i default] a w

theorem wpOp_of_list {i : Nat} {o : Oper} (hi : ops[i]? = some o) {K : Act → World → Prop} {a : Act} {w : World}
    (hQ : ∀ c a w, Exit.then K Q (.panic c) a w → Q (.panic c) a w) (hO : LetsOut (Exit.then K Q) → LetsOut Q) (h : wpList P ops (Exit.then K Q) [o] a w) : wpOp P ops Q i K a w := by
  unfold wpOp
  simp only [hi]
  unfold wpList at h
  have hk : ∀ a w, wpList P ops (Exit.then K Q) [] a w → K a w := fun a w h => h
  split
  · rename_i hw
    rw [if_pos hw] at h
    rcases h with h | ⟨h1, h2⟩
    · refine .inl ?_
      have h' := Oper.wp_mono hk h
      unfold Oper.wp at *
      generalize (execOp a.eval o).run P w = r at *
      cases r with
      | ok x w' =>
        cases x <;> simp only [Oper.upon] at h' ⊢
        case value => exact h'
        case skip => exact h'
        case defer => exact h'
        case enter f args => exact Calls.mono h' (fun e w'' he => by cases e <;> first | exact he | exact hQ _ _ _ he | exact hO he)
        case row => exact h'
      | halt x w' =>
        cases x <;> simp only [Oper.upon] at h' ⊢
        case panic => exact hQ _ _ _ h'
    · exact .inr ⟨h1, hO h2⟩
  · rename_i hw
    rw [if_neg hw] at h
    exact hk _ _ h

theorem wpAnyT_of_plan {n : Nat} (hsel : Region.noSelect ops = true) (hs : Region.restB md ops n = true) (hQ : ∀ c a d v w, Q (.panic c) (a.put d v) w → Q (.panic c) a w) :
    ∀ (plan : List (Bool × Nat)) (listed : Array Bool) (a : Act) (w : World), HeadInv md ops n listed → Region.planB md ops n plan listed = true → S w →
      wpPlan P ops Q S n plan a w → wpAnyT P md ops Q S n plan.length listed a w
  | [], listed, a, w, _, hB, _, h => ⟨hB, h⟩
  | (true, i) :: r, listed, a, w, inv, hB, hS, ⟨v, hy, h⟩ => by
    simp only [Region.planB, Bool.and_eq_true, decide_eq_true_eq] at hB
    obtain ⟨⟨⟨hin, hr⟩, hf⟩, hB'⟩ := hB
    have hr' : i ∈ Region.ready md ops listed := by simpa using hr
    obtain ⟨_, oi, hoi, _⟩ := mem_ready.1 hr'
    have hd : ops.getD i default = oi := by
      have := (Array.getElem?_eq_some_iff.1 hoi)
      obtain ⟨h1, h2⟩ := this
      simp [h1, h2]
    rw [hd] at hy h
    exact wpAnyT_first hoi (Region.noSelect_spec hsel) hs hin (fun c a w => hQ c a _ _ w) r.length listed a w inv (Region.free_spec hoi hf) hr' hy hS
      (wpAnyT_of_plan hsel hs hQ r _ _ _ (inv.set hr' hin) hB' hS h)
  | (false, i) :: r, listed, a, w, inv, hB, hS, h => by
    simp only [Region.planB, Bool.and_eq_true, decide_eq_true_eq] at hB
    obtain ⟨⟨hin, hr⟩, hB'⟩ := hB
    have hr' : i ∈ Region.ready md ops listed := by rw [hr]; simp
    obtain ⟨_, oi, hoi, _⟩ := mem_ready.1 hr'
    have hd : ops.getD i default = oi := by
      obtain ⟨h1, h2⟩ := (Array.getElem?_eq_some_iff.1 hoi)
      simp [h1, h2]
    simp only [wpPlan, hd] at h
    refine ⟨by rw [hr]; simp, fun j hj => ?_⟩
    rw [hr] at hj
    obtain rfl : j = i := by simpa using hj
    exact ⟨hin, wpOp_mono (fun a' w' h' => ⟨h'.1, wpAnyT_of_plan hsel hs hQ r _ a' w' (inv.set hr' hin) hB' h'.1 h'.2⟩)
      (wpOp_of_list hoi (fun _ _ _ h => h) (fun ⟨a, w, h⟩ => ⟨a, w, h⟩) h)⟩

/-- Everything of a plan that is closed, asked at once. -/
def Region.planned (md : Region.Mode) (ops : Array Oper) (n : Nat) (plan : List (Bool × Nat)) : Bool :=
  Region.noSelect ops && Region.restB md ops n && decide (plan.length = min n ops.size) && decide (n ≤ ops.size) && Region.planB md ops n plan (Array.replicate ops.size false)

theorem wp_region_plan {id : Nat} {l : List Oper} (n : Nat) (plan : List (Bool × Nat)) (S : World → Prop) {a : Act} {w : World} (hm : P.follows .mixedOrders = true)
    (hB : Region.planned .any l.toArray n plan = true) (hQ : ∀ c a d v w, Q (.panic c) (a.put d v) w → Q (.panic c) a w) (hS : S w.drew)
    (h : wpPlan P l.toArray Q S n plan a w.drew) : (Code.region id l.toArray true).wp P Q a w := by
  simp only [Region.planned, Bool.and_eq_true, decide_eq_true_eq] at hB
  obtain ⟨⟨⟨⟨hsel, hs⟩, hlen⟩, hn⟩, hplan⟩ := hB
  have inv0 : HeadInv .any l.toArray n (Array.replicate l.toArray.size false) :=
    ⟨by simp, fun j oj _ hl => (by rw [getD_replicate_false] at hl; cases hl), fun t _ ht => getD_in (by simpa using ht) (getD_replicate_false _ _)⟩
  have H := wpAny_of_T _ _ _ _ (wpAnyT_of_plan (md := .any) hsel hs hQ plan _ a w.drew inv0 hplan hS h)
  rw [show plan.length + (l.toArray.size - n) = l.toArray.size by omega] at H
  exact wp_region_any hm H

/-- The steps along a plan, each for 'refine': the operation comes written out. -/
theorem plan_take {n i : Nat} {dst : Option Tmp} {op : Op} {ty : TypeId} {pos : String} {after : Array Edge} {guard : Option (Nat × Bool)} {r : List (Bool × Nat)} {a : Act} {w : World} (v : Value) (ho : ops.getD i default = ⟨dst, op, ty, pos, after, guard⟩)
    (hy : YieldsIf P ops S ⟨dst, op, ty, pos, after, guard⟩ v a) (h : wpPlan P ops Q S n r (a.put dst v) w) : wpPlan P ops Q S n ((true, i) :: r) a w := by
  refine ⟨v, ?_, ?_⟩ <;> rw [ho]
  · exact hy
  · exact h
theorem plan_loud {n i : Nat} {dst : Option Tmp} {op : Op} {ty : TypeId} {pos : String} {after : Array Edge} {guard : Option (Nat × Bool)} {r : List (Bool × Nat)} {a : Act} {w : World} (ho : ops.getD i default = ⟨dst, op, ty, pos, after, guard⟩)
    (h : wpList P ops (Exit.then (fun a' w' => S w' ∧ wpPlan P ops Q S n r a' w') Q) [⟨dst, op, ty, pos, after, guard⟩] a w) : wpPlan P ops Q S n ((false, i) :: r) a w := by
  unfold wpPlan
  rw [ho]; exact h
theorem plan_done {n : Nat} {a : Act} {w : World} (hn : ops.size ≤ n) (h : Q .normal a w) : wpPlan P ops Q S n [] a w := by
  unfold wpPlan
  rw [List.drop_eq_nil_of_le (by simpa using hn)]
  exact h
theorem plan_tail {n : Nat} {l : List Oper} {a : Act} {w : World} (h : wpList P l.toArray Q (l.drop n) a w) : wpPlan P l.toArray Q S n [] a w := h
end
end Go.Proofs.Ytlcaobnojbkmbaa
/- Words of this seat's walks: whole numbers of 8, 32 and 64 bits as bit vectors; blocks of cells of the call's own; arrays. For any program. -/
namespace Go.Proofs.Ytlcaobnojbkmbaa
open Go.RowKit

/-! ### Numbers as bit vectors -/
abbrev U8 := BitVec 8
abbrev U32 := BitVec 32
abbrev U64 := BitVec 64
def i8 (x : U8) : Int := x.toNat
def i32 (x : U32) : Int := x.toNat
def i64 (x : U64) : Int := x.toNat
theorem i8_lo (x : U8) : 0 ≤ i8 x := Int.natCast_nonneg _
theorem i8_hi (x : U8) : i8 x < 256 := by have := x.isLt; unfold i8; omega
theorem i32_lo (x : U32) : 0 ≤ i32 x := Int.natCast_nonneg _
theorem i32_hi (x : U32) : i32 x < 4294967296 := by have := x.isLt; unfold i32; omega
theorem i64_lo (x : U64) : 0 ≤ i64 x := Int.natCast_nonneg _
theorem i64_hi (x : U64) : i64 x < 18446744073709551616 := by have := x.isLt; unfold i64; omega
theorem cast_pow (n : Nat) : ((2 : Int) ^ n) = ((2 ^ n : Nat) : Int) := by rw [Int.natCast_pow]; rfl
theorem i8_inj {x y : U8} : i8 x = i8 y ↔ x = y := by unfold i8; rw [Int.ofNat_inj]; exact BitVec.toNat_inj
theorem i32_inj {x y : U32} : i32 x = i32 y ↔ x = y := by unfold i32; rw [Int.ofNat_inj]; exact BitVec.toNat_inj
theorem i64_inj {x y : U64} : i64 x = i64 y ↔ x = y := by unfold i64; rw [Int.ofNat_inj]; exact BitVec.toNat_inj
theorem i32_or (x y : U32) : bits .or .u32 (i32 x) (i32 y) = i32 (x ||| y) := by
  unfold i32; rw [u32_or_nat _ _ x.isLt y.isLt]; simp
theorem i32_and (x y : U32) : bits .and .u32 (i32 x) (i32 y) = i32 (x &&& y) := by
  unfold i32; rw [u32_and_nat _ _ x.isLt y.isLt]; simp
theorem i32_xor (x y : U32) : bits .xor .u32 (i32 x) (i32 y) = i32 (x ^^^ y) := by
  unfold i32; rw [u32_xor_nat _ _ x.isLt y.isLt]; simp
theorem i64_or (x y : U64) : bits .or .u64 (i64 x) (i64 y) = i64 (x ||| y) := by
  unfold i64; rw [u64_or_nat _ _ x.isLt y.isLt]; simp
theorem i64_and (x y : U64) : bits .and .u64 (i64 x) (i64 y) = i64 (x &&& y) := by
  unfold i64; rw [u64_and_nat _ _ x.isLt y.isLt]; simp
theorem i64_xor (x y : U64) : bits .xor .u64 (i64 x) (i64 y) = i64 (x ^^^ y) := by
  unfold i64; rw [u64_xor_nat _ _ x.isLt y.isLt]; simp
theorem i32_wrap (x : U32) : IntKind.u32.wrap (i32 x) = i32 x := by
  rw [IntKind.wrap_u32']; exact Int.emod_eq_of_lt (i32_lo x) (i32_hi x)
theorem i64_wrap (x : U64) : IntKind.u64.wrap (i64 x) = i64 x := by
  rw [IntKind.wrap_u64]; exact Int.emod_eq_of_lt (i64_lo x) (i64_hi x)
theorem i32_add (x y : U32) : IntKind.u32.wrap (i32 x + i32 y) = i32 (x + y) := by
  unfold i32; rw [IntKind.wrap_u32', BitVec.toNat_add, ← Int.natCast_add]
  exact (Int.natCast_emod _ 4294967296).symm
theorem i64_add (x y : U64) : IntKind.u64.wrap (i64 x + i64 y) = i64 (x + y) := by
  unfold i64; rw [IntKind.wrap_u64, BitVec.toNat_add, ← Int.natCast_add]
  exact (Int.natCast_emod _ 18446744073709551616).symm
theorem i32_shl' (x : U32) (n : Nat) : IntKind.u32.wrap (i32 x * 2 ^ n) = i32 (x <<< n) := by
  unfold i32; rw [IntKind.wrap_u32', BitVec.toNat_shiftLeft, Nat.shiftLeft_eq, cast_pow, ← Int.natCast_mul]
  exact (Int.natCast_emod _ 4294967296).symm
theorem i32_shr' (x : U32) (n : Nat) : i32 x / 2 ^ n = i32 (x >>> n) := by
  unfold i32; rw [BitVec.toNat_ushiftRight, Nat.shiftRight_eq_div_pow, cast_pow, ← Int.natCast_ediv]
theorem i64_shl' (x : U64) (n : Nat) : IntKind.u64.wrap (i64 x * 2 ^ n) = i64 (x <<< n) := by
  unfold i64; rw [IntKind.wrap_u64, BitVec.toNat_shiftLeft, Nat.shiftLeft_eq, cast_pow, ← Int.natCast_mul]
  exact (Int.natCast_emod _ 18446744073709551616).symm
theorem i64_shr' (x : U64) (n : Nat) : i64 x / 2 ^ n = i64 (x >>> n) := by
  unfold i64; rw [BitVec.toNat_ushiftRight, Nat.shiftRight_eq_div_pow, cast_pow, ← Int.natCast_ediv]
theorem i32_of8 (x : U8) : IntKind.u32.wrap (i8 x) = i32 (x.setWidth 32) := by
  rw [IntKind.wrap_u32', Int.emod_eq_of_lt (i8_lo x) (by have := i8_hi x; omega)]
  have := x.isLt
  simp only [i8, i32, BitVec.toNat_setWidth]; omega
theorem i64_of8 (x : U8) : IntKind.u64.wrap (i8 x) = i64 (x.setWidth 64) := by
  rw [IntKind.wrap_u64, Int.emod_eq_of_lt (i8_lo x) (by have := i8_hi x; omega)]
  have := x.isLt
  simp only [i8, i64, BitVec.toNat_setWidth]; omega
theorem i64_of32 (x : U32) : IntKind.u64.wrap (i32 x) = i64 (x.setWidth 64) := by
  rw [IntKind.wrap_u64, Int.emod_eq_of_lt (i32_lo x) (by have := i32_hi x; omega)]
  have := x.isLt
  simp only [i32, i64, BitVec.toNat_setWidth]; omega
theorem i8_of32 (x : U32) : IntKind.u8.wrap (i32 x) = i8 (x.setWidth 8) := by
  rw [IntKind.wrap_u8']
  simp only [i32, i8, BitVec.toNat_setWidth]
  exact (Int.natCast_emod _ 256).symm
theorem i8_of64 (x : U64) : IntKind.u8.wrap (i64 x) = i8 (x.setWidth 8) := by
  rw [IntKind.wrap_u8']
  simp only [i64, i8, BitVec.toNat_setWidth]
  exact (Int.natCast_emod _ 256).symm
theorem i32_of64 (x : U64) : IntKind.u32.wrap (i64 x) = i32 (x.setWidth 32) := by
  rw [IntKind.wrap_u32']
  simp only [i64, i32, BitVec.toNat_setWidth]
  exact (Int.natCast_emod _ 4294967296).symm
theorem i32_shl (x : U32) (yk : IntKind) (m : Int) (h0 : 0 ≤ m) (h1 : m ≤ 32) : Op.shift .shl .u32 (i32 x) yk m = pure (.int .u32 (i32 (x <<< m.toNat))) := by
  rw [shift_shl _ _ _ _ h0 (by simpa [IntKind.bits] using h1), i32_shl']
theorem i32_shr (x : U32) (yk : IntKind) (m : Int) (h0 : 0 ≤ m) (h1 : m ≤ 32) : Op.shift .shr .u32 (i32 x) yk m = pure (.int .u32 (i32 (x >>> m.toNat))) := by
  rw [shift_shr _ _ _ _ h0 (by simpa [IntKind.bits] using h1), i32_shr']
theorem i64_shl (x : U64) (yk : IntKind) (m : Int) (h0 : 0 ≤ m) (h1 : m ≤ 64) : Op.shift .shl .u64 (i64 x) yk m = pure (.int .u64 (i64 (x <<< m.toNat))) := by
  rw [shift_shl _ _ _ _ h0 (by simpa [IntKind.bits] using h1), i64_shl']
theorem i64_shr (x : U64) (yk : IntKind) (m : Int) (h0 : 0 ≤ m) (h1 : m ≤ 64) : Op.shift .shr .u64 (i64 x) yk m = pure (.int .u64 (i64 (x >>> m.toNat))) := by
  rw [shift_shr _ _ _ _ h0 (by simpa [IntKind.bits] using h1), i64_shr']
theorem i32_shlm (x : U32) (n : Nat) : i32 x * 2 ^ n % 4294967296 = i32 (x <<< n) := by rw [← i32_shl', IntKind.wrap_u32']
theorem i64_shlm (x : U64) (n : Nat) : i64 x * 2 ^ n % 18446744073709551616 = i64 (x <<< n) := by rw [← i64_shl', IntKind.wrap_u64]
theorem i32_not (x : U32) : IntKind.u32.wrap (-1 - i32 x) = i32 (~~~x) := by
  have := x.isLt
  unfold i32; rw [IntKind.wrap_u32', BitVec.toNat_not]; omega
theorem i64_not (x : U64) : IntKind.u64.wrap (-1 - i64 x) = i64 (~~~x) := by
  have := x.isLt
  unfold i64; rw [IntKind.wrap_u64, BitVec.toNat_not]; omega

/-! ### Rows of numbers -/
def v8 (x : U8) : Value := .int .u8 (i8 x)
def v32 (x : U32) : Value := .int .u32 (i32 x)
def v64 (x : U64) : Value := .int .u64 (i64 x)
def cs8 (xs : List U8) : Array Value := (xs.map v8).toArray
def cs32 (xs : List U32) : Array Value := (xs.map v32).toArray
def cs64 (xs : List U64) : Array Value := (xs.map v64).toArray
def z8 (n : Nat) : List U8 := List.replicate n 0
def z32 (n : Nat) : List U32 := List.replicate n 0
def z64 (n : Nat) : List U64 := List.replicate n 0
def g8 (xs : List U8) (i : Nat) : U8 := xs.getD i 0
def g32 (xs : List U32) (i : Nat) : U32 := xs.getD i 0
def g64 (xs : List U64) (i : Nat) : U64 := xs.getD i 0
theorem cs8_size (xs : List U8) : (cs8 xs).size = xs.length := by simp [cs8]
theorem cs32_size (xs : List U32) : (cs32 xs).size = xs.length := by simp [cs32]
theorem cs64_size (xs : List U64) : (cs64 xs).size = xs.length := by simp [cs64]
theorem z8_length (n : Nat) : (z8 n).length = n := by simp [z8]
theorem z32_length (n : Nat) : (z32 n).length = n := by simp [z32]
theorem z64_length (n : Nat) : (z64 n).length = n := by simp [z64]
theorem cs8_one (xs : List U8) : (cs8 xs).all (·.oneCell') = true := by simp [cs8, v8, Value.oneCell']
theorem cs32_one (xs : List U32) : (cs32 xs).all (·.oneCell') = true := by simp [cs32, v32, Value.oneCell']
theorem cs64_one (xs : List U64) : (cs64 xs).all (·.oneCell') = true := by simp [cs64, v64, Value.oneCell']
theorem cs8_get (xs : List U8) (i : Nat) (h : i < xs.length) : (cs8 xs)[i]? = some (.int .u8 (i8 (g8 xs i))) := by simp [cs8, g8, h, v8]
theorem cs32_get (xs : List U32) (i : Nat) (h : i < xs.length) : (cs32 xs)[i]? = some (.int .u32 (i32 (g32 xs i))) := by simp [cs32, g32, h, v32]
theorem cs64_get (xs : List U64) (i : Nat) (h : i < xs.length) : (cs64 xs)[i]? = some (.int .u64 (i64 (g64 xs i))) := by simp [cs64, g64, h, v64]
theorem cs8_set (xs : List U8) (i : Nat) (x : U8) : (cs8 xs).setIfInBounds i (.int .u8 (i8 x)) = cs8 (xs.set i x) := by simp [cs8, List.map_set, v8]
theorem cs32_set (xs : List U32) (i : Nat) (x : U32) : (cs32 xs).setIfInBounds i (.int .u32 (i32 x)) = cs32 (xs.set i x) := by simp [cs32, List.map_set, v32]
theorem cs64_set (xs : List U64) (i : Nat) (x : U64) : (cs64 xs).setIfInBounds i (.int .u64 (i64 x)) = cs64 (xs.set i x) := by simp [cs64, List.map_set, v64]

theorem v8_shr64 (M : U64) (n : Nat) : v8 ((M >>> n).setWidth 8) = .int .u8 (i64 M / 2 ^ n % 256) := by
  rw [i64_shr', ← IntKind.wrap_u8', i8_of64]; rfl
theorem v8_shr32 (M : U32) (n : Nat) : v8 ((M >>> n).setWidth 8) = .int .u8 (i32 M / 2 ^ n % 256) := by
  rw [i32_shr', ← IntKind.wrap_u8', i8_of32]; rfl
/-! ### Blocks of the call's own -/
def Own (W : World) (g : Nat) (t : TypeId) (cs : Array Value) : Prop := W.heap[g]? = some (.cells cs t (0, 0))
section
variable {W W' : World} {g g' : Nat} {t : TypeId} {cs : Array Value}
theorem Own.lt (h : Own W g t cs) : g < W.heap.size := (Array.getElem?_eq_some_iff.1 h).1
theorem Own.cell (h : Own W g t cs) (i : Nat) : W.cell? ⟨g, i, none⟩ = cs[i]? := cell_of_row W g i cs t _ h
theorem Own.frozen (h : Own W g t cs) (i : Nat) : W.frozen? ⟨g, i, none⟩ = false := frozen_of_row W g i cs t h
theorem Own.alloc (h : Own W g t cs) (o : Obj) : Own (W.alloc o) g t cs := (Below.heap_alloc W o g h.lt).trans h
theorem Own.new (W : World) (t : TypeId) (cs : Array Value) : Own (W.alloc (.cells cs t)) W.heap.size t cs := Go.heap_alloc_new W _
theorem Own.new' {W : World} {t : TypeId} {cs : Array Value} {g : Nat} (h : g = W.heap.size) : Own (W.alloc (.cells cs t)) g t cs := by subst h; exact Own.new W t cs
theorem Own.newc {W : World} {t : TypeId} {cs cs' : Array Value} {g : Nat} (h : g = W.heap.size) (hc : cs' = cs) : Own (W.alloc (.cells cs' t)) g t cs := by subst h; subst hc; exact Own.new W t cs'
theorem Own.set (h : Own W g t cs) (i : Nat) (v : Value) : Own (W.setCell ⟨g, i, none⟩ v) g t (cs.setIfInBounds i v) := heap_setCell_same W g i cs t v h
theorem Own.set_ne (h : Own W g t cs) (hne : g ≠ g') (i : Nat) (v : Value) : Own (W.setCell ⟨g', i, none⟩ v) g t cs := (Below.heap_setCell W _ v g (by simpa using hne)).trans h
theorem Own.row (h : Own W g t cs) (cs' : Array Value) : Own (W.setRow g cs') g t cs' := setRow_heap W g cs cs' t _ h
theorem Own.row_ne (h : Own W g t cs) (hne : g ≠ g') (cs' : Array Value) : Own (W.setRow g' cs') g t cs := (setRow_other W g' g cs' hne).trans h
theorem Own.below (h : Own W g t cs) (hb : Below W.heap.size W W') : Own W' g t cs := (hb.block g h.lt).trans h
theorem Own.drewN (h : Own W g t cs) (n : Nat) : Own (W.drewN n) g t cs := h
theorem Own.drew (h : Own W g t cs) : Own W.drew g t cs := h
theorem Own.cell32 {xs : List U32} (h : Own W g t (cs32 xs)) (i : Nat) (hi : i < xs.length) : W.cell? ⟨g, i, none⟩ = some (.int .u32 (i32 (g32 xs i))) := by rw [h.cell, cs32_get _ _ hi]
theorem Own.cell64 {xs : List U64} (h : Own W g t (cs64 xs)) (i : Nat) (hi : i < xs.length) : W.cell? ⟨g, i, none⟩ = some (.int .u64 (i64 (g64 xs i))) := by rw [h.cell, cs64_get _ _ hi]
theorem Own.cell8 {xs : List U8} (h : Own W g t (cs8 xs)) (i : Nat) (hi : i < xs.length) : W.cell? ⟨g, i, none⟩ = some (.int .u8 (i8 (g8 xs i))) := by rw [h.cell, cs8_get _ _ hi]
theorem Own.set32 {xs : List U32} (h : Own W g t (cs32 xs)) (i : Nat) (x : U32) : Own (W.setCell ⟨g, i, none⟩ (.int .u32 (i32 x))) g t (cs32 (xs.set i x)) := by have := h.set i (.int .u32 (i32 x)); rwa [cs32_set] at this
theorem Own.set64 {xs : List U64} (h : Own W g t (cs64 xs)) (i : Nat) (x : U64) : Own (W.setCell ⟨g, i, none⟩ (.int .u64 (i64 x))) g t (cs64 (xs.set i x)) := by have := h.set i (.int .u64 (i64 x)); rwa [cs64_set] at this
theorem Own.set8 {xs : List U8} (h : Own W g t (cs8 xs)) (i : Nat) (x : U8) : Own (W.setCell ⟨g, i, none⟩ (.int .u8 (i8 x))) g t (cs8 (xs.set i x)) := by have := h.set i (.int .u8 (i8 x)); rwa [cs8_set] at this
end
/-- A block of cells, whatever it holds. -/
def Has (W : World) (g : Nat) (t : TypeId) : Prop := ∃ cs, Own W g t cs
theorem Own.has {W : World} {g : Nat} {t : TypeId} {cs : Array Value} (h : Own W g t cs) : Has W g t := ⟨cs, h⟩
theorem Has.newc {W : World} {t : TypeId} {cs : Array Value} {g : Nat} (h : g = W.heap.size) : Has (W.alloc (.cells cs t)) g t := ⟨cs, Own.new' h⟩
theorem Has.alloc {W : World} {g : Nat} {t : TypeId} (h : Has W g t) (o : Obj) : Has (W.alloc o) g t := h.elim fun _ h => (h.alloc o).has
theorem Has.row_ne {W : World} {g g' : Nat} {t : TypeId} (h : Has W g t) (hne : g ≠ g') (cs' : Array Value) : Has (W.setRow g' cs') g t := h.elim fun _ h => (h.row_ne hne cs').has
theorem Has.set_ne {W : World} {g g' : Nat} {t : TypeId} (h : Has W g t) (hne : g ≠ g') (i : Nat) (v : Value) : Has (W.setCell ⟨g', i, none⟩ v) g t := h.elim fun _ h => (h.set_ne hne i v).has
theorem Has.row {W : World} {g : Nat} {t : TypeId} (h : Has W g t) (cs' : Array Value) : Own (W.setRow g cs') g t cs' := h.elim fun _ h => h.row cs'
theorem Own.set8' {W : World} {g : Nat} {t : TypeId} {xs : List U8} (h : Own W g t (cs8 xs)) (i : Nat) (x : U8) {u : Value} (hu : v8 x = u) : Own (W.setCell ⟨g, i, none⟩ u) g t (cs8 (xs.set i x)) := by subst hu; exact h.set8 i x
theorem below_drewN {B : Nat} {w W : World} (h : Below B w W) (n : Nat) : Below B w (W.drewN n) := ⟨h.os, h.tape, h.output, h.size, h.block⟩
theorem below_row {B g : Nat} {w0 w : World} (hb : Below B w0 w) (hBg : B ≤ g) (cs : Array Value) : Below B w0 (w.setRow g cs) :=
  hb.trans ⟨rfl, rfl, rfl, by simp [World.setRow], fun k hk => setRow_other w g k cs (by omega)⟩
theorem below_then {B : Nat} {w w1 w2 : World} (h : Below B w w1) (k : Below w1.heap.size w1 w2) (hB : B ≤ w1.heap.size) : Below B w w2 := h.trans (k.mono hB)
theorem cell_ne {W : World} {g i j : Nat} {u v : Value} (hne : i ≠ j) (h : W.cell? ⟨g, j, none⟩ = some u) : (W.setCell ⟨g, i, none⟩ v).cell? ⟨g, j, none⟩ = some u := by
  have e : (⟨g, i, none⟩ : Addr) ≠ ⟨g, j, none⟩ := fun e => hne (by injection e)
  rw [World.cell?_setCell_other (h := e)]
  exact h
theorem cell_below {w w1 : World} (h : Below w.heap.size w w1) {a : Addr} {v : Value} (hc : w.cell? a = some v) : w1.cell? a = some v := (h.cell (World.block_lt_of_cell? w a hc)).trans hc

theorem w64_in (x : Int) (h0 : -9223372036854775808 ≤ x) (h1 : x ≤ 9223372036854775807) : IntKind.i64.wrap x = x := IntWalk.i64_in _ (by omega)
/-! ### Arrays -/
/-- 'x[i]', x an array of whole numbers. -/
theorem run_index_arr {P : Program} (t e n : Nat) (ke : IntKind) (cs : Array Value) (k : IntKind) (i : Nat) (v : Value) (ht : P.underlying t = some (.array n e)) (he : (P.info? e).map (·.size) = some 1) (hue : P.underlying e = some (.int ke)) (hs : cs.size = n) (hv : cs[i]? = some v) (w : World) :
    (Instr.index t (.agg cs) (.int k (i : Int))).run P w = .ok v w := by
  have hi : i < n := by
    rcases Nat.lt_or_ge i cs.size with h | h
    · omega
    · rw [Array.getElem?_eq_none h] at hv; cases hv
  obtain ⟨ei, he1, he2⟩ := Option.map_eq_some_iff.1 he
  unfold Instr.index
  simp [asIntOf, Sem.run_bind, run_underlying ht, sizeOf, typeInfo, hi, he1, part, isAgg, run_underlying hue, he2, hv]
section
variable {P : Program} {ops : Array Oper} {rest : List Oper} {o : Oper} {a : Act} {Q : Exit → Act → World → Prop} {W : World}
/-- An arm is meant for the operation that writes slot N. -/
theorem at_dst {N : Tmp} (_hN : o.dst = some N) (h : wpList P ops Q (o :: rest) a W) : wpList P ops Q (o :: rest) a W := h
/-- An arm is meant for a store through slot N. -/
theorem at_store {t : TypeId} {N : Tmp} {y : Operand} (_hN : o.op = .store t (.tmp N) y) (h : wpList P ops Q (o :: rest) a W) : wpList P ops Q (o :: rest) a W := h
theorem wpList_load_own (hgd : o.guard = none) (ty : TypeId) (x : Operand) (ho : o.op = .load ty x) {g : Nat} {t : TypeId} {cs : Array Value} (hg : Own W g t cs) (hx : a.eval x = .pointer (some ⟨g, 0, none⟩))
    {d : TypeDesc} (hu : P.underlying ty = some d) (hd : (match d with | .struct _ | .array _ _ => true | _ => false) = true) (hi : (P.info? ty).map (·.size) = some cs.size)
    (h : wpList P ops Q rest (a.put o.dst (.agg cs)) W) : wpList P ops Q (o :: rest) a W :=
  wpList_load_row hgd ty x ho g hx t cs (0, 0) d hg hu hd hi h
theorem wpList_store_own (hgd : o.guard = none) (ty : TypeId) (x y : Operand) (ho : o.op = .store ty x y) {g : Nat} {t : TypeId} {old : Array Value} (hg : Own W g t old) (cells : Array Value) (hx : a.eval x = .pointer (some ⟨g, 0, none⟩)) (hy : a.eval y = .agg cells)
    (hi : (P.info? ty).map (·.size) = some cells.size) (hold : old.size = cells.size) (h1 : cells.all (·.oneCell') = true)
    (h : wpList P ops Q rest (a.put o.dst undef) (W.setRow g cells)) : wpList P ops Q (o :: rest) a W :=
  wpList_store_row hgd ty x y ho g cells hx hy t old hg hi hold h1 h
end
theorem results_own {P : Program} {fn : Func} {p : Tmp} {ty : TypeId} (h : fn.results = #[.cell p ty]) (tmps : Array Value) {W : World} {g : Nat} {t : TypeId} {cs : Array Value} (hg : Own W g t cs) (hp : tmps.getD p undef = .pointer (some ⟨g, 0, none⟩))
    {d : TypeDesc} (hu : P.underlying ty = some d) (hd : (match d with | .struct _ | .array _ _ => true | _ => false) = true) (hi : (P.info? ty).map (·.size) = some cs.size) :
    (results fn tmps).run P W = .ok (.agg cs) W := results_cell_row h tmps W g t cs (0, 0) d hp hg hu hd hi
/-- A post may say what it says of a panic of any frame. -/
theorem bodyPost_put {P : Program} {fn : Func} {R : Ending → World → Prop} (c : List PanicEntry) (a : Act) (d : Option Tmp) (v : Value) (w : World) (h : bodyPost P fn R (.panic c) (a.put d v) w) : bodyPost P fn R (.panic c) a w := by
  cases d <;> exact h
end Go.Proofs.Ytlcaobnojbkmbaa
/- Words of this seat's walks: slices that are read, rows of the call's own that grow. For any program. -/
namespace Go.Proofs.Ytlcaobnojbkmbaa
open Go.RowKit
set_option linter.unusedSimpArgs false

/-! ### A slice that is read -/
def Sl {α : Type} (f : α → Value) (W : World) (A : Option Addr) (xs : List α) : Prop :=
  xs.length ≤ 9223372036854775807 ∧ ∀ (i : Nat) (x : α), xs[i]? = some x → ∃ b o, A = some ⟨b, o, none⟩ ∧ W.cell? ⟨b, o + i, none⟩ = some (f x)
section
variable {α : Type} {f : α → Value} {W W' : World} {A : Option Addr} {xs : List α}
theorem Sl.below (h : Sl f W A xs) (hb : Below W.heap.size W W') : Sl f W' A xs :=
  ⟨h.1, fun i x hx => by obtain ⟨b, o, hA, hc⟩ := h.2 i x hx; exact ⟨b, o, hA, cell_below hb hc⟩⟩
theorem Sl.nil (W : World) (A : Option Addr) : Sl f W A [] := ⟨by simp, fun i x hx => by simp at hx⟩
theorem Sl.at_ (h : Sl f W A xs) (i : Nat) (hi : i < xs.length) : ∃ b o, A = some ⟨b, o, none⟩ ∧ W.cell? ⟨b, o + i, none⟩ = some (f xs[i]) := h.2 i _ (List.getElem?_eq_getElem hi)
/-- The cells of a slice that is not empty lie in one block, one behind the other. -/
theorem Sl.all (h : Sl f W A xs) (h0 : 0 < xs.length) : ∃ b o, A = some ⟨b, o, none⟩ ∧ ∀ (i : Nat) (x : α), xs[i]? = some x → W.cell? ⟨b, o + i, none⟩ = some (f x) := by
  obtain ⟨b, o, hA, _⟩ := h.at_ 0 h0
  refine ⟨b, o, hA, fun i x hx => ?_⟩
  obtain ⟨b', o', hA', hc⟩ := h.2 i x hx
  rw [hA] at hA'
  injection hA' with e
  injection e with e1 e2
  subst e1; subst e2
  exact hc
theorem Sl.of_row {b o : Nat} (hl : xs.length ≤ 9223372036854775807) (h : ∀ (i : Nat) (x : α), xs[i]? = some x → W.cell? ⟨b, o + i, none⟩ = some (f x)) : Sl f W (some ⟨b, o, none⟩) xs := ⟨hl, fun i x hx => ⟨b, o, rfl, h i x hx⟩⟩
theorem Sl.lt (h : Sl f W A xs) (h0 : 0 < xs.length) : ∀ b o, A = some ⟨b, o, none⟩ → b < W.heap.size := by
  intro b o hA
  obtain ⟨b', o', hA', hc⟩ := h.at_ 0 h0
  rw [hA] at hA'
  injection hA' with e
  injection e with e1 e2
  subst e1
  exact World.block_lt_of_cell? W _ hc
theorem Sl.row_ne (h : Sl f W A xs) {g : Nat} (hne : ∀ b o, A = some ⟨b, o, none⟩ → b ≠ g) (cs : Array Value) : Sl f (W.setRow g cs) A xs :=
  ⟨h.1, fun i x hx => by
    obtain ⟨b, o, hA, hc⟩ := h.2 i x hx
    exact ⟨b, o, hA, by rw [cell_setRow_other W g cs _ (hne b o hA)]; exact hc⟩⟩
theorem Sl.take (h : Sl f W A xs) (n : Nat) : Sl f W A (xs.take n) :=
  ⟨by rw [List.length_take]; have := h.1; omega, fun i x hx => h.2 i x (by rw [List.getElem?_take] at hx; split at hx <;> simp_all)⟩
theorem Sl.drop (h : Sl f W A xs) (c l : Nat) (hc : xs.length ≤ c) : Sl f W (if c = l then A else A.map (·.add (l * 1))) (xs.drop l) := by
  refine ⟨by rw [List.length_drop]; have := h.1; omega, fun i x hx => ?_⟩
  rw [List.getElem?_drop] at hx
  have hlt : l + i < xs.length := (List.getElem?_eq_some_iff.1 hx).1
  obtain ⟨b, o, rfl, hcell⟩ := h.2 _ x hx
  rw [if_neg (by omega)]
  by_cases h0 : l = 0
  · subst h0
    exact ⟨b, o, by simp [Addr.add], by simpa using hcell⟩
  · exact ⟨b, o + l, by simp [Addr.add, h0], by rw [Nat.add_assoc]; exact hcell⟩
end
theorem run_slice_cut {P : Program} {α : Type} {f : α → Value} {W : World} {A : Option Addr} {xs : List α} (h : Sl f W A xs) (t e : TypeId) (c l : Nat) (k : IntKind) (lo : Int) (hlo : lo = (l : Int)) (ht : P.underlying t = some (.slice e)) (hi : (P.info? e).map (·.size) = some 1) (hl : l ≤ xs.length) (hc : xs.length ≤ c) :
    ∃ A', Sl f W A' (xs.drop l) ∧ (∀ b o, A' = some ⟨b, o, none⟩ → ∃ o', A = some ⟨b, o', none⟩) ∧ ∀ w, (Instr.sliceAt t (.slice A xs.length c) (some (.int k lo)) none none).run P w = .ok (.slice A' (xs.length - l) (c - l)) w := by
  subst hlo
  refine ⟨_, h.drop c l hc, fun b o hbo => ?_, fun w => ?_⟩
  · by_cases hcl : c = l
    · rw [if_pos hcl] at hbo; exact ⟨o, hbo⟩
    · rw [if_neg hcl] at hbo
      obtain ⟨ad, had, hadd⟩ := Option.map_eq_some_iff.1 hbo
      obtain ⟨b', o', s'⟩ := ad
      unfold Addr.add at hadd
      split at hadd
      · injection hadd with e1 e2 e3
        subst e1; subst e3
        exact ⟨o', had⟩
      · injection hadd with e1 e2 e3
        subst e1
        cases s' with
        | none => exact ⟨o', had⟩
        | some q =>
          rcases Nat.eq_zero_or_pos xs.length with h0 | h0
          · omega
          · obtain ⟨b1, o1, hA, _⟩ := h.at_ 0 h0
            rw [had] at hA
            injection hA with e
            injection e with _ _ e3
            cases e3
  have hte : P.elem t = e := by simp [Program.elem, ht]
  obtain ⟨ei, he1, he2⟩ := Option.map_eq_some_iff.1 hi
  rw [run_sliceAt_slice (h := by rw [ht, hte]), run_slice_l (ht := by rw [ht, hte]) (h0 := by omega) (h1 := by omega)]
  simp [hte, sizeOf, typeInfo, he1, he2, sliced]
theorem run_slice_mid {P : Program} {α : Type} {f : α → Value} {W : World} {A : Option Addr} {xs : List α} (h : Sl f W A xs) (t e : TypeId) (c l r : Nat) (k k' : IntKind) (lo hi : Int) (hlo : lo = (l : Int)) (hhi : hi = (r : Int)) (ht : P.underlying t = some (.slice e)) (hi1 : (P.info? e).map (·.size) = some 1) (hl : l ≤ r) (hr : r ≤ xs.length) (hc : xs.length ≤ c) :
    ∃ A', Sl f W A' ((xs.drop l).take (r - l)) ∧ ∀ w, (Instr.sliceAt t (.slice A xs.length c) (some (.int k lo)) (some (.int k' hi)) none).run P w = .ok (.slice A' (r - l) (c - l)) w := by
  subst hlo; subst hhi
  refine ⟨_, (h.drop c l hc).take (r - l), fun w => ?_⟩
  have hte : P.elem t = e := by simp [Program.elem, ht]
  obtain ⟨ei, he1, he2⟩ := Option.map_eq_some_iff.1 hi1
  rw [run_sliceAt_slice (h := by rw [ht, hte]), run_slice_lh (ht := by rw [ht, hte]) (h0 := by omega) (h1 := by omega) (h2 := by omega)]
  simp [hte, sizeOf, typeInfo, he1, he2, sliced]
/-- '[n]T(s)', s a slice that is long enough. -/
theorem run_arrayAt {P : Program} (t e n : Nat) (a : Addr) (len c : Nat) (ht : P.underlying t = some (.array n e)) (hn : n ≤ len) (w : World) :
    (Instr.arrayAt t (.slice (some a) len c)).run P w = .ok (.pointer (some a)) w := by
  simp [Instr.arrayAt, run_underlying ht, Nat.not_lt.2 hn]

/-! ### Rows of the call's own -/
section
variable {P : Program} {ops : Array Oper} {rest : List Oper} {o : Oper} {a : Act} {Q : Exit → Act → World → Prop}
theorem owns_slice {w : World} {base n : Nat} {e : TypeId} {size : Nat} {v : Value} {xs : List Value} (h : w.ownsRow base e size v n xs) : ∃ A c, v = .slice A n c ∧ n ≤ c := by
  rcases h.2 with ⟨rfl, rfl⟩ | ⟨g, cap, cur, rfl, _, _, h1, _⟩
  · exact ⟨none, 0, rfl, Nat.le_refl _⟩
  · exact ⟨_, cap, rfl, h1⟩
theorem owns_sl {α : Type} {f : α → Value} {w : World} {base n : Nat} {e : TypeId} {v : Value} {xs : List α} (h : w.ownsRow base e 1 v n (xs.map f)) : ∃ A c, v = .slice A n c ∧ n ≤ c ∧ xs.length = n ∧ Sl f w A xs := by
  have hl : xs.length = n := by have := h.1; simpa using this
  rcases h.2 with ⟨rfl, rfl⟩ | ⟨g, cap, cur, rfl, _, hg, h1, h2, h3, h4⟩
  · obtain rfl : xs = [] := List.eq_nil_of_length_eq_zero hl
    exact ⟨none, 0, rfl, Nat.le_refl _, rfl, Sl.nil _ _⟩
  · refine ⟨_, cap, rfl, h1, hl, Sl.of_row (by rw [hl]; unfold maxLen at h2; omega) fun i x hx => ?_⟩
    have hc := h.cells (g := g) rfl i (f x) (by simp [hx])
    have ha : (⟨g, 0, none⟩ : Addr).add i = ⟨g, 0 + i, none⟩ := by unfold Addr.add; split <;> simp_all
    rwa [ha] at hc
theorem owns_base {w : World} {base : Nat} {e : TypeId} {size n : Nat} {v : Value} {xs : List Value} (h : w.ownsRow base e size v n xs) (k : Nat) (hk : v.ownBlock = some k) : base ≤ k := (h.lt k hk).1
theorem owns_below {w w1 : World} {base : Nat} {e : TypeId} {size n : Nat} {v : Value} {xs : List Value} (h : w.ownsRow base e size v n xs) (hb : Below w.heap.size w w1) : w1.ownsRow base e size v n xs :=
  h.kept (row := none) ⟨hb.os, hb.tape, hb.output, hb.size, fun i hi _ => hb.block i hi⟩ (by cases v.ownBlock <;> simp)
theorem owns_drew {w : World} {base n : Nat} {e : TypeId} {size : Nat} {v : Value} {xs : List Value} (h : w.ownsRow base e size v n xs) : w.drew.ownsRow base e size v n xs := h
theorem Own.grown {W W' : World} {g : Nat} {t : TypeId} {cs : Array Value} (h : Own W g t cs) {row : Option Nat} (hg : W.grownBy W' row) (hne : row ≠ some g) : Own W' g t cs := (hg.block g h.lt (fun e => hne e.symm)).trans h
theorem Sl.grown {α : Type} {f : α → Value} {W W' : World} {A : Option Addr} {xs : List α} (h : Sl f W A xs) {row : Option Nat} (hg : W.grownBy W' row) (hne : ∀ b o, A = some ⟨b, o, none⟩ → row ≠ some b) : Sl f W' A xs :=
  ⟨h.1, fun i x hx => by
    obtain ⟨b, o, hA, hc⟩ := h.2 i x hx
    exact ⟨b, o, hA, hg.cell hc (fun e => hne b o hA e.symm)⟩⟩
/-- 'append(s, y)': behind the box of the one. -/
theorem wpList_append1 {w0 W : World} (base : Nat) (hgd : o.guard = none) (s x : Operand) (t e : TypeId) (z : Value) (bytes : Nat)
    (ho : o.op = .call { callee := .builtin .append, args := #[s, x], argTypes := #[t, t] })
    (ht : P.underlying t = some (.slice e)) (hinfo : (P.info? e).map (fun i => (i.zero, i.size, i.bytes)) = some (some z, 1, bytes)) (hz : z.cells.size = 1) (hb0 : 0 < bytes)
    (v : Value) (xs : List Value) (y : Value) (hs : a.eval s = v) (hx : a.eval x = .slice (some ⟨W.heap.size, 0, none⟩) 1 1) (h1 : y.oneCell' = true)
    (HO : W.ownsRow base e 1 v xs.length xs) (HB : Below base w0 W) (hbase : base ≤ W.heap.size) (hl : (xs.length + 1) * bytes ≤ 140737488355328)
    (h : ∀ v1 w1, w1.ownsRow base e 1 v1 (xs ++ [y]).length (xs ++ [y]) → Below base w0 w1 → W.grownBy w1 v.ownBlock → wpList P ops Q rest (a.put o.dst v1) w1) :
    wpList P ops Q (o :: rest) a (W.alloc (.cells #[y] e)) := by
  obtain ⟨i0, hi, hzz⟩ := Option.map_eq_some_iff.1 hinfo
  simp only [Prod.mk.injEq] at hzz
  obtain ⟨hz0, hz1, hz2⟩ := hzz
  have hlen : xs.length + 1 ≤ 140737488355328 := Nat.le_trans (Nat.le_mul_of_pos_right _ hb0) hl
  refine wpList_append_own_at (W.alloc (.cells #[y] e)) hgd s x t ho base e i0 z 1 bytes ht hi hz0 hz1 hz2 hz (by omega) v xs.length xs hs (HO.alloc _) ⟨W.heap.size, 0, none⟩ 1 1 [y] hx rfl
    (World.news_of_block (cs := #[y]) (t := e) (fr := (0, 0)) (Go.heap_alloc_new W _)) (by simpa using h1) (by simp only [maxLen]; omega) hl (by simp; omega) ?_
  intro v1 w1 hown hg _ _
  exact h v1 w1 (by simpa using hown) ((HB.alloc hbase _).grown hg (by simp; omega) (owns_base HO)) (World.grownBy.trans (World.grownBy_alloc W _ _) hg)
/-- 'append(s, ys...)': ys a slice that is read, nil let in. -/
theorem wpList_append_sl {α : Type} {f : α → Value} (hf : ∀ x, (f x).oneCell' = true) {w0 W : World} (base : Nat) (hgd : o.guard = none) (s x : Operand) (t e : TypeId) (z : Value) (bytes : Nat)
    (ho : o.op = .call { callee := .builtin .append, args := #[s, x], argTypes := #[t, t] })
    (ht : P.underlying t = some (.slice e)) (hinfo : (P.info? e).map (fun i => (i.zero, i.size, i.bytes)) = some (some z, 1, bytes)) (hz : z.cells.size = 1) (hb0 : 0 < bytes)
    (v : Value) (xs : List Value) (ys : List α) (A : Option Addr) (c : Nat) (hs : a.eval s = v) (hx : a.eval x = .slice A ys.length c)
    (HO : W.ownsRow base e 1 v xs.length xs) (HR : Sl f W A ys) (HB : Below base w0 W) (hbase : base ≤ W.heap.size) (hl : (xs.length + ys.length) * bytes ≤ 140737488355328)
    (h : ∀ v1 w1, w1.ownsRow base e 1 v1 (xs ++ ys.map f).length (xs ++ ys.map f) → Below base w0 w1 → W.grownBy w1 v.ownBlock → wpList P ops Q rest (a.put o.dst v1) w1) :
    wpList P ops Q (o :: rest) a W := by
  obtain ⟨i0, hi, hzz⟩ := Option.map_eq_some_iff.1 hinfo
  simp only [Prod.mk.injEq] at hzz
  obtain ⟨hz0, hz1, hz2⟩ := hzz
  have hlen : xs.length + ys.length ≤ 140737488355328 := Nat.le_trans (Nat.le_mul_of_pos_right _ hb0) hl
  have hrun : ∃ v1 w1, (Builtin.append_ #[t, t] o.type #[v, .slice A ys.length c]).run P W = .ok v1 w1 ∧ w1.ownsRow base e 1 v1 (xs ++ ys.map f).length (xs ++ ys.map f) ∧ W.grownBy w1 v.ownBlock := by
    rcases Nat.eq_zero_or_pos ys.length with h0 | h0
    · obtain rfl : ys = [] := List.eq_nil_of_length_eq_zero h0
      refine ⟨v, W, ?_, by simpa using HO, World.grownBy.refl W _⟩
      rcases HO.2 with ⟨rfl, hn⟩ | ⟨g, cap, cur, rfl, _, hg, hnc, hcm, hcs, _⟩
      · cases A <;> simp [Builtin.append_, run_underlying ht, sizeOf, typeInfo, hi, Builtin.lenOf, Builtin.firstCells, loadCells, loadCellsFrom]
      · cases A with
        | none => simp [Builtin.append_, run_underlying ht, sizeOf, typeInfo, hi, Builtin.lenOf, Builtin.firstCells, hnc, storeCells]
        | some ad => simp [Builtin.append_, run_underlying ht, sizeOf, typeInfo, hi, Builtin.lenOf, Builtin.firstCells, hnc, storeCells, loadCells, loadCellsFrom]
    · obtain ⟨b, o1, rfl, hcells⟩ := HR.all h0
      obtain ⟨v1, w1, hr, h2, h3, _, _⟩ := run_append_own_at (P := P) W base t o.type e i0 z 1 bytes ht hi hz0 hz1 hz2 hz (by omega) v xs.length xs HO ⟨b, o1, none⟩ ys.length c (ys.map f) (by simp)
        (by
          intro j u hu
          rw [List.getElem?_map] at hu
          obtain ⟨x, hx1, hx2⟩ := Option.map_eq_some_iff.1 hu
          subst hx2
          have ha : (⟨b, o1, none⟩ : Addr).add j = ⟨b, o1 + j, none⟩ := by unfold Addr.add; split <;> simp_all
          rw [ha]
          exact hcells j x hx1)
        (by intro u hu; obtain ⟨q, _, rfl⟩ := List.mem_map.1 hu; exact hf q) (by simp only [maxLen]; omega) hl hbase
      exact ⟨v1, w1, hr, by simpa using h2, h3⟩
  obtain ⟨v1, w1, hr, hown, hg⟩ := hrun
  refine wpList_plain hgd fun K hK => ?_
  unfold Oper.wp execOp
  simp only [ho, resolve, invoke, builtin, Sem.run_bind, Sem.run_pure, Result.andThen_ok, List.map_toArray, List.map_cons, List.map_nil, hs, hx, hr]
  exact hK _ _ (h v1 w1 hown (HB.grown hg hbase (owns_base HO)) hg)
end
/-- A load of a whole array of the call's own may be taken first. -/
theorem yieldsIf_load_own {P : Program} {ops : Array Oper} {S : World → Prop} {op : Oper} {a : Act} (hw : Region.wanted op (yielded ops a.tmps) = true) (ty : TypeId) (x : Operand) (ho : op.op = .load ty x)
    (g : Nat) (hx : a.eval x = .pointer (some ⟨g, 0, none⟩)) (t : TypeId) (cs : Array Value) (d : TypeDesc) (hS : ∀ W, S W → Own W g t cs)
    (hu : P.underlying ty = some d) (hd : (match d with | .struct _ | .array _ _ => true | _ => false) = true) (hi : (P.info? ty).map (·.size) = some cs.size) : YieldsIf P ops S op (.agg cs) a :=
  .inl ⟨hw, fun w hw' => by
    unfold execOp
    simp only [ho, hx, Instr.loadAt, Instr.sureAddr, Sem.run_bind, Sem.run_pure, Result.andThen_ok, run_loadVar_row w g t ty cs (0, 0) d (hS w hw') hu hd hi]⟩
def lenOf : Value → Nat | .slice _ n _ => n | _ => 0
theorem Sl.range {α : Type} {f : α → Value} {W : World} {b o : Nat} {xs : List α} (h : ∀ (i : Nat) (x : α), xs[i]? = some x → W.cell? ⟨b, o + i, none⟩ = some (f x)) (n : Nat) : W.rangeAt b o ((xs.take n).map f) := by
  intro j u hu
  rw [List.getElem?_map] at hu
  obtain ⟨x, hx1, rfl⟩ := Option.map_eq_some_iff.1 hu
  refine h j x ?_
  rw [List.getElem?_take] at hx1
  split at hx1 <;> simp_all
section
variable {P : Program} {ops : Array Oper} {rest : List Oper} {o : Oper} {a : Act} {Q : Exit → Act → World → Prop}
theorem wpList_app1 {α : Type} {f : α → Value} (hf : ∀ x, (f x).oneCell' = true) {w0 W : World} (base : Nat) (hgd : o.guard = none) (s x : Operand) (t e : TypeId) (z : Value) (bytes : Nat)
    (ho : o.op = .call { callee := .builtin .append, args := #[s, x], argTypes := #[t, t] })
    (ht : P.underlying t = some (.slice e)) (hinfo : (P.info? e).map (fun i => (i.zero, i.size, i.bytes)) = some (some z, 1, bytes)) (hz : z.cells.size = 1) (hb0 : 0 < bytes)
    (v : Value) (xs : List α) (y : α) {u : Value} (hu : f y = u) (hs : a.eval s = v) (hx : a.eval x = .slice (some ⟨W.heap.size, 0, none⟩) 1 1)
    (HO : W.ownsRow base e 1 v xs.length (xs.map f)) (HB : Below base w0 W) (hbase : base ≤ W.heap.size) (hl : (xs.length + 1) * bytes ≤ 140737488355328)
    (h : ∀ v1 w1, w1.ownsRow base e 1 v1 (xs ++ [y]).length ((xs ++ [y]).map f) → Below base w0 w1 → W.grownBy w1 v.ownBlock → wpList P ops Q rest (a.put o.dst v1) w1) :
    wpList P ops Q (o :: rest) a (W.alloc (.cells #[u] e)) := by
  subst hu
  refine wpList_append1 base hgd s x t e z bytes ho ht hinfo hz hb0 v (xs.map f) (f y) hs hx (hf y) (by simpa using HO) HB hbase (by simpa using hl) ?_
  intro v1 w1 h1 h2 h3
  exact h v1 w1 (by simpa using h1) h2 h3
theorem wpList_apps {α : Type} {f : α → Value} (hf : ∀ x, (f x).oneCell' = true) {w0 W : World} (base : Nat) (hgd : o.guard = none) (s x : Operand) (t e : TypeId) (z : Value) (bytes : Nat)
    (ho : o.op = .call { callee := .builtin .append, args := #[s, x], argTypes := #[t, t] })
    (ht : P.underlying t = some (.slice e)) (hinfo : (P.info? e).map (fun i => (i.zero, i.size, i.bytes)) = some (some z, 1, bytes)) (hz : z.cells.size = 1) (hb0 : 0 < bytes)
    (v : Value) (xs ys : List α) (A : Option Addr) (c : Nat) (hs : a.eval s = v) (hx : a.eval x = .slice A ys.length c)
    (HO : W.ownsRow base e 1 v xs.length (xs.map f)) (HR : Sl f W A ys) (HB : Below base w0 W) (hbase : base ≤ W.heap.size) (hl : (xs.length + ys.length) * bytes ≤ 140737488355328)
    (h : ∀ v1 w1, w1.ownsRow base e 1 v1 (xs ++ ys).length ((xs ++ ys).map f) → Below base w0 w1 → W.grownBy w1 v.ownBlock → wpList P ops Q rest (a.put o.dst v1) w1) :
    wpList P ops Q (o :: rest) a W := by
  refine wpList_append_sl hf base hgd s x t e z bytes ho ht hinfo hz hb0 v (xs.map f) ys A c hs hx (by simpa using HO) HR HB hbase (by simpa using hl) ?_
  intro v1 w1 h1 h2 h3
  exact h v1 w1 (by simpa using h1) h2 h3
end
/-- 'T{}': a row of none. -/
theorem owns_made0 {α : Type} {f : α → Value} (W : World) (base : Nat) (e : TypeId) {g : Nat} (hg : g = W.heap.size) (hb : base ≤ W.heap.size) :
    (W.alloc (.cells #[] e)).ownsRow base e 1 (.slice (some ⟨g, 0, none⟩) 0 0) ([] : List α).length (([] : List α).map f) := by
  subst hg
  exact World.ownsRow_made W #[] 0 hb (by unfold maxLen; omega) rfl
/-- What a function hands back that makes a slice. -/
def RetSl {α : Type} (f : α → Value) (w : World) (xs : List α) (e : Ending) (w' : World) : Prop :=
  ∃ A c, e = .returned (.slice A xs.length c) ∧ xs.length ≤ c ∧ Sl f w' A xs ∧ Below w.heap.size w w'
theorem sl8_ne_own32 {W : World} {A : Option Addr} {xs : List U8} (h : Sl v8 W A xs) (h0 : 0 < xs.length) {g : Nat} {t : TypeId} {ys : List U32} (ho : Own W g t (cs32 ys)) : ∀ b o, A = some ⟨b, o, none⟩ → b ≠ g := by
  intro b o hA e
  subst e
  obtain ⟨b', o', hA', hc⟩ := h.at_ 0 h0
  rw [hA] at hA'
  injection hA' with e
  injection e with e1 e2
  subst e1
  rw [ho.cell] at hc
  simp only [cs32, List.getElem?_toArray, List.getElem?_map] at hc
  obtain ⟨y, _, hy⟩ := Option.map_eq_some_iff.1 hc
  simp [v32, v8] at hy
theorem sl8_ne_own64 {W : World} {A : Option Addr} {xs : List U8} (h : Sl v8 W A xs) (h0 : 0 < xs.length) {g : Nat} {t : TypeId} {ys : List U64} (ho : Own W g t (cs64 ys)) : ∀ b o, A = some ⟨b, o, none⟩ → b ≠ g := by
  intro b o hA e
  subst e
  obtain ⟨b', o', hA', hc⟩ := h.at_ 0 h0
  rw [hA] at hA'
  injection hA' with e
  injection e with e1 e2
  subst e1
  rw [ho.cell] at hc
  simp only [cs64, List.getElem?_toArray, List.getElem?_map] at hc
  obtain ⟨y, _, hy⟩ := Option.map_eq_some_iff.1 hc
  simp [v64, v8] at hy
theorem v8_one (x : U8) : (v8 x).oneCell' = true := rfl
theorem v32_one (x : U32) : (v32 x).oneCell' = true := rfl
theorem v64_one (x : U64) : (v64 x).oneCell' = true := rfl
end Go.Proofs.Ytlcaobnojbkmbaa
/- Words of this seat's laws: what comes in, opened; arrays that are asked whether they are the same. For any program. -/
namespace Go.Proofs.Ytlcaobnojbkmbaa
open Go.RowKit Go.ChangeShapes Go.WideShapes
section
variable {α : Type} [DecidableEq α] {P : Program} {f : α → Value} {k : IntKind} {j : α → Int}
theorem run_equalIn_arr (hf : ∀ x, f x = .int k (j x)) (hj : ∀ x y, j x = j y → x = y) (d t e n : Nat) (ht : P.underlying t = some (.array n e)) (hi : (P.info? e).map (·.size) = some 1) (hue : P.underlying e = some (.int k)) (xs ys : List α) (hx : xs.length = n) (hy : ys.length = n) (w : World) :
    (Op.equalIn (d + 2) t (.agg (xs.map f).toArray) (.agg (ys.map f).toArray)).run P w = .ok (decide (xs = ys)) w := by
  obtain ⟨ei, he1, he2⟩ := Option.map_eq_some_iff.1 hi
  have hint : ∀ x y, (Op.equalIn (d + 1) e (f x) (f y)).run P w = .ok (decide (x = y)) w := by
    intro x y
    rw [hf, hf, run_equalIn_int (h := hue)]
    congr 1
    by_cases h : x = y
    · simp [h]
    · simp [h]; exact fun h2 => h (hj _ _ h2)
  rw [Op.equalIn]
  simp only [Sem.run_bind, run_underlying ht, Result.andThen_ok, sizeOf, typeInfo, run_program, he1, he2, Sem.run_pure]
  simp only [Std.Legacy.Range.forIn_eq_forIn_range', Std.Legacy.Range.size, Nat.sub_zero, Nat.add_one_sub_one, Nat.div_one]
  have hpart : ∀ (zs : List α) (i : Nat) (h : i < zs.length), (part e (zs.map f).toArray (i * 1)).run P w = .ok (f zs[i]) w := by
    intro zs i h
    simp [part, isAgg, run_underlying hue, h]
  have loop : ∀ m i, i + m = n → Sem.run P (forIn (List.range' i m) ((none : Option Bool), ()) fun i __s => do
            let __do_lift ← part e (List.map f xs).toArray (i * 1)
            let __do_lift_1 ← part e (List.map f ys).toArray (i * 1)
            let __do_lift ← Op.equalIn (d + 1) e __do_lift __do_lift_1
            if (!__do_lift) = true then pure (ForInStep.done (some false, ())) else pure (ForInStep.yield (none, ()))) w
      = .ok ((if xs.drop i = ys.drop i then (none : Option Bool) else some false), ()) w := by
    intro m
    induction m with
    | zero =>
      intro i hi
      rw [List.drop_eq_nil_of_le (by omega), List.drop_eq_nil_of_le (by omega)]
      simp
    | succ m ih =>
      intro i hi
      have hxi : i < xs.length := by omega
      have hyi : i < ys.length := by omega
      rw [List.range'_succ, List.forIn_cons]
      simp only [Sem.run_bind, hpart xs i hxi, hpart ys i hyi, Result.andThen_ok, hint]
      rw [List.drop_eq_getElem_cons hxi, List.drop_eq_getElem_cons hyi]
      by_cases h : xs[i] = ys[i]
      · have h2 := ih (i + 1) (by omega)
        simp only [h, decide_true, Bool.not_true, Bool.false_eq_true, if_false, Sem.run_pure, Result.andThen_ok, List.cons.injEq, true_and]
        exact h2
      · simp only [h, decide_false, Bool.not_false, if_true, Sem.run_pure, Result.andThen_ok, List.cons.injEq, false_and, if_false]
  rw [loop n 0 (by omega)]
  simp only [Result.andThen_ok, List.drop_zero]
  by_cases h : xs = ys <;> simp [h]
theorem run_eqi_arr (hf : ∀ x, f x = .int k (j x)) (hj : ∀ x y, j x = j y → x = y) (t e n : Nat) (ht : P.underlying t = some (.array n e)) (hi : (P.info? e).map (·.size) = some 1) (hue : P.underlying e = some (.int k)) (xs ys : List α) (hx : xs.length = n) (hy : ys.length = n) (w : World) :
    (Op.equalIn 10000 t (.agg (xs.map f).toArray) (.agg (ys.map f).toArray)).run P w = .ok (decide (xs = ys)) w :=
  run_equalIn_arr hf hj 9998 t e n ht hi hue xs ys hx hy w
end
section
variable {P : Program} (t e n : Nat) (w : World)
theorem run_eqi8 (ht : P.underlying t = some (.array n e)) (hi : (P.info? e).map (·.size) = some 1) (hue : P.underlying e = some (.int .u8)) (xs ys : List U8) (hx : xs.length = n) (hy : ys.length = n) :
    (Op.equalIn 10000 t (.agg (cs8 xs)) (.agg (cs8 ys))).run P w = .ok (decide (xs = ys)) w := run_eqi_arr (fun _ => rfl) (fun _ _ => i8_inj.1) t e n ht hi hue xs ys hx hy w
theorem run_eqi32 (ht : P.underlying t = some (.array n e)) (hi : (P.info? e).map (·.size) = some 1) (hue : P.underlying e = some (.int .u32)) (xs ys : List U32) (hx : xs.length = n) (hy : ys.length = n) :
    (Op.equalIn 10000 t (.agg (cs32 xs)) (.agg (cs32 ys))).run P w = .ok (decide (xs = ys)) w := run_eqi_arr (fun _ => rfl) (fun _ _ => i32_inj.1) t e n ht hi hue xs ys hx hy w
theorem run_eqi64 (ht : P.underlying t = some (.array n e)) (hi : (P.info? e).map (·.size) = some 1) (hue : P.underlying e = some (.int .u64)) (xs ys : List U64) (hx : xs.length = n) (hy : ys.length = n) :
    (Op.equalIn 10000 t (.agg (cs64 xs)) (.agg (cs64 ys))).run P w = .ok (decide (xs = ys)) w := run_eqi_arr (fun _ => rfl) (fun _ _ => i64_inj.1) t e n ht hi hue xs ys hx hy w
end

/-- A region's question whether two arrays are the same. -/
theorem yieldsIf_eql {P : Program} {ops : Array Oper} {S : World → Prop} {op : Oper} {a : Act} (hw : Region.wanted op (yielded ops a.tmps) = true) (t t2 : TypeId) (x y : Operand) (ho : op.op = .binOp .eql t x y t2) (xs ys : Array Value) (hx : a.eval x = .agg xs) (hy : a.eval y = .agg ys)
    (hm : P.eqGuardType P.depth t = false) (b : Bool) (he : ∀ W, (Op.equalIn 10000 t (.agg xs) (.agg ys)).run P W = .ok b W) : YieldsIf P ops S op (.bool b) a :=
  .inl ⟨hw, fun w _ => by
    unfold execOp
    simp only [ho, hx, hy, Sem.run_bind, run_eqGuard_agg w _ _ _ _ _ _ hm, Result.andThen_ok, run_eql_struct, he, Sem.run_pure]⟩

theorem own_sl8 {W : World} {g : Nat} {t : TypeId} {xs : List U8} (h : Own W g t (cs8 xs)) (hl : xs.length ≤ 9223372036854775807) : Sl v8 W (some ⟨g, 0, none⟩) xs :=
  Sl.of_row hl fun i x hx => by rw [Nat.zero_add, h.cell]; simp [cs8, hx]
theorem i64_and_mask (n : Int) (m : Nat) (hm : m < 9223372036854775808) : ∃ r : Nat, r ≤ m ∧ bits .and .i64 n (m : Int) = (r : Int) := by
  refine ⟨(BitVec.ofInt 64 n).toNat &&& m, Nat.and_le_right, ?_⟩
  have h1 : (BitVec.ofInt 64 (m : Int)).toNat = m := by
    rw [BitVec.ofInt_natCast, BitVec.toNat_ofNat]; exact Nat.mod_eq_of_lt (by omega)
  have hx : (BitVec.ofInt 64 n).toNat &&& m ≤ m := Nat.and_le_right
  show IntKind.i64.wrap ((BitVec.ofInt 64 n &&& BitVec.ofInt 64 (m : Int)).toNat : Int) = _
  rw [BitVec.toNat_and, h1]
  exact IntWalk.i64_in _ (by omega)
/-- 'make([]byte, m)'. -/
theorem run_make8 {P : Program} (t e : TypeId) (ht : P.underlying t = some (.slice e)) (hinfo : (P.info? e).map (fun i => (i.zero, i.size, i.bytes)) = some (some (.int .u8 0), 1, 1)) (k k' : IntKind) (m : Nat) (hm : m ≤ 1000000) (w : World) :
    (Instr.makeSlice t (.int k (m : Int)) (.int k' (m : Int))).run P w = .ok (.slice (some ⟨w.heap.size, 0, none⟩) m m) (w.alloc (.cells (cs8 (z8 m)) e)) := by
  obtain ⟨i, hi, he⟩ := Option.map_eq_some_iff.1 hinfo
  simp only [Prod.mk.injEq] at he
  obtain ⟨hz, hs, hb⟩ := he
  rw [run_makeSlice w t e i _ ht hi hz k k' _ _ (by omega) (Int.le_refl _) (by rw [hs]; omega) (by rw [hb]; omega) (by omega)]
  rw [hs, Int.toNat_natCast, Nat.mul_one]
  congr 3
  apply Array.ext
  · simp [size_madeCells, cs8, z8]
  · intro j h1 h2
    simp [madeCells, cs8, z8, Value.cells, v8, i8, Nat.mod_one]
/-! ### Bytes as a string -/
def strF (bs : List U8) : ByteArray := strOfNums (bs.map i8)
theorem run_bytes_str {P : Program} {w : World} {A : Option Addr} {bs : List U8} (h : Sl v8 w A bs) (src dst e : TypeId) (c : Nat) (hs : P.underlying src = some (.slice e)) (he : P.underlying e = some (.int .u8)) (hd : P.underlying dst = some .string) :
    (convert src dst (.slice A bs.length c)).run P w = .ok (.string (strF bs)) w := by
  rcases Nat.eq_zero_or_pos bs.length with h0 | h0
  · obtain rfl := List.eq_nil_of_length_eq_zero h0
    cases A with
    | none => rw [run_convert_bytes_nil w src e hs he _ _ dst hd]; rfl
    | some a =>
      obtain ⟨b, o, s⟩ := a
      rw [run_convert_bytes_string w src dst e _ _ c hs he hd, run_bytesToString w _ _ c [] (by simpa using run_loadCells_list (P := P) w ⟨b, o, s⟩ [] (fun j v hj => by simp at hj))]
      rfl
  · obtain ⟨b, o, rfl, hc⟩ := h.all h0
    exact run_convert_bytes_arg w src e hs he b o bs.length c (bs.map i8) (by simp) (fun i hi => by rw [hc i _ (List.getElem?_eq_getElem hi)]; simp [v8, hi]) dst hd

/-! ### What comes in, opened -/
section
variable {H : Type} {enc : TypeId × Value → H} {P : Program} {w : World} {b0 base : Nat} {r : Reach} {spare : Nat → Bool} {held : Bool} {t e n : Nat} {v : Value} {d : DataW H} {ps : List MemPlace}
theorem of_wf8 {z : Int} (h : (Lit.int .u8 z).wf = true) : ∃ x : U8, z = i8 x := by
  have hb := bounds_u8 h
  exact ⟨BitVec.ofNat 8 z.toNat, by unfold i8; rw [BitVec.toNat_ofNat]; omega⟩
theorem of_wf32 {z : Int} (h : (Lit.int .u32 z).wf = true) : ∃ x : U32, z = i32 x := by
  have hb := bounds_u32 h
  exact ⟨BitVec.ofNat 32 z.toNat, by unfold i32; rw [BitVec.toNat_ofNat]; omega⟩
theorem of_wf64 {z : Int} (h : (Lit.int .u64 z).wf = true) : ∃ x : U64, z = i64 x := by
  have hb := bounds_u64 h
  exact ⟨BitVec.ofNat 64 z.toNat, by unfold i64; rw [BitVec.toNat_ofNat]; omega⟩
/-- A list of which each place is of a kind is a list of that kind. -/
theorem list_of {α β : Type} {f : α → β} (zs : List β) (h : ∀ z ∈ zs, ∃ x, z = f x) : ∃ xs : List α, zs = xs.map f := by
  induction zs with
  | nil => exact ⟨[], rfl⟩
  | cons z zs ih =>
    obtain ⟨x, rfl⟩ := h z (List.mem_cons_self ..)
    obtain ⟨xs, rfl⟩ := ih fun y hy => h y (List.mem_cons_of_mem _ hy)
    exact ⟨x :: xs, rfl⟩
theorem open_row {α : Type} {f : α → Value} {k : IntKind} {j : α → Int} (hf : ∀ x, f x = .int k (j x)) (hj : ∀ z, (Lit.int k z).wf = true → ∃ x, z = j x) (ht : P.underlying t = some (.slice e)) (he : P.underlying e = some (.int k)) (hc : P.cellsOf e = 1)
    (hval : Value.okWide P w r b0 t v) (hd : DataW.Trod enc P w base (fun _ => true) held t v d ps) : ∃ A xs c, v = .slice A xs.length c ∧ xs.length ≤ c ∧ c ≤ maxLen ∧ Sl f w A xs := by
  obtain ⟨a, len, cap, rfl⟩ := okWide_slice ht hval
  obtain ⟨fuel, hfu⟩ := hd
  rcases open_ints ht he hc hfu with ⟨hcs, _⟩ | ⟨x, l, c, zs, hcs, _, hl, hm, hz, _, hcell, hwz⟩
  · simp [Value.cells] at hcs
    obtain ⟨rfl, rfl, rfl⟩ := hcs
    exact ⟨none, [], 0, rfl, Nat.le_refl _, by unfold maxLen; omega, Sl.nil _ _⟩
  · simp [Value.cells] at hcs
    obtain ⟨rfl, rfl, rfl⟩ := hcs
    simp only [if_true] at hz
    obtain ⟨xs, hxs⟩ := list_of (f := j) zs fun z hz => hj z (hwz z hz)
    subst hxs
    have hxl : xs.length = cap := by simpa using hz
    have hlen : (xs.take len).length = len := by rw [List.length_take]; omega
    refine ⟨_, xs.take len, cap, by rw [hlen], by omega, hm, by unfold maxLen at hm; omega, fun i y hy => ?_⟩
    have hi : i < len := by rw [← hlen]; exact (List.getElem?_eq_some_iff.1 hy).1
    have hy' : xs[i]? = some y := by rw [List.getElem?_take, if_pos hi] at hy; exact hy
    have h0 := World.cell?_spot (hcell 0 (by simp; omega))
    obtain ⟨b, o, spot⟩ := x
    have hs : spot = none := by simpa [Addr.add] using h0
    subst hs
    refine ⟨b, o, rfl, ?_⟩
    have h1 := hcell i (by simp; omega)
    have ha : (⟨b, o, none⟩ : Addr).add i = ⟨b, o + i, none⟩ := by unfold Addr.add; split <;> simp_all
    rw [ha, List.getD_eq_getElem?_getD, List.getElem?_map, hy'] at h1
    rw [h1, hf]; rfl
theorem open_arr {α : Type} {f : α → Value} {k : IntKind} {j : α → Int} (hf : ∀ x, f x = .int k (j x)) (hj : ∀ z, (Lit.int k z).wf = true → ∃ x, z = j x) (ht : P.underlying t = some (.array n e)) (he : P.underlying e = some (.int k)) (hc : P.cellsOf e = 1) (hcn : P.cellsOf t = n)
    (hval : Value.okWide P w r b0 t v) (hd : DataW.Trod enc P w base spare held t v d ps) : ∃ xs : List α, v = .agg (xs.map f).toArray ∧ xs.length = n ∧ ps = [] := by
  simp only [Value.okWide, ht] at hval
  obtain ⟨cs, rfl, hsz, _⟩ := hval
  obtain ⟨fuel, hfu⟩ := hd
  obtain ⟨ys, m, _, hx, hl, hyl, hel⟩ := DataW.trod_array ht hfu
  rw [hc] at hel
  have each : ∀ i (h : i < cs.size), ∃ y ∈ ys[i]?, y.2 = [] ∧ ∃ x, cs[i] = f x := by
    intro i h
    have hi : i < n := by omega
    have h1 := hel i hi
    have h2 : (List.take 1 (List.drop (i * 1) (Value.agg cs).cells.toList)) = [cs[i]] := by
      rw [Nat.mul_one, show (Value.agg cs).cells = cs from rfl, List.drop_eq_getElem_cons (by simpa using h)]
      simp
    rw [h2, List.getElem?_eq_getElem (by omega)] at h1
    obtain ⟨z, hz1, hz2, hz3⟩ := DataW.trod_int he h1
    obtain ⟨x, rfl⟩ := hj z hz3
    refine ⟨ys[i], by simp, by rw [hz2], x, ?_⟩
    rw [hf]; simpa using hz1
  obtain ⟨xs, hxs⟩ := list_of (f := f) cs.toList fun z hz => by
    obtain ⟨i, hi, rfl⟩ := List.getElem_of_mem hz
    obtain ⟨_, _, _, x, h⟩ := each i (by simpa using hi)
    exact ⟨x, by simpa using h⟩
  refine ⟨xs, by rw [← hxs], ?_, ?_⟩
  · have := congrArg List.length hxs
    simp at this; omega
  · injection hx with _ h2
    rw [h2, List.flatMap_eq_nil_iff]
    intro y hy
    obtain ⟨i, hi, rfl⟩ := List.getElem_of_mem hy
    obtain ⟨y', hy', h, _⟩ := each i (by omega)
    rw [List.getElem?_eq_getElem hi] at hy'
    simp at hy'
    rw [hy']; exact h
end
end Go.Proofs.Ytlcaobnojbkmbaa
/- Values told without a world, and what of a world such values speak of: blocks of the call's own, slices that are read, rows that grow. For any program. -/
namespace Go.Proofs.Ytlcaobnojbkmbaa
open Go Go.RowKit
set_option linter.unusedVariables false
set_option linter.unusedSimpArgs false

inductive AV where
  | bad
  | u8 (x : U8) | u32 (x : U32) | u64 (x : U64) | int (n : Int) | bool (b : Bool) | str (bs : List U8)
  | ptr (l g i : Nat)
  | rptr (l : Nat) (A : Option Addr) (i : Nat)
  | slc (l g off len cap : Nat)
  | ros (l : Nat) (A : Option Addr) (n c : Nat)
  | grow (l : Nat) (v : Value) (n : Nat)
  | nils | nilp
  | a8 (xs : List U8) | a32 (xs : List U32) | a64 (xs : List U64)
  | av (xs : List AV) | tup (xs : List AV)
  | raw (v : Value)
  | fnv (F : FuncId) (caps : List AV) | ifc (t : TypeId) (v : AV)
  | m32 (xs : List U32) (t : List AV) | m64 (xs : List U64) (t : List AV)
mutual
def AV.conc : AV → Value
  | .bad => undef
  | .u8 x => .int .u8 (i8 x)
  | .u32 x => .int .u32 (i32 x)
  | .u64 x => .int .u64 (i64 x)
  | .int n => .int .i64 n
  | .bool b => .bool b
  | .str bs => .string (strF bs)
  | .ptr _ g i => .pointer (some ⟨g, i, none⟩)
  | .rptr _ A i => .pointer (A.map (·.add i))
  | .slc _ g off len cap => .slice (some ⟨g, off, none⟩) len cap
  | .ros _ A n c => .slice A n c
  | .grow _ v _ => v
  | .nils => .slice none 0 0
  | .nilp => .pointer none
  | .a8 xs => .agg (cs8 xs)
  | .a32 xs => .agg (cs32 xs)
  | .a64 xs => .agg (cs64 xs)
  | .av xs => .agg (AV.concs xs).toArray
  | .tup xs => .tuple (AV.concs xs).toArray
  | .raw v => v
  | .fnv F caps => .func (.func F) #[] (AV.concs caps).toArray
  | .ifc t v => .iface t v.conc
  | .m32 xs t => .agg (xs.map v32 ++ AV.concs t).toArray
  | .m64 xs t => .agg (xs.map v64 ++ AV.concs t).toArray
def AV.concs : List AV → List Value
  | [] => []
  | x :: r => x.conc :: AV.concs r
end
theorem concs_map : ∀ xs : List AV, AV.concs xs = xs.map AV.conc
  | [] => rfl
  | x :: r => by rw [AV.concs, concs_map r]; rfl
/-- Of 'bad' nothing is said. -/
def AV.is (v : AV) (V : Value) : Prop := v = .bad ∨ V = v.conc
theorem AV.is_refl (v : AV) : v.is v.conc := .inr rfl
/-- Does it take one cell? -/
def AV.one : AV → Bool
  | .bad | .a8 _ | .a32 _ | .a64 _ | .av _ | .tup _ | .grow .. | .m32 .. | .m64 .. => false
  | .raw v => v.oneCell'
  | _ => true
theorem AV.one_ok (v : AV) (h : v.one = true) : v.conc.oneCell' = true := by
  cases v <;> first | (simp [AV.one] at h; done) | rfl | exact h

inductive Cells where
  | c8 (xs : List U8) | c32 (xs : List U32) | c64 (xs : List U64) | cv (xs : List AV)
  | m32 (xs : List U32) (t : List AV) | m64 (xs : List U64) (t : List AV)
def Cells.vals : Cells → List Value
  | .c8 xs => xs.map v8
  | .c32 xs => xs.map v32
  | .c64 xs => xs.map v64
  | .cv xs => xs.map AV.conc
  | .m32 xs t => xs.map v32 ++ t.map AV.conc
  | .m64 xs t => xs.map v64 ++ t.map AV.conc
/-- Words ahead of other values, all as values. -/
def avs32 (xs : List U32) (t : List AV) : List AV := xs.map AV.u32 ++ t
def avs64 (xs : List U64) (t : List AV) : List AV := xs.map AV.u64 ++ t
theorem avs32_conc (xs : List U32) (t : List AV) : (avs32 xs t).map AV.conc = xs.map v32 ++ t.map AV.conc := by
  simp [avs32, AV.conc, v32, Function.comp_def]
theorem avs64_conc (xs : List U64) (t : List AV) : (avs64 xs t).map AV.conc = xs.map v64 ++ t.map AV.conc := by
  simp [avs64, AV.conc, v64, Function.comp_def]
def Cells.len : Cells → Nat
  | .c8 xs => xs.length
  | .c32 xs => xs.length
  | .c64 xs => xs.length
  | .cv xs => xs.length
  | .m32 xs t => xs.length + t.length
  | .m64 xs t => xs.length + t.length
def Cells.ones : Cells → Bool
  | .cv xs => xs.all AV.one
  | .m32 _ t => t.all AV.one
  | .m64 _ t => t.all AV.one
  | _ => true
def Cells.get : Cells → Nat → AV
  | .c8 xs, i => .u8 (g8 xs i)
  | .c32 xs, i => .u32 (g32 xs i)
  | .c64 xs, i => .u64 (g64 xs i)
  | .cv xs, i => xs.getD i .bad
  | .m32 xs t, i => if i < xs.length then .u32 (g32 xs i) else t.getD (i - xs.length) .bad
  | .m64 xs t, i => if i < xs.length then .u64 (g64 xs i) else t.getD (i - xs.length) .bad
/-- A part, as an aggregate. -/
def Cells.sub : Cells → Nat → Nat → AV
  | .c8 xs, i, n => .a8 ((xs.drop i).take n)
  | .c32 xs, i, n => .a32 ((xs.drop i).take n)
  | .c64 xs, i, n => .a64 ((xs.drop i).take n)
  | .cv xs, i, n => .av ((xs.drop i).take n)
  | .m32 xs t, i, n => if i = 0 ∧ n = xs.length then .a32 xs else if i + n ≤ xs.length then .a32 ((xs.drop i).take n) else .av (((avs32 xs t).drop i).take n)
  | .m64 xs t, i, n => if i = 0 ∧ n = xs.length then .a64 xs else if i + n ≤ xs.length then .a64 ((xs.drop i).take n) else .av (((avs64 xs t).drop i).take n)
def Cells.part : Cells → Nat → Nat → Cells
  | .c8 xs, i, n => .c8 ((xs.drop i).take n)
  | .c32 xs, i, n => .c32 ((xs.drop i).take n)
  | .c64 xs, i, n => .c64 ((xs.drop i).take n)
  | .cv xs, i, n => .cv ((xs.drop i).take n)
  | .m32 xs t, i, n => if i + n ≤ xs.length then .c32 ((xs.drop i).take n) else .cv (((avs32 xs t).drop i).take n)
  | .m64 xs t, i, n => if i + n ≤ xs.length then .c64 ((xs.drop i).take n) else .cv (((avs64 xs t).drop i).take n)
def Cells.agg : Cells → AV
  | .c8 xs => .a8 xs
  | .c32 xs => .a32 xs
  | .c64 xs => .a64 xs
  | .cv xs => .av xs
  | .m32 xs t => .m32 xs t
  | .m64 xs t => .m64 xs t
def AV.cells : AV → Option Cells
  | .a8 xs => some (.c8 xs)
  | .a32 xs => some (.c32 xs)
  | .a64 xs => some (.c64 xs)
  | .av xs => some (.cv xs)
  | .m32 xs t => some (.m32 xs t)
  | .m64 xs t => some (.m64 xs t)
  | .u8 x => some (.c8 [x])
  | .u32 x => some (.c32 [x])
  | .u64 x => some (.c64 [x])
  | .bad | .tup _ | .raw _ | .grow .. => none
  | v => some (.cv [v])
/-- The cells with others put in from i on. -/
def Cells.upd : Cells → Nat → Cells → Option Cells
  | .c8 xs, i, .c8 ys => some (.c8 (xs.take i ++ ys ++ xs.drop (i + ys.length)))
  | .c32 xs, i, .c32 ys => some (.c32 (xs.take i ++ ys ++ xs.drop (i + ys.length)))
  | .c64 xs, i, .c64 ys => some (.c64 (xs.take i ++ ys ++ xs.drop (i + ys.length)))
  | .cv xs, i, .cv ys => if ys.all AV.one then some (.cv (xs.take i ++ ys ++ xs.drop (i + ys.length))) else none
  | .m32 xs t, i, .c32 ys => if i = 0 ∧ ys.length = xs.length then some (.m32 ys t) else none
  | .m64 xs t, i, .c64 ys => if i = 0 ∧ ys.length = xs.length then some (.m64 ys t) else none
  | _, _, _ => none
def Cells.set : Cells → Nat → AV → Option Cells
  | .c8 xs, i, .u8 x => some (.c8 (xs.set i x))
  | .c32 xs, i, .u32 x => some (.c32 (xs.set i x))
  | .c64 xs, i, .u64 x => some (.c64 (xs.set i x))
  | .cv xs, i, x => if x.one then some (.cv (xs.set i x)) else none
  | .m32 xs t, i, x => if xs.length ≤ i ∧ x.one = true then some (.m32 xs (t.set (i - xs.length) x)) else none
  | .m64 xs t, i, x => if xs.length ≤ i ∧ x.one = true then some (.m64 xs (t.set (i - xs.length) x)) else none
  | _, _, _ => none
def Cells.cat : Cells → Cells → Option Cells
  | .c8 xs, .c8 ys => some (.c8 (xs ++ ys))
  | .c32 xs, .c32 ys => some (.c32 (xs ++ ys))
  | .c64 xs, .c64 ys => some (.c64 (xs ++ ys))
  | .cv xs, .cv ys => if ys.all AV.one then some (.cv (xs ++ ys)) else none
  | _, _ => none
theorem Cells.vals_length (c : Cells) : c.vals.length = c.len := by cases c <;> simp [vals, len]
theorem Cells.vals_get (c : Cells) (i : Nat) (h : i < c.len) : (c.get i).is (c.vals.getD i undef) ∧ c.vals[i]? = some (c.vals.getD i undef) := by
  have h2 : i < c.vals.length := by rw [vals_length]; exact h
  refine ⟨?_, by simp [h2]⟩
  cases c <;> simp only [len] at h <;> right
  case m32 xs t =>
    simp only [vals, get]
    by_cases hi : i < xs.length
    · rw [if_pos hi]; simp [AV.conc, g32, v32, hi, List.getElem?_append_left]
    · rw [if_neg hi]
      have h3 : i - xs.length < t.length := by omega
      simp [List.getElem?_append_right, Nat.not_lt.1 hi, h3]
  case m64 xs t =>
    simp only [vals, get]
    by_cases hi : i < xs.length
    · rw [if_pos hi]; simp [AV.conc, g64, v64, hi, List.getElem?_append_left]
    · rw [if_neg hi]
      have h3 : i - xs.length < t.length := by omega
      simp [List.getElem?_append_right, Nat.not_lt.1 hi, h3]
  all_goals simp [vals, get, AV.conc, g8, g32, g64, v8, v32, v64, h]
theorem take_part {α : Type} {a b : List α} {i n : Nat} (h : i + n ≤ a.length) : (a.drop i).take n = ((a ++ b).drop i).take n := by
  rw [List.drop_append_of_le_length (by omega), List.take_append_of_le_length (by rw [List.length_drop]; omega)]
theorem Cells.vals_part (c : Cells) (i n : Nat) : (c.part i n).vals = (c.vals.drop i).take n := by
  cases c
  case m32 xs t =>
    by_cases hin : i + n ≤ xs.length
    · simp only [part, if_pos hin, vals]; rw [← take_part (by simpa using hin)]; simp [List.map_take, List.map_drop]
    · simp only [part, if_neg hin, vals]; rw [← avs32_conc]; simp [List.map_take, List.map_drop]
  case m64 xs t =>
    by_cases hin : i + n ≤ xs.length
    · simp only [part, if_pos hin, vals]; rw [← take_part (by simpa using hin)]; simp [List.map_take, List.map_drop]
    · simp only [part, if_neg hin, vals]; rw [← avs64_conc]; simp [List.map_take, List.map_drop]
  all_goals simp [part, vals, List.map_take, List.map_drop]
theorem Cells.part_ones (c : Cells) (i n : Nat) (h : c.ones = true) : (c.part i n).ones = true := by
  have aux : ∀ xs : List AV, (∀ x ∈ xs, x.one = true) → ((xs.drop i).take n).all AV.one = true := fun xs hx => by
    simp only [List.all_eq_true]; intro y hy; exact hx y (List.mem_of_mem_drop (List.mem_of_mem_take hy))
  cases c
  case cv xs => exact aux xs (List.all_eq_true.1 h)
  case m32 xs t =>
    by_cases hin : i + n ≤ xs.length
    · simp only [part, if_pos hin, ones]
    · simp only [part, if_neg hin, ones]
      refine aux _ fun x hx => ?_
      rcases List.mem_append.1 hx with hx | hx
      · obtain ⟨y, _, rfl⟩ := List.mem_map.1 hx; rfl
      · exact List.all_eq_true.1 h x hx
  case m64 xs t =>
    by_cases hin : i + n ≤ xs.length
    · simp only [part, if_pos hin, ones]
    · simp only [part, if_neg hin, ones]
      refine aux _ fun x hx => ?_
      rcases List.mem_append.1 hx with hx | hx
      · obtain ⟨y, _, rfl⟩ := List.mem_map.1 hx; rfl
      · exact List.all_eq_true.1 h x hx
  all_goals rfl
theorem Cells.part_len (c : Cells) (i n : Nat) : (c.part i n).len = min n (c.len - i) := by
  rw [← Cells.vals_length, Cells.vals_part, ← Cells.vals_length]; simp
theorem Cells.sub_eq (c : Cells) (i n : Nat) : c.sub i n = (c.part i n).agg := by
  cases c
  case m32 xs t =>
    simp only [sub, part]
    by_cases h : i = 0 ∧ n = xs.length
    · obtain ⟨rfl, rfl⟩ := h; simp [agg]
    · rw [if_neg h]; split <;> rfl
  case m64 xs t =>
    simp only [sub, part]
    by_cases h : i = 0 ∧ n = xs.length
    · obtain ⟨rfl, rfl⟩ := h; simp [agg]
    · rw [if_neg h]; split <;> rfl
  all_goals rfl
theorem Cells.agg_conc (c : Cells) : c.agg.conc = .agg c.vals.toArray := by
  cases c <;> simp [agg, AV.conc, vals, cs8, cs32, cs64, concs_map]
theorem Cells.ones_ok (c : Cells) (h : c.ones = true) : ∀ v ∈ c.vals, v.oneCell' = true := by
  intro v hv
  cases c with
  | c8 xs => obtain ⟨x, _, rfl⟩ := List.mem_map.1 hv; rfl
  | c32 xs => obtain ⟨x, _, rfl⟩ := List.mem_map.1 hv; rfl
  | c64 xs => obtain ⟨x, _, rfl⟩ := List.mem_map.1 hv; rfl
  | cv xs =>
    obtain ⟨x, hx, rfl⟩ := List.mem_map.1 hv
    exact AV.one_ok x ((List.all_eq_true.1 h) x hx)
  | m32 xs t =>
    rcases List.mem_append.1 hv with hv | hv
    · obtain ⟨x, _, rfl⟩ := List.mem_map.1 hv; rfl
    · obtain ⟨x, hx, rfl⟩ := List.mem_map.1 hv
      exact AV.one_ok x ((List.all_eq_true.1 h) x hx)
  | m64 xs t =>
    rcases List.mem_append.1 hv with hv | hv
    · obtain ⟨x, _, rfl⟩ := List.mem_map.1 hv; rfl
    · obtain ⟨x, hx, rfl⟩ := List.mem_map.1 hv
      exact AV.one_ok x ((List.all_eq_true.1 h) x hx)
theorem AV.cells_ok (v : AV) (c : Cells) (h : v.cells = some c) (V : Value) (hV : v.is V) : V.cells = c.vals.toArray := by
  rcases hV with rfl | rfl
  · cases h
  · cases v <;> simp only [AV.cells, Option.some.injEq, reduceCtorEq] at h <;> subst h <;> simp [AV.conc, Value.cells, Cells.vals, cs8, cs32, cs64, v8, v32, v64, concs_map]
theorem Cells.set_ok (c : Cells) (i : Nat) (v : AV) (c' : Cells) (h : c.set i v = some c') : c'.vals = c.vals.set i v.conc ∧ c'.len = c.len ∧ v.conc.oneCell' = true ∧ v ≠ .bad := by
  cases c
  case cv xs =>
    have h : (if v.one then some (Cells.cv (xs.set i v)) else none) = some c' := by cases v <;> exact h
    split at h
    · rename_i h1
      injection h with h; subst h
      exact ⟨by simp [vals, List.map_set], by simp [len], AV.one_ok _ h1, by intro e; rw [e] at h1; cases h1⟩
    · cases h
  case m32 xs t =>
    have h : (if xs.length ≤ i ∧ v.one = true then some (Cells.m32 xs (t.set (i - xs.length) v)) else none) = some c' := by cases v <;> exact h
    split at h
    · rename_i h1
      injection h with h; subst h
      refine ⟨?_, by simp [len], AV.one_ok _ h1.2, by intro e; rw [e] at h1; cases h1.2⟩
      simp only [vals, List.map_set]
      rw [List.set_append_right _ _ (by simpa using h1.1)]
      simp
    · cases h
  case m64 xs t =>
    have h : (if xs.length ≤ i ∧ v.one = true then some (Cells.m64 xs (t.set (i - xs.length) v)) else none) = some c' := by cases v <;> exact h
    split at h
    · rename_i h1
      injection h with h; subst h
      refine ⟨?_, by simp [len], AV.one_ok _ h1.2, by intro e; rw [e] at h1; cases h1.2⟩
      simp only [vals, List.map_set]
      rw [List.set_append_right _ _ (by simpa using h1.1)]
      simp
    · cases h
  all_goals
    cases v <;> simp only [set, Option.some.injEq, reduceCtorEq] at h
    subst h
    exact ⟨by simp [vals, List.map_set, AV.conc, v8, v32, v64], by simp [len], rfl, by simp⟩
theorem Cells.upd_ok (c : Cells) (i : Nat) (d c' : Cells) (h : c.upd i d = some c') (hi : i + d.len ≤ c.len) : c'.vals = c.vals.take i ++ d.vals ++ c.vals.drop (i + d.vals.length) ∧ c'.len = c.len := by
  cases c <;> cases d <;> simp only [upd, Option.some.injEq, reduceCtorEq, Option.ite_none_right_eq_some] at h
  case m32.c32 xs t ys =>
    obtain ⟨⟨h0, h1⟩, h⟩ := h
    (try simp only [Option.some.injEq] at h)
    subst h0
    subst h
    refine ⟨?_, by simp [len, h1]⟩
    simp only [vals, List.length_map, Nat.zero_add, List.take_zero, List.nil_append]
    rw [h1, List.drop_left' (by simp)]
  case m64.c64 xs t ys =>
    obtain ⟨⟨h0, h1⟩, h⟩ := h
    (try simp only [Option.some.injEq] at h)
    subst h0
    subst h
    refine ⟨?_, by simp [len, h1]⟩
    simp only [vals, List.length_map, Nat.zero_add, List.take_zero, List.nil_append]
    rw [h1, List.drop_left' (by simp)]
  all_goals
    (try replace h := h.2)
    (try simp only [Option.some.injEq] at h)
    subst h
    simp only [len] at hi
    exact ⟨by simp [vals, List.map_take, List.map_drop], by simp [len]; omega⟩
theorem Cells.upd_ones (c : Cells) (i : Nat) (d c' : Cells) (h : c.upd i d = some c') (h1 : c.ones = true) : c'.ones = true := by
  cases c <;> cases d <;> simp only [upd, Option.some.injEq, reduceCtorEq, Option.ite_none_right_eq_some] at h <;> first
    | (subst h; rfl)
    | (obtain ⟨_, h⟩ := h
       (try simp only [Option.some.injEq] at h)
       subst h
       exact h1)
    | (obtain ⟨h2, h⟩ := h
       (try simp only [Option.some.injEq] at h)
       subst h
       simp only [ones, List.all_eq_true, List.mem_append] at h1 h2 ⊢
       rintro x ((hx | hx) | hx)
       · exact h1 x (List.mem_of_mem_take hx)
       · exact h2 x hx
       · exact h1 x (List.mem_of_mem_drop hx))
theorem Cells.cat_ones (c d c' : Cells) (h : c.cat d = some c') (h1 : c.ones = true) : c'.ones = true := by
  cases c <;> cases d <;> simp only [cat, Option.some.injEq, reduceCtorEq, Option.ite_none_right_eq_some] at h <;> first
    | (subst h; rfl)
    | (obtain ⟨h2, h⟩ := h
       (try simp only [Option.some.injEq] at h)
       subst h
       simp only [ones, List.all_eq_true, List.mem_append] at h1 h2 ⊢
       rintro x (hx | hx)
       · exact h1 x hx
       · exact h2 x hx)
theorem Cells.set_ones (c : Cells) (i : Nat) (v : AV) (c' : Cells) (h : c.set i v = some c') (h1 : c.ones = true) : c'.ones = true := by
  have aux : ∀ (xs : List AV) (j : Nat), xs.all AV.one = true → v.one = true → (xs.set j v).all AV.one = true := fun xs j h1 ho1 => by
    simp only [List.all_eq_true] at h1 ⊢
    intro x hx
    rcases List.mem_or_eq_of_mem_set hx with hx | rfl
    · exact h1 x hx
    · exact ho1
  cases c
  case cv xs =>
    have h : (if v.one then some (Cells.cv (xs.set i v)) else none) = some c' := by cases v <;> exact h
    split at h
    · rename_i h2; injection h with h; subst h; exact aux _ _ h1 h2
    · cases h
  case m32 xs t =>
    have h : (if xs.length ≤ i ∧ v.one = true then some (Cells.m32 xs (t.set (i - xs.length) v)) else none) = some c' := by cases v <;> exact h
    split at h
    · rename_i h2; injection h with h; subst h; exact aux _ _ h1 h2.2
    · cases h
  case m64 xs t =>
    have h : (if xs.length ≤ i ∧ v.one = true then some (Cells.m64 xs (t.set (i - xs.length) v)) else none) = some c' := by cases v <;> exact h
    split at h
    · rename_i h2; injection h with h; subst h; exact aux _ _ h1 h2.2
    · cases h
  all_goals
    cases v <;> simp only [set, Option.some.injEq, reduceCtorEq] at h
    subst h
    rfl
theorem Cells.cat_ok (c d c' : Cells) (h : c.cat d = some c') : c'.vals = c.vals ++ d.vals ∧ c'.len = c.len + d.len := by
  cases c <;> cases d <;> simp only [cat, Option.some.injEq, reduceCtorEq, Option.ite_none_right_eq_some] at h <;> (try replace h := h.2) <;> (try simp only [Option.some.injEq] at h) <;> subst h <;> exact ⟨by simp [vals], by simp [len]⟩

/-! ### What of a world is known -/
inductive ME where
  | own (g : Nat) (t : TypeId) (cs : Cells)
  | ro (A : Option Addr) (c : Nat) (cs : Cells)
  | row (v : Value) (e : TypeId) (cs : Cells)
  | fix (g : Nat) (o : Obj)
  | frow (v : Value) (cs : Cells)
abbrev Mem := List (Nat × ME)
abbrev Env := List (Nat × AV)
def getA {α : Type} : List (Nat × α) → Nat → Option α
  | [], _ => none
  | (d, v) :: r, k => if d = k then some v else getA r k
def setA {α : Type} : List (Nat × α) → Nat → α → List (Nat × α)
  | [], _, _ => []
  | (d, v) :: r, k, e => if d = k then (d, e) :: r else (d, v) :: setA r k e
def delA {α : Type} : List (Nat × α) → Nat → List (Nat × α)
  | [], _ => []
  | (d, v) :: r, k => if d = k then delA r k else (d, v) :: delA r k
theorem getA_setA {α : Type} (m : List (Nat × α)) (k : Nat) (e : α) (j : Nat) : getA (setA m k e) j = if j = k then (getA m k).map (fun _ => e) else getA m j := by
  induction m with
  | nil => simp [setA, getA]
  | cons p r ih =>
    obtain ⟨d, v⟩ := p
    simp only [setA]
    by_cases hd : d = k
    · subst hd
      by_cases hj : j = d
      · subst hj; simp [getA]
      · simp [getA, hj, Ne.symm hj]
    · simp only [hd, if_false, getA, ih]
      by_cases hj : j = k
      · subst hj; simp [hd]
      · simp only [hj, if_false]
theorem getA_delA {α : Type} (m : List (Nat × α)) (k : Nat) (j : Nat) : getA (delA m k) j = if j = k then none else getA m j := by
  induction m with
  | nil => simp [delA, getA]
  | cons p r ih =>
    obtain ⟨d, v⟩ := p
    simp only [delA]
    by_cases hd : d = k
    · subst hd
      simp only [if_true, ih]
      by_cases hj : j = d
      · simp [hj]
      · simp [getA, hj, Ne.symm hj]
    · simp only [hd, if_false, getA, ih]
      by_cases hj : j = k
      · subst hj; simp [hd]
      · simp [hj]
def blkA : Option Addr → Option Nat
  | some a => some a.block
  | none => none
def blkV : Value → Option Nat
  | .slice (some a) _ _ => some a.block
  | _ => none
/-- The block of a slice, if there is any room in it. -/
def blkC (A : Option Addr) (c : Nat) : Option Nat := if c = 0 then none else blkA A
theorem blkC_A {A : Option Addr} {c k : Nat} (h : blkC A c = some k) : blkA A = some k := by
  unfold blkC at h; split at h
  · cases h
  · exact h
theorem blkC_ne {A : Option Addr} {c k : Nat} (h : blkC A c = some k) : c ≠ 0 := fun e => by unfold blkC at h; rw [if_pos e] at h; cases h
theorem blkC_up {A : Option Addr} {c k : Nat} (n : Nat) (h : blkC A c = some k) : blkC A (c + n) = some k := by
  have h1 := blkC_ne h
  have h2 := blkC_A h
  unfold blkC; rw [if_neg (by omega)]; exact h2
theorem blkC_dn {A : Option Addr} {c n k : Nat} (hn : n ≤ c) (h : blkC A (c + n) = some k) : blkC A c = some k := by
  have h1 := blkC_ne h
  have h2 := blkC_A h
  unfold blkC; rw [if_neg (by omega)]; exact h2
theorem blkC_some {A : Option Addr} {c : Nat} (h : c ≠ 0) : blkC A c = blkA A := if_neg h
/-- An argument's block. -/
def blkW : Value → Option Nat
  | .slice A _ c => blkC A c
  | .pointer (some a) => some a.block
  | _ => none
def ME.blk : ME → Option Nat
  | .own g _ _ => some g
  | .ro A c cs => blkC A (c + cs.len)
  | .row v _ _ => blkV v
  | .fix g _ => some g
  | .frow v _ => blkV v
/-- Is it written to? -/
def ME.mine : ME → Bool
  | .ro .. => false
  | .fix .. => false
  | .frow .. => false
  | _ => true
def MEok (pv : Nat → Prop) (w0 W : World) : ME → Prop
  | .own g t cs => Own W g t cs.vals.toArray ∧ w0.heap.size ≤ g ∧ cs.ones = true
  | .ro A c cs => Sl id W A cs.vals ∧ cs.len ≤ c ∧ (∀ k, blkC A (c + cs.len) = some k → k < W.heap.size ∧ (w0.heap.size ≤ k ∨ pv k))
  | .row v e cs => W.ownsRow w0.heap.size e 1 v cs.len cs.vals ∧ cs.ones = true
  | .fix g o => W.heap[g]? = some o ∧ w0.heap.size ≤ g
  | .frow v cs => ∃ A c, v = .slice A cs.len c ∧ cs.len ≤ c ∧ Sl id W A cs.vals ∧ ∀ k, blkA A = some k → k < W.heap.size ∧ (w0.heap.size ≤ k ∨ pv k)
structure MRel (pv : Nat → Prop) (w0 : World) (m : Mem) (W : World) : Prop where
  below : Below w0.heap.size w0 W
  ok : ∀ l e, getA m l = some e → MEok pv w0 W e
  sep : ∀ l e l' e', getA m l = some e → getA m l' = some e' → l ≠ l' → e.mine = true → ∀ k, e.blk = some k → e'.blk ≠ some k
theorem MEok.blk_lt {pv : Nat → Prop} {w0 W : World} {e : ME} (h : MEok pv w0 W e) : ∀ k, e.blk = some k → k < W.heap.size := by
  intro k hk
  cases e with
  | own g t cs => injection hk with hk; subst hk; exact h.1.lt
  | fix g o => injection hk with hk; subst hk; exact (Array.getElem?_eq_some_iff.1 h.1).1
  | frow v cs =>
    obtain ⟨A, c, rfl, _, _, h3⟩ := h
    exact (h3 k (by cases A with | none => cases hk | some a => exact hk)).1
  | ro A c cs => exact (h.2.2 k hk).1
  | row v e cs =>
    rcases h.1.2 with ⟨rfl, _⟩ | ⟨g, cap, cur, rfl, _, hg, _⟩
    · cases hk
    · injection hk with hk; subst hk; exact (Array.getElem?_eq_some_iff.1 hg).1
theorem MEok.prov {pv : Nat → Prop} {w0 W : World} {e : ME} (h : MEok pv w0 W e) : ∀ k, e.blk = some k → w0.heap.size ≤ k ∨ pv k := by
  intro k hk
  cases e with
  | own g t cs => injection hk with hk; subst hk; exact .inl h.2.1
  | fix g o => injection hk with hk; subst hk; exact .inl h.2
  | frow v cs =>
    obtain ⟨A, c, rfl, _, _, h3⟩ := h
    exact (h3 k (by cases A with | none => cases hk | some a => exact hk)).2
  | ro A c cs => exact (h.2.2 k hk).2
  | row v e cs =>
    rcases h.1.2 with ⟨rfl, _⟩ | ⟨g, cap, cur, rfl, hg0, _⟩
    · cases hk
    · injection hk with hk; subst hk; exact .inl hg0
/-- No blocks but those of the others. -/
def NoNew (mem m : Mem) : Prop := ∀ l e k, getA m l = some e → e.blk = some k → ∃ l0 e0, getA mem l0 = some e0 ∧ e0.blk = some k
/-- No blocks but those of the others and such as were made since. -/
def Near (mem m : Mem) (B : Nat) : Prop := ∀ l e k, getA m l = some e → e.blk = some k → (∃ l0 e0, getA mem l0 = some e0 ∧ e0.blk = some k) ∨ B ≤ k
def blkOf (mem : Mem) (k : Nat) : Prop := ∃ l e, getA mem l = some e ∧ e.blk = some k
/-- All but these blocks are as they were. -/
def Frm (mem : Mem) (W W' : World) : Prop := W.heap.size ≤ W'.heap.size ∧ ∀ k, k < W.heap.size → ¬ blkOf mem k → W'.heap[k]? = W.heap[k]?
theorem Frm.of_below (mem : Mem) {W W' : World} (h : Below W.heap.size W W') : Frm mem W W' := ⟨h.size, fun k hk _ => h.block k hk⟩
theorem Frm.row {mem : Mem} {W : World} {l g : Nat} {e : ME} (he : getA mem l = some e) (hb : e.blk = some g) (cs : Array Value) : Frm mem W (W.setRow g cs) :=
  ⟨by simp, fun k hk hn => setRow_other W g k cs fun e2 => hn ⟨l, e, he, by rw [hb, e2]⟩⟩
theorem Near.set {mem : Mem} {l : Nat} {e e1 : ME} (he : getA mem l = some e) (hb : e1.blk = e.blk) (B : Nat) : Near mem (setA mem l e1) B := fun k d b hd hk => by
  rw [getA_setA] at hd
  split at hd
  · rw [he] at hd; injection hd with hd; subst hd; exact .inl ⟨l, e, he, by rw [← hb]; exact hk⟩
  · exact .inl ⟨k, d, hd, hk⟩
theorem Near.setOwn {mem : Mem} {l g : Nat} {t t' : TypeId} {cs cs' : Cells} {B : Nat} (he : getA mem l = some (.own g t cs)) : Near mem (setA mem l (.own g t' cs')) B := Near.set he (by rfl) B
theorem Near.put {mem : Mem} {l n B : Nat} {e1 : ME} (h1 : ∀ k, e1.blk = some k → blkOf mem k ∨ B ≤ k) : Near mem ((n, e1) :: delA mem l) B := fun k d b hd hk => by
  simp only [getA] at hd
  split at hd
  · injection hd with hd; subst hd; exact h1 b hk
  · rw [getA_delA] at hd
    split at hd
    · cases hd
    · exact .inl ⟨k, d, hd, hk⟩
theorem Near.cons {mem : Mem} {n B : Nat} {e1 : ME} (h1 : ∀ k, e1.blk = some k → blkOf mem k ∨ B ≤ k) : Near mem ((n, e1) :: mem) B := fun k d b hd hk => by
  simp only [getA] at hd
  split at hd
  · injection hd with hd; subst hd; exact h1 b hk
  · exact .inl ⟨k, d, hd, hk⟩
theorem NoNew.refl (m : Mem) : NoNew m m := fun l e k h1 h2 => ⟨l, e, h1, h2⟩
theorem NoNew.near {mem m : Mem} (h : NoNew mem m) (B : Nat) : Near mem m B := fun l e k h1 h2 => .inl (h l e k h1 h2)
/-- A world that differs at most in blocks that this entry does not speak of. -/
theorem MEok.keep {pv : Nat → Prop} {w0 W W' : World} {e : ME} (h : MEok pv w0 W e) (hs : W.heap.size ≤ W'.heap.size) (hb : ∀ k, e.blk = some k → W'.heap[k]? = W.heap[k]?) : MEok pv w0 W' e := by
  cases e with
  | own g t cs => exact ⟨(hb g rfl).trans h.1, h.2⟩
  | fix g o => exact ⟨(hb g rfl).trans h.1, h.2⟩
  | frow v cs =>
    obtain ⟨A, c, rfl, h1, h2, h3⟩ := h
    refine ⟨A, c, rfl, h1, ⟨h2.1, fun i x hx => ?_⟩, fun k hk => ⟨Nat.lt_of_lt_of_le (h3 k hk).1 hs, (h3 k hk).2⟩⟩
    obtain ⟨b, o, rfl, hc⟩ := h2.2 i x hx
    exact ⟨b, o, rfl, (World.cell?_of_block (w := W) (w' := W') (a := ⟨b, o + i, none⟩) (hb b rfl)).trans hc⟩
  | ro A c cs =>
    refine ⟨⟨h.1.1, fun i x hx => ?_⟩, h.2.1, fun k hk => ⟨Nat.lt_of_lt_of_le (h.2.2 k hk).1 hs, (h.2.2 k hk).2⟩⟩
    obtain ⟨b, o, rfl, hc⟩ := h.1.2 i x hx
    have hil := (List.getElem?_eq_some_iff.1 hx).1
    have hvl := Cells.vals_length cs
    have h21 := h.2.1
    exact ⟨b, o, rfl, (World.cell?_of_block (w := W) (w' := W') (a := ⟨b, o + i, none⟩) (hb b (blkC_some (by omega)))).trans hc⟩
  | row v e cs =>
    refine ⟨⟨h.1.1, ?_⟩, h.2⟩
    rcases h.1.2 with hn | ⟨g, cap, cur, rfl, hg0, hg, hrest⟩
    · exact .inl hn
    · exact .inr ⟨g, cap, cur, rfl, hg0, (hb g rfl).trans hg, hrest⟩
section
variable {pv : Nat → Prop} {w0 W W' : World} {m m' : Mem}
theorem MRel.size (h : MRel pv w0 m W) : w0.heap.size ≤ W.heap.size := h.below.size
theorem MRel.down (h : MRel pv w0 m W) (hb : Below W.heap.size W W') : MRel pv w0 m W' where
  below := h.below.trans (hb.mono h.below.size)
  ok := fun l e he => (h.ok l e he).keep hb.size fun k hk => hb.block k ((h.ok l e he).blk_lt k hk)
  sep := h.sep
/-- Less is known. -/
theorem MRel.less (h : MRel pv w0 m W) (hm : ∀ l e, getA m' l = some e → getA m l = some e) : MRel pv w0 m' W where
  below := h.below
  ok := fun l e he => h.ok l e (hm l e he)
  sep := fun l e l' e' he he' => h.sep l e l' e' (hm l e he) (hm l' e' he')
theorem MRel.drop (h : MRel pv w0 m W) (l : Nat) : MRel pv w0 (delA m l) W := h.less fun k e hk => by
  rw [getA_delA] at hk
  split at hk
  · cases hk
  · exact hk
/-- One more entry, of a block that none of the others has, or that is only read. -/
theorem MRel.add (h : MRel pv w0 m W) (l : Nat) (e : ME) (he : MEok pv w0 W e) (hs : ∀ l' e', getA m l' = some e' → (e.mine = true ∨ e'.mine = true) → ∀ k, e.blk = some k → e'.blk ≠ some k) : MRel pv w0 ((l, e) :: m) W where
  below := h.below
  ok := fun k d hd => by
    simp only [getA] at hd
    split at hd
    · injection hd with hd; subst hd; exact he
    · exact h.ok k d hd
  sep := fun k d k' d' hd hd' hne hm b hb hb' => by
    simp only [getA] at hd hd'
    split at hd <;> split at hd'
    · omega
    · injection hd with hd; subst hd; exact hs k' d' hd' (.inl hm) b hb hb'
    · injection hd' with hd'; subst hd'; exact hs k d hd (.inr hm) b hb' hb
    · exact h.sep k d k' d' hd hd' hne hm b hb hb'
/-- An entry turned into one of the same block. -/
theorem MRel.turn (h : MRel pv w0 m W) (l : Nat) (e e1 : ME) (he : getA m l = some e) (hb : Below w0.heap.size w0 W') (he1 : MEok pv w0 W' e1) (hblk : (∀ k, e1.blk = some k → e.blk = some k) ∨ (∀ k, e1.blk = some k → W.heap.size ≤ k)) (hm : e1.mine = true → e.mine = true) (hmine : e.mine = true)
    (hs : W.heap.size ≤ W'.heap.size) (hk : ∀ k, k < W.heap.size → e.blk ≠ some k → W'.heap[k]? = W.heap[k]?) : MRel pv w0 (setA m l e1) W' where
  below := hb
  ok := fun k d hd => by
    rw [getA_setA] at hd
    split at hd
    · rw [he] at hd; injection hd with hd; subst hd; exact he1
    · rename_i hne
      exact (h.ok k d hd).keep hs fun b hb => hk b ((h.ok k d hd).blk_lt b hb) fun h2 => h.sep l e k d he hd (Ne.symm hne) hmine b h2 hb
  sep := fun k d k' d' hd hd' hne hmi b hb hb' => by
    rw [getA_setA] at hd hd'
    split at hd <;> split at hd'
    · omega
    · rename_i hkl hkl'
      rw [he] at hd; injection hd with hd; subst hd
      rcases hblk with hblk | hblk
      · exact h.sep l e k' d' he hd' (Ne.symm hkl') hmine b (hblk b hb) hb'
      · have := (h.ok k' d' hd').blk_lt b hb'
        have := hblk b hb
        omega
    · rename_i hkl hkl'
      rw [he] at hd'; injection hd' with hd'; subst hd'
      rcases hblk with hblk | hblk
      · exact h.sep l e k d he hd (Ne.symm hkl) hmine b (hblk b hb') hb
      · have := (h.ok k d hd).blk_lt b hb
        have := hblk b hb'
        omega
    · exact h.sep k d k' d' hd hd' hne hmi b hb hb'
/-- A block that is made. -/
theorem MRel.alloc (h : MRel pv w0 m W) (l : Nat) (t : TypeId) (cs : Cells) (h1 : cs.ones = true) : MRel pv w0 ((l, .own W.heap.size t cs) :: m) (W.alloc (.cells cs.vals.toArray t)) := by
  have hd : MRel pv w0 m (W.alloc (.cells cs.vals.toArray t)) := h.down ((Below.refl _ W).alloc (Nat.le_refl _) _)
  refine hd.add l _ ⟨Own.new W t _, h.size, h1⟩ fun l' e' he' _ k hk hk' => ?_
  have := (h.ok l' e' he').blk_lt k hk'
  injection hk with hk
  omega
/-- A block's cells turned. -/
theorem MRel.write (h : MRel pv w0 m W) {l g : Nat} {t : TypeId} {cs cs' : Cells} (he : getA m l = some (.own g t cs)) (h1 : cs'.ones = true) : MRel pv w0 (setA m l (.own g t cs')) (W.setRow g cs'.vals.toArray) := by
  obtain ⟨ho, hg, _⟩ := h.ok l _ he
  exact h.turn l _ _ he (below_row h.below hg _) ⟨ho.row _, hg, h1⟩ (.inl fun _ h => h) (fun _ => rfl) rfl (by simp) fun k _ hne => setRow_other W g k _ (fun e => hne (by rw [e]; rfl))
theorem MRel.drew (h : MRel pv w0 m W) : MRel pv w0 m W.drew := ⟨h.below.drew, h.ok, h.sep⟩
theorem MRel.fresh (pv : Nat → Prop) (w0 : World) : MRel pv w0 [] w0 := ⟨Below.refl _ _, fun _ _ h => (by cases h), fun _ _ _ _ h => (by cases h)⟩
end
end Go.Proofs.Ytlcaobnojbkmbaa
/- What is owed for each operation, told without a world. For any program. -/
namespace Go.Proofs.Ytlcaobnojbkmbaa
open Go Go.RowKit
set_option linter.unusedVariables false
set_option linter.unusedSimpArgs false
variable {ds : List Deferred}

/-! ### Types -/
inductive TDsc where
  | int (k : IntKind) | iwrap | bool | string | array (n : Nat) (e : TypeId) | slice (e : TypeId) | struct (fs : List (Nat × TypeId × Nat)) | ptr (e : TypeId) | ptrm (e : TypeId) (ms : List (String × FuncId)) | other
def TDsc.agg : TDsc → Bool
  | .array .. | .struct _ => true
  | _ => false
/-- May it be compared, and no interface be met? -/
def TDsc.eqB : TDsc → Bool
  | .array .. => true
  | .struct fs => decide (1 < fs.length)
  | _ => false
structure TI where
  size : Nat
  bytes : Nat
  zero : Cells
  dsc : TDsc
def TI.zeroV (i : TI) : Value := if i.dsc.agg then .agg i.zero.vals.toArray else i.zero.vals.headD undef
def TDsc.ok (P : Program) (t : TypeId) : TDsc → Prop
  | .int k => P.underlying t = some (.int k)
  | .iwrap => P.underlying t = some (.int .i64)
  | .bool => P.underlying t = some .bool
  | .string => P.underlying t = some .string
  | .array n e => P.underlying t = some (.array n e)
  | .slice e => P.underlying t = some (.slice e)
  | .ptr e => P.underlying t = some (.pointer e)
  | .ptrm e ms => P.underlying t = some (.pointer e) ∧ ∀ p ∈ ms, ((P.info? t).bind fun i => i.methods.find? fun m => m.name == p.1).map (fun m => (m.path, m.func)) = some (#[], some (p.2, true))
  | .struct l => ∃ fs, P.underlying t = some (.struct fs) ∧ fs.toList.map (fun f => (f.offset, f.type)) = l.map (fun p => (p.1, p.2.1)) ∧ fs.toList.mapM (fun f => (P.info? f.type).map fun i => (f.offset, i.size)) = some (l.map fun p => (p.1, p.2.2)) ∧ fs.toList.all (fun f => f.name != "_") = true ∧ P.stoodInHeld t = false
  | .other => ∃ d, P.underlying t = some d ∧ (match d with | .struct _ | .array _ _ => true | _ => false) = false
def isOther : Option TypeDesc → Bool
  | some (.struct _) => false
  | some (.array _ _) => false
  | none => false
  | _ => true
theorem other_ok {P : Program} {t : TypeId} (h : isOther (P.underlying t) = true) : TDsc.ok P t .other := by
  cases hu : P.underlying t with
  | none => rw [hu] at h; cases h
  | some d => exact ⟨d, hu, by cases d <;> first | rfl | (rw [hu] at h; cases h)⟩
/-- Fields that are arrays of words, one behind the other. -/
def strU (tt : TypeId → Option TI) : Nat → List (Nat × TypeId × Nat) → Nat → Bool
  | off, [], n => off == n
  | off, (o, ft, sz) :: r, n => o == off && (match tt ft with
    | some fi => fi.size == sz && (match fi.dsc with
      | .array m e => m == sz && (match tt e with
        | some ei => (match ei.dsc with
          | .int .u64 => true
          | _ => false)
        | none => false)
      | _ => false)
    | none => false) && strU tt (off + sz) r n
structure TIok (P : Program) (t : TypeId) (i : TI) : Prop where
  info : (P.info? t).map (fun x => (x.zero, x.size, x.bytes)) = some (some i.zeroV, i.size, i.bytes)
  len : i.zero.len = i.size
  ones : i.zero.ones = true
  one : i.dsc.agg = false → i.size = 1
  dsc : i.dsc.ok P t
  eqg : i.dsc.eqB = true → P.eqGuardType P.depth t = false
abbrev TT := TypeId → Option TI
def TTok (P : Program) (tt : TT) : Prop := ∀ t i, tt t = some i → TIok P t i

/-! ### Operands -/
def absC : Value → AV
  | .int .u8 n => if 0 ≤ n ∧ n < 256 then .u8 (BitVec.ofNat 8 n.toNat) else .raw (.int .u8 n)
  | .int .u32 n => if 0 ≤ n ∧ n < 4294967296 then .u32 (BitVec.ofNat 32 n.toNat) else .raw (.int .u32 n)
  | .int .u64 n => if 0 ≤ n ∧ n < 18446744073709551616 then .u64 (BitVec.ofNat 64 n.toNat) else .raw (.int .u64 n)
  | .int .i64 n => .int n
  | .bool b => .bool b
  | .slice none 0 0 => .nils
  | .pointer none => .nilp
  | v => .raw v
theorem absC_ok (v : Value) : (absC v).conc = v := by
  unfold absC
  split
  · split
    · rename_i h; simp [AV.conc, i8]; omega
    · rfl
  · split
    · rename_i h; simp [AV.conc, i32]; omega
    · rfl
  · split
    · rename_i h; simp [AV.conc, i64]; omega
    · rfl
  all_goals rfl
def ev (env : Env) : Operand → AV
  | .tmp t => (getA env t).getD .bad
  | .const v => absC v
  | .global g => .raw (.pointer (some ⟨g, 0, none⟩))
  | .func f => .fnv f []
structure ERel (ds : List Deferred) (env : Env) (a : Act) (N : Nat) : Prop where
  size : a.tmps.size = N
  defers : a.defers = ds
  get : ∀ d v, getA env d = some v → v.is (a.tmps.getD d undef)
theorem ERel.again {env : Env} {a : Act} {N : Nat} (h : ERel ds env a N) {d : Nat} {v w : AV} (hd : getA env d = some v) (hg : v ≠ .bad) (hc : w.conc = v.conc) : ERel ds ((d, w) :: env) a N where
  size := h.size
  defers := h.defers
  get := fun k u hu => by
    simp only [getA] at hu
    split at hu
    · rename_i hk; subst hk; injection hu with hu; subst hu
      right; rw [hc]
      exact (h.get d v hd).resolve_left hg
    · exact h.get k u hu
theorem ev_ok {env : Env} {a : Act} {N : Nat} (h : ERel ds env a N) (x : Operand) : (ev env x).is (a.eval x) := by
  cases x with
  | tmp t =>
    simp only [ev, Act.eval]
    cases hg : getA env t with
    | none => exact .inl rfl
    | some v => exact h.get t v hg
  | const v => right; simp only [ev, absC_ok, Act.eval]
  | global g => right; rfl
  | func f => right; rfl
theorem ERel.put {env : Env} {a : Act} {N : Nat} (h : ERel ds env a N) (d : Nat) (hd : d < N) (v : AV) (V : Value) (hv : v.is V) : ERel ds ((d, v) :: env) (a.put (some d) V) N where
  size := by simp [Act.put, h.size]
  defers := h.defers
  get := fun k u hu => by
    simp only [getA] at hu
    simp only [Act.put]
    by_cases hk : d = k
    · subst hk
      simp only [if_true, Option.some.injEq] at hu
      subst hu
      have : d < a.tmps.size := by rw [h.size]; exact hd
      simpa [Array.getD, this] using hv
    · simp only [hk, if_false] at hu
      have := h.get k u hu
      rw [show (a.tmps.setIfInBounds d V).getD k undef = a.tmps.getD k undef from ?_]
      · exact this
      · simp [Array.getD_eq_getD_getElem?, Array.getElem?_setIfInBounds, hk]
theorem ERel.less {env env' : Env} {a : Act} {N : Nat} (h : ERel ds env a N) (hl : ∀ d v, getA env' d = some v → getA env d = some v) : ERel ds env' a N := ⟨h.size, h.defers, fun d v hd => h.get d v (hl d v hd)⟩

/-! ### Reckoning -/
def intIn (n : Int) : Prop := -9223372036854775808 ≤ n ∧ n ≤ 9223372036854775807
def iand (x y : Int) : Int := bits .and .i64 x y
def binInt (op : BinOp) (a b : Int) (K : AV → Prop) : Prop :=
  match op with
  | .add => intIn (a + b) ∧ K (.int (a + b))
  | .sub => intIn (a - b) ∧ K (.int (a - b))
  | .mul => intIn (a * b) ∧ K (.int (a * b))
  | .quo => (0 ≤ a ∧ 0 < b ∧ intIn a) ∧ K (.int (a / b))
  | .rem => (0 ≤ a ∧ 0 < b) ∧ K (.int (a % b))
  | .and => K (.int (iand a b))
  | .eql => K (.bool (decide (a = b)))
  | .neq => K (.bool (!decide (a = b)))
  | .lss => K (.bool (decide (a < b)))
  | .leq => K (.bool (decide (a ≤ b)))
  | .gtr => K (.bool (decide (b < a)))
  | .geq => K (.bool (decide (b ≤ a)))
  | _ => False
def bin8 (op : BinOp) (a b : U8) (K : AV → Prop) : Prop :=
  match op with
  | .add => K (.u8 (a + b))
  | .sub => K (.u8 (a - b))
  | .mul => K (.u8 (a * b))
  | .quo => b ≠ 0 ∧ K (.u8 (a / b))
  | .rem => b ≠ 0 ∧ K (.u8 (a % b))
  | .and => K (.u8 (a &&& b))
  | .or => K (.u8 (a ||| b))
  | .xor => K (.u8 (a ^^^ b))
  | .andNot => K (.u8 (a &&& ~~~b))
  | .shl => K (.u8 (a <<< b.toNat))
  | .shr => K (.u8 (a >>> b.toNat))
  | .eql => K (.bool (decide (a = b)))
  | .neq => K (.bool (!decide (a = b)))
  | .lss => K (.bool (decide (a.toNat < b.toNat)))
  | .leq => K (.bool (decide (a.toNat ≤ b.toNat)))
  | .gtr => K (.bool (decide (b.toNat < a.toNat)))
  | .geq => K (.bool (decide (b.toNat ≤ a.toNat)))
def bin32 (op : BinOp) (a b : U32) (K : AV → Prop) : Prop :=
  match op with
  | .add => K (.u32 (a + b))
  | .sub => K (.u32 (a - b))
  | .mul => K (.u32 (a * b))
  | .quo => b ≠ 0 ∧ K (.u32 (a / b))
  | .rem => b ≠ 0 ∧ K (.u32 (a % b))
  | .and => K (.u32 (a &&& b))
  | .or => K (.u32 (a ||| b))
  | .xor => K (.u32 (a ^^^ b))
  | .andNot => K (.u32 (a &&& ~~~b))
  | .shl => K (.u32 (a <<< b.toNat))
  | .shr => K (.u32 (a >>> b.toNat))
  | .eql => K (.bool (decide (a = b)))
  | .neq => K (.bool (!decide (a = b)))
  | .lss => K (.bool (decide (a.toNat < b.toNat)))
  | .leq => K (.bool (decide (a.toNat ≤ b.toNat)))
  | .gtr => K (.bool (decide (b.toNat < a.toNat)))
  | .geq => K (.bool (decide (b.toNat ≤ a.toNat)))
def bin64 (op : BinOp) (a b : U64) (K : AV → Prop) : Prop :=
  match op with
  | .add => K (.u64 (a + b))
  | .sub => K (.u64 (a - b))
  | .mul => K (.u64 (a * b))
  | .quo => b ≠ 0 ∧ K (.u64 (a / b))
  | .rem => b ≠ 0 ∧ K (.u64 (a % b))
  | .and => K (.u64 (a &&& b))
  | .or => K (.u64 (a ||| b))
  | .xor => K (.u64 (a ^^^ b))
  | .andNot => K (.u64 (a &&& ~~~b))
  | .shl => K (.u64 (a <<< b.toNat))
  | .shr => K (.u64 (a >>> b.toNat))
  | .eql => K (.bool (decide (a = b)))
  | .neq => K (.bool (!decide (a = b)))
  | .lss => K (.bool (decide (a.toNat < b.toNat)))
  | .leq => K (.bool (decide (a.toNat ≤ b.toNat)))
  | .gtr => K (.bool (decide (b.toNat < a.toNat)))
  | .geq => K (.bool (decide (b.toNat ≤ a.toNat)))
/-- A shift by a count. -/
def shVC (op : BinOp) (x : AV) (n : Nat) (K : AV → Prop) : Prop :=
  match op, x with
  | .shl, .u8 a => K (.u8 (a <<< n))
  | .shr, .u8 a => K (.u8 (a >>> n))
  | .shl, .u32 a => K (.u32 (a <<< n))
  | .shr, .u32 a => K (.u32 (a >>> n))
  | .shl, .u64 a => K (.u64 (a <<< n))
  | .shr, .u64 a => K (.u64 (a >>> n))
  | .shl, .int a => (n ≤ 64 ∧ intIn (a * 2 ^ n)) ∧ K (.int (a * 2 ^ n))
  | .shr, .int a => (n ≤ 62 ∧ 0 ≤ a) ∧ K (.int (a / 2 ^ n))
  | _, _ => False
def binVC (op : BinOp) (x y : AV) (K : AV → Prop) : Prop :=
  match x, y with
  | .u8 a, .u8 b => bin8 op a b K
  | .u32 a, .u32 b => bin32 op a b K
  | .u64 a, .u64 b => bin64 op a b K
  | .int a, .int b => (match op with
    | .shl | .shr => 0 ≤ b ∧ shVC op (.int a) b.toNat K
    | _ => binInt op a b K)
  | .str a, .str b => (match op with
    | .eql => K (.bool (decide (a = b)))
    | .neq => K (.bool (!decide (a = b)))
    | _ => False)
  | x, .int b => 0 ≤ b ∧ shVC op x b.toNat K
  | x, .u64 b => shVC op x b.toNat K
  | x, .u32 b => shVC op x b.toNat K
  | x, .u8 b => shVC op x b.toNat K
  | _, _ => False
def iw (n : Int) : Int := IntKind.i64.wrap n
/-- Whole numbers that may run over. -/
def binW (op : BinOp) (x y : AV) (K : AV → Prop) : Prop :=
  match x, y with
  | .int a, .int b => (match op with
    | .add => K (.int (iw (a + b)))
    | .sub => K (.int (iw (a - b)))
    | _ => binVC op (.int a) (.int b) K)
  | x, y => binVC op x y K
/-- Is it told so? -/
def TDsc.isW : TDsc → Bool
  | .iwrap => true
  | .int _ => false
  | .bool => false
  | .string => false
  | .array _ _ => false
  | .slice _ => false
  | .struct _ => false
  | .ptr _ => false
  | .ptrm .. => false
  | .other => false
def wrapT (o : Option TI) : Bool :=
  match o with
  | some i => i.dsc.isW
  | none => false
def binT (w : Bool) (op : BinOp) (x y : AV) (K : AV → Prop) : Prop :=
  match w with
  | true => binW op x y K
  | false => binVC op x y K
def unVC (op : UnOp) (x : AV) (K : AV → Prop) : Prop :=
  match op, x with
  | .not, .bool b => K (.bool (!b))
  | .xor, .u8 a => K (.u8 (~~~a))
  | .xor, .u32 a => K (.u32 (~~~a))
  | .xor, .u64 a => K (.u64 (~~~a))
  | .neg, .int n => intIn (0 - n) ∧ K (.int (0 - n))
  | _, _ => False
def cvVC (k : IntKind) (x : AV) (K : AV → Prop) : Prop :=
  match k, x with
  | .u8, .u8 a => K (.u8 a)
  | .u32, .u8 a => K (.u32 (a.setWidth 32))
  | .u64, .u8 a => K (.u64 (a.setWidth 64))
  | .i64, .u8 a => K (.int a.toNat)
  | .u8, .u32 a => K (.u8 (a.setWidth 8))
  | .u32, .u32 a => K (.u32 a)
  | .u64, .u32 a => K (.u64 (a.setWidth 64))
  | .i64, .u32 a => K (.int a.toNat)
  | .u8, .u64 a => K (.u8 (a.setWidth 8))
  | .u32, .u64 a => K (.u32 (a.setWidth 32))
  | .u64, .u64 a => K (.u64 a)
  | .i64, .u64 a => a.toNat < 9223372036854775808 ∧ K (.int a.toNat)
  | .u8, .int n => K (.u8 (BitVec.ofInt 8 n))
  | .u32, .int n => K (.u32 (BitVec.ofInt 32 n))
  | .u64, .int n => K (.u64 (BitVec.ofInt 64 n))
  | .i64, .int n => intIn n ∧ K (.int n)
  | _, _ => False

/-! ### Memory -/
/-- What a slice holds; 'z' tells of what kind nothing is. -/
def rdVC (mem : Mem) (z : Cells) (v : AV) (K : Cells → Prop) : Prop :=
  match v with
  | .nils => K (z.part 0 0)
  | .ros l A n c => (match getA mem l with
    | some (.ro A' c' cs) => (A' = A ∧ c' = c ∧ cs.len = n) ∧ K cs
    | _ => False)
  | .slc l g off len cap => (match getA mem l with
    | some (.own g' t cs) => (g' = g ∧ off + len ≤ cs.len ∧ len ≤ cap ∧ cs.len ≤ 9223372036854775807) ∧ K (cs.part off len)
    | _ => False)
  | .grow l v n => (match getA mem l with
    | some (.row v' e cs) => (v' = v ∧ cs.len = n) ∧ K cs
    | some (.frow v' cs) => (v' = v ∧ cs.len = n) ∧ K cs
    | _ => False)
  | _ => False
def AV.good : AV → Bool
  | .bad => false
  | _ => true
theorem Cells.sub_good (c : Cells) (i n : Nat) : (c.sub i n).good = true := by
  rw [Cells.sub_eq]
  cases (c.part i n) <;> rfl
/-- A part of cells as a value of a type. -/
def pickC (i : TI) (cs : Cells) (off : Nat) (K : AV → Prop) : Prop :=
  if i.dsc.agg then off + i.size ≤ cs.len ∧ K (cs.sub off i.size) else off < cs.len ∧ (cs.get off).good = true ∧ K (cs.get off)
/-- Where a slice begins. -/
def baseV : Value → Option Addr
  | .slice A _ _ => A
  | _ => none
def loadVC (mem : Mem) (i : TI) (v : AV) (K : AV → Prop) : Prop :=
  match v with
  | .ptr l g j => (match getA mem l with
    | some (.own g' t cs) => g' = g ∧ (if i.dsc.agg = true ∧ j = 0 ∧ i.size = cs.len then K cs.agg else pickC i cs j K)
    | _ => False)
  | .rptr l A j => (match getA mem l with
    | some (.ro A' c' cs) => A' = A ∧ 0 < cs.len ∧ pickC i cs j K
    | some (.row v' e cs) => baseV v' = A ∧ 0 < cs.len ∧ pickC i cs j K
    | _ => False)
  | _ => False
/-- The parts of a literal, put into the cells. -/
def fillVC (place : Nat → Option (Nat × Nat)) (cs : Cells) (ps : List (Nat × AV)) (K : Cells → Prop) : Prop :=
  match ps with
  | [] => K cs
  | (i, v) :: r => (match place i with
    | some (off, size) => if size = 1 then off < cs.len ∧ (match cs.set off v with
        | some cs' => fillVC place cs' r K
        | none => False) else (match v.cells with
      | some d => (d.len = size ∧ off + size ≤ cs.len) ∧ (match cs.upd off d with
        | some cs' => fillVC place cs' r K
        | none => False)
      | none => False)
    | none => False)
/-- Cells of a literal whose every place is told. -/
def bndVC (o : Option AV) (d : Nat) (K : Nat → Prop) : Prop :=
  match o with
  | none => K d
  | some (.int n) => 0 ≤ n ∧ K n.toNat
  | _ => False
def Cells.rep : Cells → Nat → Cells
  | .c8 xs, n => .c8 (List.replicate n (g8 xs 0))
  | .c32 xs, n => .c32 (List.replicate n (g32 xs 0))
  | .c64 xs, n => .c64 (List.replicate n (g64 xs 0))
  | .cv xs, n => .cv (List.replicate n (xs.getD 0 .nils))
  | .m32 xs t, n => .cv (List.replicate n ((avs32 xs t).getD 0 .nils))
  | .m64 xs t, n => .cv (List.replicate n ((avs64 xs t).getD 0 .nils))

abbrev KO := AV → Mem → Nat → Prop
def sliceVC (tt : TT) (mem : Mem) (nx : Nat) (t : TypeId) (x : AV) (lo hi mx : Option AV) (K : KO) : Prop :=
  (mx.isNone || hi.isSome) = true ∧ match x with
  | .ptr l g i => (match tt t with
    | some ti => (match ti.dsc with
      | .array n e => bndVC mx n fun m => bndVC hi m fun h => bndVC lo 0 fun o => (o ≤ h ∧ h ≤ m ∧ m ≤ n ∧ (o < m ∨ o = 0)) ∧ (tt e).map TI.size = some 1 ∧ K (.slc l g (i + o) (h - o) (m - o)) mem nx
      | _ => False)
    | none => False)
  | .slc l g off len cap => (match tt t with
    | some ti => (match ti.dsc with
      | .slice e => bndVC mx cap fun m => bndVC hi len fun h => bndVC lo 0 fun o => (o ≤ h ∧ h ≤ m ∧ m ≤ cap ∧ (o < m ∨ o = 0)) ∧ (tt e).map TI.size = some 1 ∧ K (.slc l g (off + o) (h - o) (m - o)) mem nx
      | _ => False)
    | none => False)
  | .ros l A n c => (match tt t with
    | some ti => (match ti.dsc with
      | .slice e => (match getA mem l with
        | some (.ro A' c' cs) => (A' = A ∧ c' = c ∧ cs.len = n) ∧ (match mx with
          | none => bndVC hi n fun h => bndVC lo 0 fun o => (o ≤ h ∧ h ≤ n) ∧ (tt e).map TI.size = some 1 ∧ ∀ A1 c1, K (.ros nx A1 (h - o) c1) ((nx, .ro A1 c1 (cs.part o (h - o))) :: mem) (nx + 1)
          | some m => bndVC (some m) n fun m => bndVC hi m fun h => bndVC lo 0 fun o => (o ≤ h ∧ h ≤ m ∧ m ≤ n) ∧ (tt e).map TI.size = some 1 ∧ ∀ A1, K (.ros nx A1 (h - o) (m - o)) ((nx, .ro A1 (m - o) (cs.part o (h - o))) :: mem) (nx + 1))
        | _ => False)
      | _ => False)
    | none => False)
  | .grow l v n => (match tt t with
    | some ti => (match ti.dsc with
      | .slice e => (match getA mem l with
        | some (.row v' e' cs) => (v' = v ∧ cs.len = n) ∧ mx.isNone = true ∧ bndVC hi n fun h => bndVC lo 0 fun o => (o ≤ h ∧ h ≤ n) ∧ (tt e).map TI.size = some 1 ∧ ∀ A1 c1, K (.ros nx A1 (h - o) c1) ((nx, .ro A1 c1 (cs.part o (h - o))) :: delA mem l) (nx + 1)
        | _ => False)
      | _ => False)
    | none => False)
  | _ => False
/-- A builtin that makes and writes nothing. -/
def bltVC (tt : TT) (mem : Mem) (nx : Nat) (b : Builtin) (args : List AV) (tys : List TypeId) (K : KO) : Prop :=
  match b, args, tys with
  | .len, [x], [t] => (match tt t with
    | some i => (match i.dsc, x with
      | .slice e, .ros l A n c => K (.int n) mem nx
      | .slice e, .slc l g off n c => K (.int n) mem nx
      | .slice e, .grow l v n => (match getA mem l with
        | some (.row v' e' cs) => (v' = v ∧ cs.len = n) ∧ K (.int n) mem nx
        | _ => False)
      | .slice e, .nils => K (.int 0) mem nx
      | .array n e, _ => K (.int n) mem nx
      | _, _ => False)
    | none => False)
  | .max, [.int a, .int b], _ => K (.int (if a < b then b else a)) mem nx
  | .min, [.int a, .int b], _ => K (.int (if b < a then b else a)) mem nx
  | .min, [.u64 a, .u64 b], _ => K (.u64 (if b.toNat < a.toNat then b else a)) mem nx
  | _, _, _ => False
/-- The first where it is true, else the second. -/
def bothP : Bool → Prop → Prop → Prop
  | true, A, _ => A
  | false, _, B => B
@[congr] theorem bothP_congr {b b' : Bool} {A B : Prop} (h : b = b') : bothP b A B = bothP b' A B := by rw [h]
theorem both_true (A B : Prop) : bothP true A B = A := rfl
theorem both_false (A B : Prop) : bothP false A B = B := rfl
theorem both_dec (p : Prop) [Decidable p] (A B : Prop) : bothP (decide p) A B = ((p → A) ∧ (¬ p → B)) := by
  by_cases h : p <;> simp [h, bothP]
theorem both_ndec (p : Prop) [Decidable p] (A B : Prop) : bothP (!decide p) A B = ((¬ p → A) ∧ (p → B)) := by
  by_cases h : p <;> simp [h, bothP]
theorem both_ {b : Bool} {A B : Prop} (h1 : b = true → A) (h2 : b = false → B) : bothP b A B := by
  cases b
  · exact h2 rfl
  · exact h1 rfl
/-- What comes behind, as a word that is not looked into. -/
def AggW (mem : Mem) (nx : Nat) (K : KO) (cs : Cells) : Prop := K cs.agg mem nx
theorem aggW_eq (mem : Mem) (nx : Nat) (K : KO) (cs : Cells) : AggW mem nx K cs = K cs.agg mem nx := rfl
/-- Is it a type of pointers? -/
def TDsc.isP : TDsc → Bool
  | .ptr _ => true
  | .ptrm .. => true
  | _ => false
/-- Are two values, of which one is no pointer at all, the same? -/
def nilVC (tt : TT) (t : TypeId) (op : BinOp) (same : Bool) (K : AV → Prop) : Prop :=
  (tt t).map (fun i => i.dsc.isP) = some true ∧ (match op with
    | .eql => K (.bool same)
    | .neq => K (.bool (!same))
    | _ => False)
/-- A method of a pointer's type. -/
def mthOf (ms : List (String × FuncId)) (name : String) : Option FuncId := (ms.find? fun p => p.1 == name).map (·.2)
/-- What an operation yields that makes nothing and writes nothing. -/
def pureVC (tt : TT) (env : Env) (mem : Mem) (nx : Nat) (op : Op) (K : KO) : Prop :=
  match op with
  | .move x | .assign x => (ev env x).good = true ∧ K (ev env x) mem nx
  | .pick c a b => (match ev env c with
    | .bool t => bothP t ((ev env a).good = true ∧ K (ev env a) mem nx) ((ev env b).good = true ∧ K (ev env b) mem nx)
    | _ => False)
  | .build t ps => (match tt t with
    | some i => (match i.dsc with
      | .array n e => (match tt e with
        | some ie => fillVC (fun j => some (j * ie.size, ie.size)) i.zero (ps.toList.map fun p => (p.1, ev env p.2)) (AggW mem nx K)
        | none => False)
      | .struct fs => fillVC (fun j => (fs[j]?).map fun p => (p.1, p.2.2)) i.zero (ps.toList.map fun p => (p.1, ev env p.2)) (AggW mem nx K)
      | _ => False)
    | none => False)
  | .load t x => (match tt t with
    | some i => loadVC mem i (ev env x) fun v => K v mem nx
    | none => False)
  | .nilCheck x => (match ev env x with
    | .ptr l g i => K (.ptr l g i) mem nx
    | .rptr l A i => A.isSome = true ∧ K (.rptr l A i) mem nx
    | _ => False)
  | .binOp op t x y _ => (match ev env x, ev env y with
    | .a8 xs, .a8 ys => (match tt t with
      | some i => (match i.dsc with
        | .array n e => ((tt e).map TI.dsc = some (.int .u8) ∧ xs.length = n ∧ ys.length = n) ∧ (match op with
          | .eql => K (.bool (decide (xs = ys))) mem nx
          | .neq => K (.bool (!decide (xs = ys))) mem nx
          | _ => False)
        | _ => False)
      | none => False)
    | .a32 xs, .a32 ys => (match tt t with
      | some i => (match i.dsc with
        | .array n e => ((tt e).map TI.dsc = some (.int .u32) ∧ xs.length = n ∧ ys.length = n) ∧ (match op with
          | .eql => K (.bool (decide (xs = ys))) mem nx
          | .neq => K (.bool (!decide (xs = ys))) mem nx
          | _ => False)
        | _ => False)
      | none => False)
    | .a64 xs, .a64 ys => (match tt t with
      | some i => (match i.dsc with
        | .array n e => ((tt e).map TI.dsc = some (.int .u64) ∧ xs.length = n ∧ ys.length = n) ∧ (match op with
          | .eql => K (.bool (decide (xs = ys))) mem nx
          | .neq => K (.bool (!decide (xs = ys))) mem nx
          | _ => False)
        | .struct fs => (strU tt 0 fs xs.length = true ∧ ys.length = xs.length ∧ i.dsc.eqB = true) ∧ (match op with
          | .eql => K (.bool (decide (xs = ys))) mem nx
          | .neq => K (.bool (!decide (xs = ys))) mem nx
          | _ => False)
        | _ => False)
      | none => False)
    | .bool a, .bool b => (tt t).map TI.dsc = some .bool ∧ (match op with
      | .eql => K (.bool (a == b)) mem nx
      | .neq => K (.bool (a != b)) mem nx
      | _ => False)
    | .ptr _ _ _, .nilp => nilVC tt t op false fun v => K v mem nx
    | .nilp, .ptr _ _ _ => nilVC tt t op false fun v => K v mem nx
    | .nilp, .nilp => nilVC tt t op true fun v => K v mem nx
    | u, v => binT (wrapT (tt t)) op u v fun v => K v mem nx)
  | .unOp op _ x => unVC op (ev env x) fun v => K v mem nx
  | .convert s d x => (match tt s, tt d with
    | some si, some di => (match si.dsc, di.dsc with
      | .int _, .int k => cvVC k (ev env x) fun v => K v mem nx
      | .slice e, .string => (tt e).map TI.dsc = some (.int .u8) ∧ rdVC mem (.c8 []) (ev env x) fun cs => (match cs with
        | .c8 bs => K (.str bs) mem nx
        | _ => False)
      | _, _ => False)
    | _, _ => False)
  | .sliceToArrayPointer t x => (match tt t with
    | some i => (match i.dsc with
      | .array n e => (match ev env x with
        | .ros l A m c => (match getA mem l with
          | some (.ro A' c' cs) => (A' = A ∧ cs.len = m ∧ n ≤ m ∧ 0 < n) ∧ K (.rptr l A 0) mem nx
          | _ => False)
        | .slc l g off len cap => n ≤ len ∧ K (.ptr l g off) mem nx
        | _ => False)
      | _ => False)
    | none => False)
  | .fieldAddr t x f => (match tt t with
    | some i => (match i.dsc with
      | .struct fs => (match fs[f]? with
        | some (o, ft, sz) => (match ev env x with
          | .ptr l g j => (tt ft).map TI.size = some sz ∧ sz ≠ 0 ∧ K (.ptr l g (j + o)) mem nx
          | _ => False)
        | none => False)
      | _ => False)
    | none => False)
  | .field t x f => (match tt t with
    | some i => (match i.dsc with
      | .struct fs => (match fs[f]? with
        | some (o, ft, sz) => (match tt ft, ev env x with
          | some fi, .a64 xs => pickC fi (.c64 xs) o fun v => K v mem nx
          | some fi, .av xs => pickC fi (.cv xs) o fun v => K v mem nx
          | _, _ => False)
        | none => False)
      | _ => False)
    | none => False)
  | .indexAddr t x ix => (match tt t, ev env ix with
    | some i, .int n => (match i.dsc, ev env x with
      | .array m e, .ptr l g j => (tt e).map TI.size = some 1 ∧ (0 ≤ n ∧ n < m) ∧ K (.ptr l g (j + n.toNat)) mem nx
      | .slice e, .slc l g off len cap => (tt e).map TI.size = some 1 ∧ (0 ≤ n ∧ n < len) ∧ K (.ptr l g (off + n.toNat)) mem nx
      | .slice e, .ros l A len c => (tt e).map TI.size = some 1 ∧ (0 ≤ n ∧ n < len) ∧ (match getA mem l with
        | some (.ro A' c' cs) => (A' = A ∧ c' = c ∧ cs.len = len) ∧ K (.rptr l A n.toNat) mem nx
        | _ => False)
      | .slice e, .grow l v len => (tt e).map TI.size = some 1 ∧ (0 ≤ n ∧ n < len) ∧ (match getA mem l with
        | some (.row v' e' cs) => (v' = v ∧ cs.len = len) ∧ K (.rptr l (baseV v) n.toNat) mem nx
        | _ => False)
      | _, _ => False)
    | _, _ => False)
  | .index t x ix => (match tt t, ev env ix with
    | some i, .int n => (match i.dsc with
      | .array m e => (tt e).map TI.size = some 1 ∧ (tt e).map (fun j => j.dsc.agg) = some false ∧ (0 ≤ n ∧ n < m) ∧ (match ev env x with
        | .a8 xs => n.toNat < xs.length ∧ K (.u8 (g8 xs n.toNat)) mem nx
        | .a32 xs => n.toNat < xs.length ∧ K (.u32 (g32 xs n.toNat)) mem nx
        | .a64 xs => n.toNat < xs.length ∧ K (.u64 (g64 xs n.toNat)) mem nx
        | _ => False)
      | _ => False)
    | _, _ => False)
  | .makeFunc fn first caps => (match fn with
    | .func F => first.toList = [] ∧ (caps.toList.map (ev env)).all AV.good = true ∧ K (.fnv F (caps.toList.map (ev env))) mem nx
    | _ => False)
  | .makeInterface t x => (match tt t with
    | some i => i.dsc.isP = true ∧ (ev env x).good = true ∧ K (.ifc t (ev env x)) mem nx
    | none => False)
  | .extract x i => (match ev env x with
    | .tup xs => (match xs[i]? with
      | some v => v.good = true ∧ K v mem nx
      | none => False)
    | _ => False)
  | .slice t x lo hi mx => sliceVC tt mem nx t (ev env x) (lo.map (ev env)) (hi.map (ev env)) (mx.map (ev env)) K
  | .call c => (match c.callee with
    | .builtin b => bltVC tt mem nx b (c.args.toList.map (ev env)) c.argTypes.toList K
    | _ => False)
  | _ => False
end Go.Proofs.Ytlcaobnojbkmbaa
/- What is owed for each operation, told without a world: reckoning is told rightly. For any program. -/
namespace Go.Proofs.Ytlcaobnojbkmbaa
open Go Go.RowKit
set_option linter.unusedVariables false
set_option linter.unusedSimpArgs false

theorem ofInt_i8 (x : U8) : BitVec.ofInt 8 (i8 x) = x := by simp [i8]
theorem ofInt_i32 (x : U32) : BitVec.ofInt 32 (i32 x) = x := by simp [i32]
theorem ofInt_i64 (x : U64) : BitVec.ofInt 64 (i64 x) = x := by simp [i64]
theorem wrap_i8 (n : Int) : IntKind.u8.wrap n = i8 (BitVec.ofInt 8 n) := by rw [IntKind.wrap_u8', i8, BitVec.toNat_ofInt]; simp; omega
theorem wrap_i32 (n : Int) : IntKind.u32.wrap n = i32 (BitVec.ofInt 32 n) := by rw [IntKind.wrap_u32', i32, BitVec.toNat_ofInt]; simp; omega
theorem wrap_i64 (n : Int) : IntKind.u64.wrap n = i64 (BitVec.ofInt 64 n) := by rw [IntKind.wrap_u64, i64, BitVec.toNat_ofInt]; simp; omega
theorem i8_wrap (x : U8) : IntKind.u8.wrap (i8 x) = i8 x := by rw [wrap_i8, ofInt_i8]
theorem i8_add (x y : U8) : IntKind.u8.wrap (i8 x + i8 y) = i8 (x + y) := by rw [wrap_i8, BitVec.ofInt_add, ofInt_i8, ofInt_i8]
theorem i8_sub (x y : U8) : IntKind.u8.wrap (i8 x - i8 y) = i8 (x - y) := by have h1 := x.isLt; have h2 := y.isLt; rw [IntKind.wrap_u8']; unfold i8; rw [BitVec.toNat_sub]; omega
theorem i32_sub (x y : U32) : IntKind.u32.wrap (i32 x - i32 y) = i32 (x - y) := by have h1 := x.isLt; have h2 := y.isLt; rw [IntKind.wrap_u32']; unfold i32; rw [BitVec.toNat_sub]; omega
theorem i64_sub (x y : U64) : IntKind.u64.wrap (i64 x - i64 y) = i64 (x - y) := by have h1 := x.isLt; have h2 := y.isLt; rw [IntKind.wrap_u64]; unfold i64; rw [BitVec.toNat_sub]; omega
theorem i8_mul (x y : U8) : IntKind.u8.wrap (i8 x * i8 y) = i8 (x * y) := by rw [wrap_i8, BitVec.ofInt_mul, ofInt_i8, ofInt_i8]
theorem i32_mul (x y : U32) : IntKind.u32.wrap (i32 x * i32 y) = i32 (x * y) := by rw [wrap_i32, BitVec.ofInt_mul, ofInt_i32, ofInt_i32]
theorem i64_mul (x y : U64) : IntKind.u64.wrap (i64 x * i64 y) = i64 (x * y) := by rw [wrap_i64, BitVec.ofInt_mul, ofInt_i64, ofInt_i64]
theorem i8_div (x y : U8) : IntKind.u8.wrap ((i8 x).tdiv (i8 y)) = i8 (x / y) := by
  rw [show (i8 x).tdiv (i8 y) = i8 (x / y) from by simp [i8, Int.ofNat_tdiv, BitVec.toNat_udiv], i8_wrap]
theorem i32_div (x y : U32) : IntKind.u32.wrap ((i32 x).tdiv (i32 y)) = i32 (x / y) := by
  rw [show (i32 x).tdiv (i32 y) = i32 (x / y) from by simp [i32, Int.ofNat_tdiv, BitVec.toNat_udiv], i32_wrap]
theorem i64_div (x y : U64) : IntKind.u64.wrap ((i64 x).tdiv (i64 y)) = i64 (x / y) := by
  rw [show (i64 x).tdiv (i64 y) = i64 (x / y) from by simp [i64, Int.ofNat_tdiv, BitVec.toNat_udiv], i64_wrap]
theorem i8_mod (x y : U8) : (i8 x).tmod (i8 y) = i8 (x % y) := by unfold i8; rw [BitVec.toNat_umod, Int.ofNat_tmod]
theorem i32_mod (x y : U32) : (i32 x).tmod (i32 y) = i32 (x % y) := by unfold i32; rw [BitVec.toNat_umod, Int.ofNat_tmod]
theorem i64_mod (x y : U64) : (i64 x).tmod (i64 y) = i64 (x % y) := by unfold i64; rw [BitVec.toNat_umod, Int.ofNat_tmod]
theorem i8_ne0 {y : U8} (h : y ≠ 0) : i8 y ≠ 0 := fun e => h (i8_inj.1 e)
theorem i32_ne0 {y : U32} (h : y ≠ 0) : i32 y ≠ 0 := fun e => h (i32_inj.1 e)
theorem i64_ne0 {y : U64} (h : y ≠ 0) : i64 y ≠ 0 := fun e => h (i64_inj.1 e)
theorem i8_shlA (x : U8) (n : Nat) : IntKind.u8.wrap (i8 x * 2 ^ (min n 8)) = i8 (x <<< n) := by
  rw [wrap_i8, BitVec.ofInt_mul, ofInt_i8]
  apply congrArg
  apply BitVec.eq_of_toNat_eq
  rw [cast_pow, BitVec.ofInt_natCast, BitVec.toNat_mul, BitVec.toNat_ofNat, BitVec.toNat_shiftLeft, Nat.shiftLeft_eq, Nat.mul_mod_mod]
  rcases Nat.le_total n 8 with h | h
  · rw [Nat.min_eq_left h]
  · rw [Nat.min_eq_right h, show n = 8 + (n - 8) by omega, Nat.pow_add]; simp [Nat.mul_mod_left, ← Nat.mul_assoc, Nat.mul_right_comm _ (2 ^ 8)]
theorem i32_shlA (x : U32) (n : Nat) : IntKind.u32.wrap (i32 x * 2 ^ (min n 32)) = i32 (x <<< n) := by
  rcases Nat.le_total n 32 with h | h
  · rw [Nat.min_eq_left h, i32_shl']
  · rw [Nat.min_eq_right h, i32_shl', BitVec.shiftLeft_eq_zero h, BitVec.shiftLeft_eq_zero (Nat.le_refl _)]
theorem i64_shlA (x : U64) (n : Nat) : IntKind.u64.wrap (i64 x * 2 ^ (min n 64)) = i64 (x <<< n) := by
  rcases Nat.le_total n 64 with h | h
  · rw [Nat.min_eq_left h, i64_shl']
  · rw [Nat.min_eq_right h, i64_shl', BitVec.shiftLeft_eq_zero h, BitVec.shiftLeft_eq_zero (Nat.le_refl _)]
theorem i8_shr' (x : U8) (n : Nat) : i8 x / 2 ^ n = i8 (x >>> n) := by
  unfold i8; rw [BitVec.toNat_ushiftRight, Nat.shiftRight_eq_div_pow, cast_pow, ← Int.natCast_ediv]
theorem i8_shrA (x : U8) (n : Nat) : i8 x / 2 ^ (min n 8) = i8 (x >>> n) := by
  rcases Nat.le_total n 8 with h | h
  · rw [Nat.min_eq_left h, i8_shr']
  · rw [Nat.min_eq_right h, i8_shr', BitVec.ushiftRight_eq_zero h, BitVec.ushiftRight_eq_zero (Nat.le_refl _)]
theorem i32_shrA (x : U32) (n : Nat) : i32 x / 2 ^ (min n 32) = i32 (x >>> n) := by
  rcases Nat.le_total n 32 with h | h
  · rw [Nat.min_eq_left h, i32_shr']
  · rw [Nat.min_eq_right h, i32_shr', BitVec.ushiftRight_eq_zero h, BitVec.ushiftRight_eq_zero (Nat.le_refl _)]
theorem i64_shrA (x : U64) (n : Nat) : i64 x / 2 ^ (min n 64) = i64 (x >>> n) := by
  rcases Nat.le_total n 64 with h | h
  · rw [Nat.min_eq_left h, i64_shr']
  · rw [Nat.min_eq_right h, i64_shr', BitVec.ushiftRight_eq_zero h, BitVec.ushiftRight_eq_zero (Nat.le_refl _)]
theorem bits8 (op : BinOp) (x y r : U8) (h : bits op .u8 (i8 x) (i8 y) = IntKind.u8.wrap (r.toNat : Int)) : bits op .u8 (i8 x) (i8 y) = i8 r := by rw [h]; exact i8_wrap r
theorem i8_and (x y : U8) : bits .and .u8 (i8 x) (i8 y) = i8 (x &&& y) := by
  show IntKind.u8.wrap ((BitVec.ofInt 8 (i8 x) &&& BitVec.ofInt 8 (i8 y)).toNat : Int) = _
  rw [ofInt_i8, ofInt_i8]; exact i8_wrap _
theorem i8_or (x y : U8) : bits .or .u8 (i8 x) (i8 y) = i8 (x ||| y) := by
  show IntKind.u8.wrap ((BitVec.ofInt 8 (i8 x) ||| BitVec.ofInt 8 (i8 y)).toNat : Int) = _
  rw [ofInt_i8, ofInt_i8]; exact i8_wrap _
theorem i8_xor (x y : U8) : bits .xor .u8 (i8 x) (i8 y) = i8 (x ^^^ y) := by
  show IntKind.u8.wrap ((BitVec.ofInt 8 (i8 x) ^^^ BitVec.ofInt 8 (i8 y)).toNat : Int) = _
  rw [ofInt_i8, ofInt_i8]; exact i8_wrap _
theorem i8_andNot (x y : U8) : bits .andNot .u8 (i8 x) (i8 y) = i8 (x &&& ~~~y) := by
  show IntKind.u8.wrap ((BitVec.ofInt 8 (i8 x) &&& ~~~BitVec.ofInt 8 (i8 y)).toNat : Int) = _
  rw [ofInt_i8, ofInt_i8]; exact i8_wrap _
theorem i32_andNot (x y : U32) : bits .andNot .u32 (i32 x) (i32 y) = i32 (x &&& ~~~y) := by
  show IntKind.u32.wrap ((BitVec.ofInt 32 (i32 x) &&& ~~~BitVec.ofInt 32 (i32 y)).toNat : Int) = _
  rw [ofInt_i32, ofInt_i32]; exact i32_wrap _
theorem i64_andNot (x y : U64) : bits .andNot .u64 (i64 x) (i64 y) = i64 (x &&& ~~~y) := by
  show IntKind.u64.wrap ((BitVec.ofInt 64 (i64 x) &&& ~~~BitVec.ofInt 64 (i64 y)).toNat : Int) = _
  rw [ofInt_i64, ofInt_i64]; exact i64_wrap _
theorem i8_notx (x : U8) : bits .xor .u8 IntKind.u8.max (i8 x) = i8 (~~~x) := by
  have e : IntKind.u8.max = i8 (BitVec.allOnes 8) := by decide
  rw [e, i8_xor, BitVec.allOnes_xor]
theorem i32_notx (x : U32) : bits .xor .u32 IntKind.u32.max (i32 x) = i32 (~~~x) := by
  have e : IntKind.u32.max = i32 (BitVec.allOnes 32) := by decide
  rw [e, i32_xor, BitVec.allOnes_xor]
theorem i64_notx (x : U64) : bits .xor .u64 IntKind.u64.max (i64 x) = i64 (~~~x) := by
  have e : IntKind.u64.max = i64 (BitVec.allOnes 64) := by decide
  rw [e, i64_xor, BitVec.allOnes_xor]
theorem beqI (x y : Int) : (x == y) = decide (x = y) := by by_cases h : x = y <;> simp [h]
theorem beqL {α : Type} [DecidableEq α] (x y : List α) : (x == y) = decide (x = y) := by by_cases h : x = y <;> simp [h]
theorem i8_lt (x y : U8) : (i8 x < i8 y) ↔ x.toNat < y.toNat := by unfold i8; omega
theorem i8_le (x y : U8) : (i8 x ≤ i8 y) ↔ x.toNat ≤ y.toNat := by unfold i8; omega
theorem i32_lt (x y : U32) : (i32 x < i32 y) ↔ x.toNat < y.toNat := by unfold i32; omega
theorem i32_le (x y : U32) : (i32 x ≤ i32 y) ↔ x.toNat ≤ y.toNat := by unfold i32; omega
theorem i64_lt (x y : U64) : (i64 x < i64 y) ↔ x.toNat < y.toNat := by unfold i64; omega
theorem i64_le (x y : U64) : (i64 x ≤ i64 y) ↔ x.toNat ≤ y.toNat := by unfold i64; omega
theorem strF_inj (a b : List U8) : strF a = strF b ↔ a = b := by
  constructor
  · intro h
    have h1 : (strF a).data.toList = (strF b).data.toList := by rw [h]
    unfold strF at h1
    rw [strOfNums_data, strOfNums_data, List.map_map, List.map_map] at h1
    refine (List.map_inj_right fun x y hxy => ?_).1 h1
    have := congrArg UInt8.toNat hxy
    have h1 := x.isLt
    have h2 := y.isLt
    simp [i8] at this
    apply BitVec.eq_of_toNat_eq
    omega
  · rintro rfl; rfl
theorem wrapI (n : Int) (h : intIn n) : IntKind.i64.wrap n = n := IntWalk.i64_in _ (by unfold intIn at h; omega)

section
variable {P : Program} {W : World}
def Reck (op : BinOp) (a b : AV) (v : AV) : Prop := ∀ (P : Program) (t : TypeId) (W : World), (binOp op t a.conc b.conc).run P W = .ok v.conc W
theorem bin8_ok {op : BinOp} {a b : U8} {K : AV → Prop} (h : bin8 op a b K) : ∃ v, v.good = true ∧ K v ∧ Reck op (.u8 a) (.u8 b) v := by
  cases op <;> simp only [bin8] at h <;> first
    | exact h.elim
    | (refine ⟨_, rfl, h, fun P t W => ?_⟩; (simp [AV.conc, binOp, Op.intArith, Op.intCmp, intBits_and, intBits_or, intBits_xor, intBits_andNot, i8_add, i8_sub, i8_mul, i8_and, i8_or, i8_xor, i8_andNot, i8_lt, i8_le, i8_inj, bne, beqI]); done)
    | (refine ⟨_, rfl, h.2, fun P t W => ?_⟩; (simp [AV.conc, binOp, Op.intDiv, i8_ne0 h.1, i8_div, i8_mod]); done)
    | (refine ⟨_, rfl, h, fun P t W => ?_⟩; (simp [AV.conc, binOp, shift_shl_any, shift_shr_any, i8_lo, IntKind.bits, i8_shlA, i8_shrA, show (i8 b).toNat = b.toNat from rfl]); done)
theorem bin32_ok {op : BinOp} {a b : U32} {K : AV → Prop} (h : bin32 op a b K) : ∃ v, v.good = true ∧ K v ∧ Reck op (.u32 a) (.u32 b) v := by
  cases op <;> simp only [bin32] at h <;> first
    | exact h.elim
    | (refine ⟨_, rfl, h, fun P t W => ?_⟩; (simp [AV.conc, binOp, Op.intArith, Op.intCmp, intBits_and, intBits_or, intBits_xor, intBits_andNot, i32_add, i32_sub, i32_mul, i32_and, i32_or, i32_xor, i32_andNot, i32_lt, i32_le, i32_inj, bne, beqI]); done)
    | (refine ⟨_, rfl, h.2, fun P t W => ?_⟩; (simp [AV.conc, binOp, Op.intDiv, i32_ne0 h.1, i32_div, i32_mod]); done)
    | (refine ⟨_, rfl, h, fun P t W => ?_⟩; (simp [AV.conc, binOp, shift_shl_any, shift_shr_any, i32_lo, IntKind.bits, i32_shlA, i32_shrA, show (i32 b).toNat = b.toNat from rfl]); done)
theorem bin64_ok {op : BinOp} {a b : U64} {K : AV → Prop} (h : bin64 op a b K) : ∃ v, v.good = true ∧ K v ∧ Reck op (.u64 a) (.u64 b) v := by
  cases op <;> simp only [bin64] at h <;> first
    | exact h.elim
    | (refine ⟨_, rfl, h, fun P t W => ?_⟩; (simp [AV.conc, binOp, Op.intArith, Op.intCmp, intBits_and, intBits_or, intBits_xor, intBits_andNot, i64_add, i64_sub, i64_mul, i64_and, i64_or, i64_xor, i64_andNot, i64_lt, i64_le, i64_inj, bne, beqI]); done)
    | (refine ⟨_, rfl, h.2, fun P t W => ?_⟩; (simp [AV.conc, binOp, Op.intDiv, i64_ne0 h.1, i64_div, i64_mod]); done)
    | (refine ⟨_, rfl, h, fun P t W => ?_⟩; (simp [AV.conc, binOp, shift_shl_any, shift_shr_any, i64_lo, IntKind.bits, i64_shlA, i64_shrA, show (i64 b).toNat = b.toNat from rfl]); done)
theorem binInt_ok {op : BinOp} {a b : Int} {K : AV → Prop} (hs : op ≠ .shl) (hs2 : op ≠ .shr) (h : binInt op a b K) : ∃ v, v.good = true ∧ K v ∧ Reck op (.int a) (.int b) v := by
  cases op <;> simp only [binInt] at h <;> first
    | exact h.elim
    | (refine ⟨_, rfl, h, fun P t W => ?_⟩; (simp [AV.conc, binOp, Op.intCmp, intBits_and, iand, bne, beqI]); done)
    | (refine ⟨_, rfl, h.2, fun P t W => ?_⟩; (simp [AV.conc, binOp, Op.intArith, wrapI _ h.1]); done)
    | (obtain ⟨⟨h0, h1, h2⟩, hK⟩ := h
       refine ⟨_, rfl, hK, fun P t W => ?_⟩
       have h3 : a / b ≤ a := Int.ediv_le_self _ h0
       have h4 : 0 ≤ a / b := Int.ediv_nonneg h0 (by omega)
       have h5 : b ≠ 0 := by omega
       simp [AV.conc, binOp, Op.intDiv, h5, Int.tdiv_eq_ediv_of_nonneg h0, wrapI (a / b) (by unfold intIn at *; omega)])
    | (obtain ⟨⟨h0, h1⟩, hK⟩ := h
       refine ⟨_, rfl, hK, fun P t W => ?_⟩
       have h5 : b ≠ 0 := by omega
       simp [AV.conc, binOp, Op.intDiv, h5, Int.tmod_eq_emod_of_nonneg h0])
theorem sh_ok {op : BinOp} {x : AV} {n : Nat} {K : AV → Prop} (h : shVC op x n K) : ∃ v, v.good = true ∧ K v ∧ ∀ (P : Program) (t : TypeId) (W : World) (yk : IntKind) (y : Int), 0 ≤ y → y.toNat = n → (binOp op t x.conc (.int yk y)).run P W = .ok v.conc W := by
  unfold shVC at h
  split at h <;> first
    | exact h.elim
    | (refine ⟨_, rfl, h, fun P t W yk y h0 hn => ?_⟩
       subst hn
       simp [AV.conc, binOp, shift_shl_any, shift_shr_any, h0, IntKind.bits, i8_shlA, i8_shrA, i32_shlA, i32_shrA, i64_shlA, i64_shrA]; done)
    | (obtain ⟨⟨h1, h2⟩, hK⟩ := h
       refine ⟨_, rfl, hK, fun P t W yk y h0 hn => ?_⟩
       subst hn
       simp [AV.conc, binOp, shift_shl_any, shift_shr_any, h0, IntKind.bits, Nat.min_eq_left h1, wrapI _ h2]; done)
    | (obtain ⟨⟨h1, h2⟩, hK⟩ := h
       refine ⟨_, rfl, hK, fun P t W yk y h0 hn => ?_⟩
       subst hn
       simp [AV.conc, binOp, shift_shl_any, shift_shr_any, h0, IntKind.bits, Nat.min_eq_left (show y.toNat ≤ 64 by omega)]; done)
theorem binVC_ok {op : BinOp} {x y : AV} {K : AV → Prop} (h : binVC op x y K) : ∃ v, v.good = true ∧ K v ∧ Reck op x y v ∧ ∀ (P : Program) (t : TypeId) (W : World) (p q : Operand), (eqGuard op t p q x.conc y.conc).run P W = .ok () W := by
  have hg : ∀ {k : IntKind} {n : Int} (v : Value), (∀ cs, v ≠ .agg cs) → v ≠ .nilIface → ∀ (P : Program) (t : TypeId) (W : World) (p q : Operand), (eqGuard op t p q v (.int k n)).run P W = .ok () W := by
    intro k n v h1 h2 P t W p q
    cases op <;> cases v <;> simp_all [eqGuard]
  unfold binVC at h
  split at h
  · obtain ⟨v, h1, h2, h3⟩ := bin8_ok h; exact ⟨v, h1, h2, h3, hg _ (by simp [AV.conc]) (by simp [AV.conc])⟩
  · obtain ⟨v, h1, h2, h3⟩ := bin32_ok h; exact ⟨v, h1, h2, h3, hg _ (by simp [AV.conc]) (by simp [AV.conc])⟩
  · obtain ⟨v, h1, h2, h3⟩ := bin64_ok h; exact ⟨v, h1, h2, h3, hg _ (by simp [AV.conc]) (by simp [AV.conc])⟩
  · rename_i a b
    split at h
    · obtain ⟨h0, h⟩ := h
      obtain ⟨v, h1, h2, h3⟩ := sh_ok h
      exact ⟨v, h1, h2, fun P t W => h3 P t W .i64 b h0 rfl, hg _ (by simp [AV.conc]) (by simp [AV.conc])⟩
    · obtain ⟨h0, h⟩ := h
      obtain ⟨v, h1, h2, h3⟩ := sh_ok h
      exact ⟨v, h1, h2, fun P t W => h3 P t W .i64 b h0 rfl, hg _ (by simp [AV.conc]) (by simp [AV.conc])⟩
    · rename_i hs1 hs2
      obtain ⟨v, h1, h2, h3⟩ := binInt_ok hs1 hs2 h
      exact ⟨v, h1, h2, h3, hg _ (by simp [AV.conc]) (by simp [AV.conc])⟩
  · rename_i a b
    have he : ∀ P t W p q, Sem.run P (eqGuard op t p q (AV.str a).conc (AV.str b).conc) W = .ok () W := fun P t W p q => by cases op <;> simp [eqGuard, AV.conc]
    have hd : ((strF a).toList == (strF b).toList) = decide (a = b) := by
      rw [beqL]
      apply decide_eq_decide.2
      rw [← strF_inj]
      constructor
      · intro h
        apply ByteArray.ext
        apply Array.toList_inj.1
        rw [← ByteArray.toList_eq, ← ByteArray.toList_eq, h]
      · intro h; rw [h]
    split at h
    · exact ⟨_, rfl, h, fun P t W => by simp [AV.conc, binOp, Op.stringOp, hd], he⟩
    · exact ⟨_, rfl, h, fun P t W => by simp [AV.conc, binOp, Op.stringOp, hd], he⟩
    · exact h.elim
  all_goals first
    | exact h.elim
    | (have hx : (∀ cs, x.conc ≠ .agg cs) ∧ x.conc ≠ .nilIface := by
         have h' := h
         (try replace h' := h'.2)
         unfold shVC at h'
         split at h' <;> first | exact h'.elim | simp [AV.conc]
       first
       | (obtain ⟨h0, h⟩ := h
          obtain ⟨v, h1, h2, h3⟩ := sh_ok h
          exact ⟨v, h1, h2, fun P t W => h3 P t W .i64 _ h0 rfl, hg _ hx.1 hx.2⟩)
       | (obtain ⟨v, h1, h2, h3⟩ := sh_ok h
          exact ⟨v, h1, h2, fun P t W => h3 P t W .u64 _ (i64_lo _) rfl, hg _ hx.1 hx.2⟩)
       | (obtain ⟨v, h1, h2, h3⟩ := sh_ok h
          exact ⟨v, h1, h2, fun P t W => h3 P t W .u32 _ (i32_lo _) rfl, hg _ hx.1 hx.2⟩)
       | (obtain ⟨v, h1, h2, h3⟩ := sh_ok h
          exact ⟨v, h1, h2, fun P t W => h3 P t W .u8 _ (i8_lo _) rfl, hg _ hx.1 hx.2⟩))
theorem binW_ok {op : BinOp} {x y : AV} {K : AV → Prop} (h : binW op x y K) : ∃ v, v.good = true ∧ K v ∧ Reck op x y v ∧ ∀ (P : Program) (t : TypeId) (W : World) (p q : Operand), (eqGuard op t p q x.conc y.conc).run P W = .ok () W := by
  unfold binW at h
  split at h
  · rename_i a b
    split at h
    · refine ⟨_, rfl, h, fun P t W => ?_, fun P t W p q => ?_⟩
      · simp [AV.conc, binOp, Op.intArith, iw]
      · simp [eqGuard, AV.conc]
    · refine ⟨_, rfl, h, fun P t W => ?_, fun P t W p q => ?_⟩
      · simp [AV.conc, binOp, Op.intArith, iw]
      · simp [eqGuard, AV.conc]
    · exact binVC_ok h
  · exact binVC_ok h
theorem binT_ok {w : Bool} {op : BinOp} {x y : AV} {K : AV → Prop} (h : binT w op x y K) : ∃ v, v.good = true ∧ K v ∧ Reck op x y v ∧ ∀ (P : Program) (t : TypeId) (W : World) (p q : Operand), (eqGuard op t p q x.conc y.conc).run P W = .ok () W := by
  cases w
  · exact binVC_ok h
  · exact binW_ok h
theorem iw_in {n : Int} (h : intIn n) : iw n = n := wrapI n h
theorem unVC_ok {op : UnOp} {x : AV} {K : AV → Prop} (h : unVC op x K) : ∃ v, v.good = true ∧ K v ∧ ∀ (P : Program) (W : World), (Op.unary op x.conc).run P W = .ok v.conc W := by
  unfold unVC at h
  split at h <;> first
    | exact h.elim
    | (refine ⟨_, rfl, h, fun P W => ?_⟩; (simp [AV.conc, Op.unary, IntKind.signed, intBits_xor, i8_notx, i32_notx, i64_notx]); done)
    | (refine ⟨_, rfl, h.2, fun P W => ?_⟩; (have := wrapI _ h.1; simp [AV.conc, Op.unary, Op.intArith] at *; exact this); done)
theorem cvVC_ok {k : IntKind} {x : AV} {K : AV → Prop} (h : cvVC k x K) : ∃ v, v.good = true ∧ K v ∧ ∃ k0 n, x.conc = .int k0 n ∧ v.conc = .int k (k.wrap n) := by
  unfold cvVC at h
  split at h <;> first
    | exact h.elim
    | (refine ⟨_, rfl, h, _, _, rfl, ?_⟩; simp [AV.conc, i8_wrap, i32_wrap, i64_wrap, i32_of8, i64_of8, i8_of32, i64_of32, i8_of64, i32_of64]; done)
    | (refine ⟨_, rfl, h, _, _, rfl, ?_⟩; simp [AV.conc, wrap_i8, wrap_i32, wrap_i64]; done)
    | (rename_i a; refine ⟨_, rfl, h, _, _, rfl, ?_⟩; (have h1 := a.isLt; simp only [AV.conc]; rw [wrapI _ (by unfold intIn i8; omega)]; rfl); done)
    | (rename_i a; refine ⟨_, rfl, h, _, _, rfl, ?_⟩; (have h1 := a.isLt; simp only [AV.conc]; rw [wrapI _ (by unfold intIn i32; omega)]; rfl); done)
    | (rename_i a; refine ⟨_, rfl, h.2, _, _, rfl, ?_⟩; (have h1 := h.1; simp only [AV.conc]; rw [wrapI _ (by unfold intIn i64; omega)]; rfl); done)
    | (rename_i n; refine ⟨_, rfl, h.2, _, _, rfl, ?_⟩; (simp only [AV.conc]; rw [wrapI _ h.1]); done)
end
end Go.Proofs.Ytlcaobnojbkmbaa
