/- A region whose order Go leaves open, carried out in a planned order: a head of operations (loads and reckonings taken as soon as they may come up, the others where they alone may come up), and a tail that waits for all of the head. For any program. -/
import Derived.OrdersHeld
import Derived.StillTail
import Derived.Deep.RegionHeld
namespace Go.Proofs.Ytjleiifcigojoaa
open Go
section
variable {P : Program} {ops : Array Oper} {Q : Exit → Act → World → Prop} {md : Region.Mode} {S : World → Prop}

/-- Whatever order is picked: 'f' operations of the head are still to come; S holds behind each; then the tail, in the text's order. -/
def wpAnyT (P : Program) (md : Region.Mode) (ops : Array Oper) (Q : Exit → Act → World → Prop) (S : World → Prop) (n : Nat) : Nat → Array Bool → Act → World → Prop
  | 0, listed, a, w => Region.seqB md ops (ops.size - n) n listed = true ∧ wpList P ops Q (ops.toList.drop n) a w
  | f + 1, listed, a, w => Region.ready md ops listed ≠ [] ∧ ∀ i ∈ Region.ready md ops listed, i < n ∧ wpOp P ops Q i (fun a' w' => S w' ∧ wpAnyT P md ops Q S n f (listed.setIfInBounds i true) a' w') a w

theorem wpAny_of_T {n : Nat} : ∀ (f : Nat) (listed : Array Bool) (a : Act) (w : World), wpAnyT P md ops Q S n f listed a w → wpAny P md ops Q (f + (ops.size - n)) listed a w
  | 0, listed, a, w, h => by
    have hl : (ops.toList.drop n).length = ops.size - n := by simp
    have := wpAny_of_seq (md := md) (Q' := Q) (P := P) (ops := ops) (ops.toList.drop n) n listed a w (fun j => by simp [List.getElem?_drop]) (by rw [hl]; exact h.1) h.2
    rw [hl] at this
    rwa [Nat.zero_add]
  | f + 1, listed, a, w, h => by
    rw [show f + 1 + (ops.size - n) = (f + (ops.size - n)) + 1 by omega]
    exact ⟨fun h0 => absurd h0 h.1, fun i hi => wpOp_mono (fun a' w' h' => wpAny_of_T f _ a' w' h'.2) (h.2 i hi).2⟩

/-- The tail waits for all of the head; or there is none. -/
def Region.restB (md : Region.Mode) (ops : Array Oper) (n : Nat) : Bool :=
  decide (ops.size ≤ n) || (Region.sinkB md ops n && Region.chainB md ops n)
theorem rest_waits {n i : Nat} {listed : Array Bool} (hs : Region.restB md ops n = true) (inv : HeadInv md ops n listed) (hin : i < n) (hun : listed.getD i true = false) :
    ∀ j ∈ Region.ready md ops listed, j < n := by
  intro j hj
  rcases Nat.lt_or_ge j n with h | h
  · exact h
  · obtain ⟨_, oj, hoj, _⟩ := mem_ready.1 hj
    have hlt : j < ops.size := (Array.getElem?_eq_some_iff.1 hoj).1
    simp only [Region.restB, Bool.or_eq_true, decide_eq_true_eq, Bool.and_eq_true] at hs
    rcases hs with hs | ⟨hs, hc⟩
    · omega
    · exact absurd hj (tail_waits hs hc (by omega) inv _ i rfl hin hun j h)

theorem wpAnyT_first {n i : Nat} {oi : Oper} {v : Value} (hi : ops[i]? = some oi) (hsel : ∀ (j : Nat) (o : Oper) cs b, ops[j]? = some o → o.op ≠ .select cs b)
    (hs : Region.restB md ops n = true) (hin : i < n) (hQ : ∀ c a w, Q (.panic c) (a.put oi.dst v) w → Q (.panic c) a w) :
    ∀ (f : Nat) (listed : Array Bool) (a : Act) (w : World), HeadInv md ops n listed →
      (∀ j oj, ops[j]? = some oj → j ≠ i → listed.getD j true = false → (∀ e ∈ oj.after, Region.binds md e = true → e.on ≠ i) → oi.apart ops oj = true) →
      i ∈ Region.ready md ops listed → YieldsIf P ops S oi v a → S w →
      wpAnyT P md ops Q S n f (listed.setIfInBounds i true) (a.put oi.dst v) w → wpAnyT P md ops Q S n (f + 1) listed a w := by
  intro f
  induction f with
  | zero =>
    intro listed a w inv _ hr hy hS H
    have hun := (mem_ready.1 hr).1
    refine ⟨fun h => (by rw [h] at hr; cases hr), fun j hj => ⟨rest_waits hs inv hin hun j hj, ?_⟩⟩
    by_cases hji : j = i
    · subst hji; exact hy.wpOp hi hS ⟨hS, H⟩
    · have h1 := seqB_ready H.1 j (ready_mono hj hji)
      have := rest_waits hs inv hin hun j hj
      omega
  | succ f ih =>
    intro listed a w inv hfree hr hy hS H
    have hun := (mem_ready.1 hr).1
    refine ⟨fun h => (by rw [h] at hr; cases hr), fun j hj => ?_⟩
    have hjn := rest_waits hs inv hin hun j hj
    refine ⟨hjn, ?_⟩
    by_cases hji : j = i
    · subst hji; exact hy.wpOp hi hS ⟨hS, H⟩
    · have h1 := (H.2 j (ready_mono hj hji)).2
      obtain ⟨hjun, oj, hoj, hall⟩ := mem_ready.1 hj
      have hnot : ∀ e ∈ oj.after, Region.binds md e = true → e.on ≠ i := fun e he hb heq => by
        have h1 := hall e he hb
        rw [heq, getD_both hun] at h1
        cases h1
      have h2 := wpOp_putIf hoj (hfree j oj hoj hji hjun hnot) (fun cs b => hsel i oi cs b hi) (fun cs b => hsel j oj cs b hoj) hQ hy h1
      have hfree' : ∀ k ok, ops[k]? = some ok → k ≠ i → (listed.setIfInBounds j true).getD k true = false →
          (∀ e ∈ ok.after, Region.binds md e = true → e.on ≠ i) → oi.apart ops ok = true := fun k ok hk hki hun hno => by
        refine hfree k ok hk hki ?_ hno
        by_cases hjk : j = k
        · subst hjk; exact hjun
        · rw [getD_set_ne true hjk] at hun; exact hun
      refine wpOp_mono (fun a' w' h3 => ⟨h3.2.1, ih (listed.setIfInBounds j true) a' w' (inv.set hj hjn) hfree' (ready_mono hr (Ne.symm hji)) h3.1 h3.2.1 ?_⟩) h2
      rw [Array.setIfInBounds_comm _ _ hji]
      exact h3.2.2

/-- May the plan be carried out? 'true': taken; 'false': it alone may come up. -/
def Region.planB (md : Region.Mode) (ops : Array Oper) (n : Nat) : List (Bool × Nat) → Array Bool → Bool
  | [], listed => Region.seqB md ops (ops.size - n) n listed
  | (true, i) :: r, listed => decide (i < n) && (Region.ready md ops listed).contains i && Region.free md ops listed i && Region.planB md ops n r (listed.setIfInBounds i true)
  | (false, i) :: r, listed => decide (i < n) && decide (Region.ready md ops listed = [i]) && Region.planB md ops n r (listed.setIfInBounds i true)

/-- What is owed along the plan. -/
def wpPlan (P : Program) (ops : Array Oper) (Q : Exit → Act → World → Prop) (S : World → Prop) (n : Nat) : List (Bool × Nat) → Act → World → Prop
  | [], a, w => wpList P ops Q (ops.toList.drop n) a w
  | (true, i) :: r, a, w => ∃ v, YieldsIf P ops S (ops.getD i default) v a ∧ wpPlan P ops Q S n r (a.put (ops.getD i default).dst v) w
  | (false, i) :: r, a, w => wpList P ops (Exit.then (fun a' w' => S w' ∧ wpPlan P ops Q S n r a' w') Q) [ops.getD i default] a w

theorem wpOp_of_list {i : Nat} {o : Oper} (hi : ops[i]? = some o) {K : Act → World → Prop} {a : Act} {w : World}
    (hQ : ∀ c a w, Exit.then K Q (.panic c) a w → Q (.panic c) a w) (hO : LetsOut (Exit.then K Q) → LetsOut Q) (h : wpList P ops (Exit.then K Q) [o] a w) : wpOp P ops Q i K a w := by
  unfold wpOp
  simp only [hi]
  unfold wpList at h
  have hk : ∀ a w, wpList P ops (Exit.then K Q) [] a w → K a w := fun a w h => h
  split
  · rename_i hw
    rw [if_pos hw] at h
    rcases h with h | ⟨h1, h2⟩
    · refine .inl ?_
      have h' := Oper.wp_mono hk h
      unfold Oper.wp at *
      generalize (execOp a.eval o).run P w = r at *
      cases r with
      | ok x w' =>
        cases x <;> simp only [Oper.upon] at h' ⊢
        case value => exact h'
        case skip => exact h'
        case defer => exact h'
        case enter f args => exact Calls.mono h' (fun e w'' he => by cases e <;> first | exact he | exact hQ _ _ _ he | exact hO he)
        case row => exact h'
      | halt x w' =>
        cases x <;> simp only [Oper.upon] at h' ⊢
        case panic => exact hQ _ _ _ h'
    · exact .inr ⟨h1, hO h2⟩
  · rename_i hw
    rw [if_neg hw] at h
    exact hk _ _ h

theorem wpAnyT_of_plan {n : Nat} (hsel : Region.noSelect ops = true) (hs : Region.restB md ops n = true) (hQ : ∀ c a d v w, Q (.panic c) (a.put d v) w → Q (.panic c) a w) :
    ∀ (plan : List (Bool × Nat)) (listed : Array Bool) (a : Act) (w : World), HeadInv md ops n listed → Region.planB md ops n plan listed = true → S w →
      wpPlan P ops Q S n plan a w → wpAnyT P md ops Q S n plan.length listed a w
  | [], listed, a, w, _, hB, _, h => ⟨hB, h⟩
  | (true, i) :: r, listed, a, w, inv, hB, hS, ⟨v, hy, h⟩ => by
    simp only [Region.planB, Bool.and_eq_true, decide_eq_true_eq] at hB
    obtain ⟨⟨⟨hin, hr⟩, hf⟩, hB'⟩ := hB
    have hr' : i ∈ Region.ready md ops listed := by simpa using hr
    obtain ⟨_, oi, hoi, _⟩ := mem_ready.1 hr'
    have hd : ops.getD i default = oi := by
      have := (Array.getElem?_eq_some_iff.1 hoi)
      obtain ⟨h1, h2⟩ := this
      simp [h1, h2]
    rw [hd] at hy h
    exact wpAnyT_first hoi (Region.noSelect_spec hsel) hs hin (fun c a w => hQ c a _ _ w) r.length listed a w inv (Region.free_spec hoi hf) hr' hy hS
      (wpAnyT_of_plan hsel hs hQ r _ _ _ (inv.set hr' hin) hB' hS h)
  | (false, i) :: r, listed, a, w, inv, hB, hS, h => by
    simp only [Region.planB, Bool.and_eq_true, decide_eq_true_eq] at hB
    obtain ⟨⟨hin, hr⟩, hB'⟩ := hB
    have hr' : i ∈ Region.ready md ops listed := by rw [hr]; simp
    obtain ⟨_, oi, hoi, _⟩ := mem_ready.1 hr'
    have hd : ops.getD i default = oi := by
      obtain ⟨h1, h2⟩ := (Array.getElem?_eq_some_iff.1 hoi)
      simp [h1, h2]
    simp only [wpPlan, hd] at h
    refine ⟨by rw [hr]; simp, fun j hj => ?_⟩
    rw [hr] at hj
    obtain rfl : j = i := by simpa using hj
    exact ⟨hin, wpOp_mono (fun a' w' h' => ⟨h'.1, wpAnyT_of_plan hsel hs hQ r _ a' w' (inv.set hr' hin) hB' h'.1 h'.2⟩)
      (wpOp_of_list hoi (fun _ _ _ h => h) (fun ⟨a, w, h⟩ => ⟨a, w, h⟩) h)⟩

/-- Everything of a plan that is closed, asked at once. -/
def Region.planned (md : Region.Mode) (ops : Array Oper) (n : Nat) (plan : List (Bool × Nat)) : Bool :=
  Region.noSelect ops && Region.restB md ops n && decide (plan.length = min n ops.size) && decide (n ≤ ops.size) && Region.planB md ops n plan (Array.replicate ops.size false)

theorem wp_region_plan {id : Nat} {l : List Oper} (n : Nat) (plan : List (Bool × Nat)) (S : World → Prop) {a : Act} {w : World} (hm : P.follows .mixedOrders = true)
    (hB : Region.planned .any l.toArray n plan = true) (hQ : ∀ c a d v w, Q (.panic c) (a.put d v) w → Q (.panic c) a w) (hS : S w.drew)
    (h : wpPlan P l.toArray Q S n plan a w.drew) : (Code.region id l.toArray true).wp P Q a w := by
  simp only [Region.planned, Bool.and_eq_true, decide_eq_true_eq] at hB
  obtain ⟨⟨⟨⟨hsel, hs⟩, hlen⟩, hn⟩, hplan⟩ := hB
  have inv0 : HeadInv .any l.toArray n (Array.replicate l.toArray.size false) :=
    ⟨by simp, fun j oj _ hl => (by rw [getD_replicate_false] at hl; cases hl), fun t _ ht => getD_in (by simpa using ht) (getD_replicate_false _ _)⟩
  have H := wpAny_of_T _ _ _ _ (wpAnyT_of_plan (md := .any) hsel hs hQ plan _ a w.drew inv0 hplan hS h)
  rw [show plan.length + (l.toArray.size - n) = l.toArray.size by omega] at H
  exact wp_region_any hm H

/-- The steps along a plan, each for 'refine': the operation comes written out. -/
theorem plan_take {n i : Nat} {dst : Option Tmp} {op : Op} {ty : TypeId} {pos : String} {after : Array Edge} {guard : Option (Nat × Bool)} {r : List (Bool × Nat)} {a : Act} {w : World} (v : Value) (ho : ops.getD i default = ⟨dst, op, ty, pos, after, guard⟩)
    (hy : YieldsIf P ops S ⟨dst, op, ty, pos, after, guard⟩ v a) (h : wpPlan P ops Q S n r (a.put dst v) w) : wpPlan P ops Q S n ((true, i) :: r) a w := by
  refine ⟨v, ?_, ?_⟩ <;> rw [ho]
  · exact hy
  · exact h
theorem plan_loud {n i : Nat} {dst : Option Tmp} {op : Op} {ty : TypeId} {pos : String} {after : Array Edge} {guard : Option (Nat × Bool)} {r : List (Bool × Nat)} {a : Act} {w : World} (ho : ops.getD i default = ⟨dst, op, ty, pos, after, guard⟩)
    (h : wpList P ops (Exit.then (fun a' w' => S w' ∧ wpPlan P ops Q S n r a' w') Q) [⟨dst, op, ty, pos, after, guard⟩] a w) : wpPlan P ops Q S n ((false, i) :: r) a w := by
  unfold wpPlan
  rw [ho]; exact h
theorem plan_done {n : Nat} {a : Act} {w : World} (hn : ops.size ≤ n) (h : Q .normal a w) : wpPlan P ops Q S n [] a w := by
  unfold wpPlan
  rw [List.drop_eq_nil_of_le (by simpa using hn)]
  exact h
theorem plan_tail {n : Nat} {l : List Oper} {a : Act} {w : World} (h : wpList P l.toArray Q (l.drop n) a w) : wpPlan P l.toArray Q S n [] a w := h
end
end Go.Proofs.Ytjleiifcigojoaa
