/- A region whose order Go leaves open, carried out along a plan: what is known of the world is another behind each operation. For any program. -/
import Derived.Test.YtjleiifcigojoaaRow
namespace Go.Proofs.Ytjleiifcigojoaa
open Go Go.RowKit
set_option linter.unusedVariables false
section
variable {P : Program} {ops : Array Oper} {Q : Exit → Act → World → Prop} {md : Region.Mode} {wr : Nat → Bool} {B0 : World → Prop}
def Stable (S : World → Prop) : Prop := ∀ W W', S W → Below W.heap.size W W' → S W'
/-- Whatever order is picked, in whatever world that meets S: f operations are still to come. 'wr': which ones write. -/
def wpAnyE (P : Program) (md : Region.Mode) (ops : Array Oper) (Q : Exit → Act → World → Prop) (wr : Nat → Bool) (B0 : World → Prop) : Nat → (World → Prop) → Array Bool → Act → Prop
  | 0, S, listed, a => (∀ j, j < ops.size → listed.getD j false = true) ∧ ∀ w, S w → Q .normal a w
  | f + 1, S, listed, a => ∀ w, S w → Region.ready md ops listed ≠ [] ∧
      ∀ i ∈ Region.ready md ops listed, wpOp P ops Q i (fun a' w' => ∃ S', S' w' ∧ (Stable S' ∧ ∀ W, S' W → B0 W) ∧ (wr i = false → Below w.heap.size w w' ∧ ∀ W, S' W → S W) ∧ wpAnyE P md ops Q wr B0 f S' (listed.setIfInBounds i true) a') a w
theorem yieldsIf_weak {S S' : World → Prop} {o : Oper} {v : Value} {a : Act} (hS : ∀ W, S' W → S W) (h : YieldsIf P ops S o v a) : YieldsIf P ops S' o v a :=
  h.imp (fun ⟨h1, h2⟩ => ⟨h1, fun w hw => h2 w (hS w hw)⟩) id
theorem ready_lt {j : Nat} {listed : Array Bool} (h : j ∈ Region.ready md ops listed) : j < ops.size := by
  obtain ⟨_, o, ho, _⟩ := mem_ready.1 h
  exact (Array.getElem?_eq_some_iff.1 ho).1
theorem wpAnyE_weak : ∀ (f : Nat) (T T' : World → Prop) (L : Array Bool) (a : Act), (Stable T' ∧ ∀ W, T' W → B0 W) → (∀ W, T' W → T W) → wpAnyE P md ops Q wr B0 f T L a → wpAnyE P md ops Q wr B0 f T' L a := by
  intro f
  induction f with
  | zero => exact fun T T' L a _ hT h => ⟨h.1, fun w hw => h.2 w (hT w hw)⟩
  | succ f ihf =>
    intro T T' L a hs hT h w hw
    refine ⟨(h w (hT w hw)).1, fun i hi => wpOp_mono (fun a' w' h' => ?_) ((h w (hT w hw)).2 i hi)⟩
    obtain ⟨S', p1, p2, p3, p4⟩ := h'
    refine ⟨fun W' => S' W' ∧ (wr i = false → T' W'), ⟨p1, fun hw2 => hs.1 w w' hw (p3 hw2).1⟩, ⟨fun W1 W2 h1 hb => ⟨p2.1 W1 W2 h1.1 hb, fun hw2 => hs.1 W1 W2 (h1.2 hw2) hb⟩, fun W h => p2.2 W h.1⟩, fun hw2 => ⟨(p3 hw2).1, fun W' h' => h'.2 hw2⟩, ?_⟩
    exact ihf S' _ _ _ ⟨fun W1 W2 h1 hb => ⟨p2.1 W1 W2 h1.1 hb, fun hw2 => hs.1 W1 W2 (h1.2 hw2) hb⟩, fun W h => p2.2 W h.1⟩ (fun W' h' => h'.1) p4
/-- An operation that comes behind i whatever order is picked, as long as i is not listed. -/
inductive Waits (md : Region.Mode) (ops : Array Oper) (listed : Array Bool) (i : Nat) : Nat → Prop where
  | at {j : Nat} {oj : Oper} {e : Edge} : ops[j]? = some oj → e ∈ oj.after → Region.binds md e = true → e.on = i → Waits md ops listed i j
  | by {j : Nat} {oj : Oper} {e : Edge} : ops[j]? = some oj → e ∈ oj.after → Region.binds md e = true → listed.getD e.on true = false → Waits md ops listed i e.on → Waits md ops listed i j
theorem Waits.not_ready {listed : Array Bool} {i j : Nat} (h : Waits md ops listed i j) (hun : listed.getD i true = false) : j ∉ Region.ready md ops listed := by
  intro hr
  obtain ⟨_, o, ho, hall⟩ := mem_ready.1 hr
  cases h with
  | «at» hj he hb hon =>
    rw [ho] at hj; injection hj with hj; subst hj
    have := hall _ he hb
    rw [hon, getD_both hun] at this; cases this
  | «by» hj he hb hk _ =>
    rw [ho] at hj; injection hj with hj; subst hj
    have := hall _ he hb
    rw [getD_both hk] at this; cases this
theorem Waits.keep {listed : Array Bool} {i j k : Nat} (h : Waits md ops listed i j) (hun : listed.getD i true = false) (hk : k ∈ Region.ready md ops listed) : Waits md ops (listed.setIfInBounds k true) i j := by
  induction h with
  | «at» hj he hb hon => exact .at hj he hb hon
  | «by» hj he hb hk2 hw ih =>
    refine .by hj he hb ?_ ih
    rw [getD_set_ne true (fun e => hw.not_ready hun (by rw [← e]; exact hk))]
    exact hk2
/-- An operation whose value hangs on nothing that a later one writes is taken first. -/
theorem wpAnyE_first {i : Nat} {oi : Oper} {v : Value} {Sx : World → Prop} (hi : ops[i]? = some oi) (hsel : ∀ (j : Nat) (o : Oper) cs b, ops[j]? = some o → o.op ≠ .select cs b)
    (hQ : ∀ c a w, Q (.panic c) (a.put oi.dst v) w → Q (.panic c) a w) :
    ∀ (f : Nat) (S S2 : World → Prop) (listed : Array Bool) (a : Act), (Stable S ∧ ∀ W, S W → B0 W) → (∀ W, S W → S2 W) → listed.size = ops.size →
      ((∀ W, B0 W → Sx W) ∨ ((∀ W, S W → Sx W) ∧ ∀ j oj, ops[j]? = some oj → listed.getD j true = false → wr j = true → Waits md ops listed i j)) →
      (∀ j oj, ops[j]? = some oj → j ≠ i → listed.getD j true = false → (∀ e ∈ oj.after, Region.binds md e = true → e.on ≠ i) → oi.apart ops oj = true) →
      i ∈ Region.ready md ops listed → YieldsIf P ops Sx oi v a →
      wpAnyE P md ops Q wr B0 f S2 (listed.setIfInBounds i true) (a.put oi.dst v) → wpAnyE P md ops Q wr B0 (f + 1) S listed a := by
  intro f
  induction f with
  | zero =>
    intro S S2 listed a hst hS2 hsz hx _ hr hy H w hS
    refine ⟨fun h => (by rw [h] at hr; cases hr), fun j hj => ?_⟩
    by_cases hji : j = i
    · subst hji
      have hSx : Sx w := hx.elim (fun h => h w (hst.2 w hS)) (fun h => h.1 w hS)
      exact hy.wpOp hi hSx ⟨S, hS, hst, fun _ => ⟨Below.refl _ _, fun _ h => h⟩, H.1, fun W hW => H.2 W (hS2 W hW)⟩
    · have h1 := H.1 j (ready_lt hj)
      rw [getD_set_ne false (Ne.symm hji), getD_both (mem_ready.1 hj).1] at h1
      cases h1
  | succ f ih =>
    intro S S2 listed a hst hS2 hsz hx hfree hr hy H w hS
    have hun := (mem_ready.1 hr).1
    refine ⟨fun h => (by rw [h] at hr; cases hr), fun j hj => ?_⟩
    by_cases hji : j = i
    · subst hji
      have hSx : Sx w := hx.elim (fun h => h w (hst.2 w hS)) (fun h => h.1 w hS)
      refine hy.wpOp hi hSx ⟨S, hS, hst, fun _ => ⟨Below.refl _ _, fun _ h => h⟩, ?_⟩
      exact wpAnyE_weak (f + 1) S2 S _ _ hst hS2 H
    · have h1 := (H w (hS2 w hS)).2 j (ready_mono hj hji)
      obtain ⟨hjun, oj, hoj, hall⟩ := mem_ready.1 hj
      have hnot : ∀ e ∈ oj.after, Region.binds md e = true → e.on ≠ i := fun e he hb heq => by
        have h1 := hall e he hb
        rw [heq, getD_both hun] at h1
        cases h1
      have h2 := wpOp_putIf hoj (hfree j oj hoj hji hjun hnot) (fun cs b => hsel i oi cs b hi) (fun cs b => hsel j oj cs b hoj) hQ hy h1
      have hfree' : ∀ k ok, ops[k]? = some ok → k ≠ i → (listed.setIfInBounds j true).getD k true = false →
          (∀ e ∈ ok.after, Region.binds md e = true → e.on ≠ i) → oi.apart ops ok = true := fun k ok hk hki hun hno => by
        refine hfree k ok hk hki ?_ hno
        by_cases hjk : j = k
        · subst hjk; exact hjun
        · rw [getD_set_ne true hjk] at hun; exact hun
      refine wpOp_mono (fun a' w' h3 => ?_) h2
      obtain ⟨hy', S', q1, q2, q3, q4⟩ := h3
      have hwr : (∀ W, B0 W → Sx W) ∨ wr j = false := by
        rcases hx with hx | ⟨_, hx⟩
        · exact .inl hx
        · right
          cases hw : wr j with
          | false => rfl
          | true =>
            exact absurd hj ((hx j oj hoj hjun hw).not_ready hun)
      have hst' : Stable (fun W => S' W ∧ (wr j = false → S W)) ∧ ∀ W, (S' W ∧ (wr j = false → S W)) → B0 W := ⟨fun W1 W2 h1 hb => ⟨q2.1 W1 W2 h1.1 hb, fun hw => hst.1 W1 W2 (h1.2 hw) hb⟩, fun W h => q2.2 W h.1⟩
      refine ⟨fun W => S' W ∧ (wr j = false → S W), ⟨q1, fun hw => hst.1 w w' hS (q3 hw).1⟩, hst', fun hw => ⟨(q3 hw).1, fun W h => h.2 hw⟩, ih _ S' (listed.setIfInBounds j true) a' hst' (fun W h => h.1) (by simp [hsz]) ?_ hfree' (ready_mono hr (Ne.symm hji)) hy' ?_⟩
      · rcases hx with hx | ⟨hx1, hx2⟩
        · exact .inl hx
        · rcases hwr with hwr | hwr
          · exact .inl hwr
          · refine .inr ⟨fun W h => hx1 W (h.2 hwr), fun k ok hk hunk hw => (hx2 k ok hk ?_ hw).keep hun hj⟩
            by_cases hjk : j = k
            · subst hjk; exact hjun
            · rw [getD_set_ne true hjk] at hunk; exact hunk
      · rw [Array.setIfInBounds_comm _ _ hji]
        exact q4
theorem wpAny_of_E : ∀ (f : Nat) (S : World → Prop) (listed : Array Bool) (a : Act) (w : World), wpAnyE P md ops Q wr B0 f S listed a → S w → wpAny P md ops Q f listed a w
  | 0, S, listed, a, w, h, hS => by
    refine ⟨?_, h.2 w hS⟩
    cases hr : Region.ready md ops listed with
    | nil => rfl
    | cons j r =>
      exfalso
      have hj : j ∈ Region.ready md ops listed := by rw [hr]; exact List.mem_cons_self ..
      have h1 := h.1 j (ready_lt hj)
      rw [getD_both (mem_ready.1 hj).1] at h1
      cases h1
  | f + 1, S, listed, a, w, h, hS => ⟨fun h0 => absurd h0 (h w hS).1, fun i hi => wpOp_mono (fun a' w' ⟨S', q1, _, _, q4⟩ => wpAny_of_E f S' _ a' w' q4 q1) ((h w hS).2 i hi)⟩
end
end Go.Proofs.Ytjleiifcigojoaa
