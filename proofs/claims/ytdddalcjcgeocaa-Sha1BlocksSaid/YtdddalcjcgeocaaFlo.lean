/- A region whose order Go leaves open, in which variables are made while calls go on: the operations of the head, each with a value of its own in whatever world; the makings, each at whatever time; then a tail that waits for all of them. For any program. -/
import Derived.Test.YtdddalcjcgeocaaRow
namespace Go.Proofs.Ytdddalcjcgeocaa
open Go Go.RowKit
set_option linter.unusedVariables false
section
variable {P : Program} {ops : Array Oper} {Q : Exit → Act → World → Prop} {md : Region.Mode}

/-- Whatever order is picked, in whatever world that meets S: f operations of the head are still to come; END behind them. -/
def wpAnyG (P : Program) (md : Region.Mode) (ops : Array Oper) (Q : Exit → Act → World → Prop) (S : World → Prop) (n : Nat) : Nat → (Act → Prop) → Array Bool → Act → Prop
  | 0, END, listed, a => (∀ j, j < n → listed.getD j false = true) ∧ END a
  | f + 1, END, listed, a => ∀ w, S w → Region.ready md ops listed ≠ [] ∧
      ∀ i ∈ Region.ready md ops listed, i < n ∧ wpOp P ops Q i (fun a' w' => Below w.heap.size w w' ∧ wpAnyG P md ops Q S n f END (listed.setIfInBounds i true) a') a w

theorem wpAnyG_anti {S S' : World → Prop} {n : Nat} {END : Act → Prop} (hSS : ∀ w, S' w → S w) : ∀ (f : Nat) (listed : Array Bool) (a : Act), wpAnyG P md ops Q S n f END listed a → wpAnyG P md ops Q S' n f END listed a
  | 0, _, _, h => h
  | f + 1, listed, a, h => fun w hw => ⟨(h w (hSS w hw)).1, fun i hi => ⟨((h w (hSS w hw)).2 i hi).1, wpOp_mono (fun a' w' h' => ⟨h'.1, wpAnyG_anti hSS f _ a' h'.2⟩) ((h w (hSS w hw)).2 i hi).2⟩⟩

theorem wpAnyG_first {S : World → Prop} {END : Act → Prop} {n i : Nat} {oi : Oper} {v : Value} (hi : ops[i]? = some oi) (hsel : ∀ (j : Nat) (o : Oper) cs b, ops[j]? = some o → o.op ≠ .select cs b)
    (hs : Region.restB md ops n = true) (hin : i < n) (hQ : ∀ c a w, Q (.panic c) (a.put oi.dst v) w → Q (.panic c) a w) :
    ∀ (f : Nat) (listed : Array Bool) (a : Act), HeadInv md ops n listed →
      (∀ j oj, ops[j]? = some oj → j ≠ i → listed.getD j true = false → (∀ e ∈ oj.after, Region.binds md e = true → e.on ≠ i) → oi.apart ops oj = true) →
      i ∈ Region.ready md ops listed → YieldsIf P ops S oi v a →
      wpAnyG P md ops Q S n f END (listed.setIfInBounds i true) (a.put oi.dst v) → wpAnyG P md ops Q S n (f + 1) END listed a := by
  intro f
  induction f with
  | zero =>
    intro listed a inv _ hr hy H w hS
    have hun := (mem_ready.1 hr).1
    refine ⟨fun h => (by rw [h] at hr; cases hr), fun j hj => ⟨rest_waits hs inv hin hun j hj, ?_⟩⟩
    by_cases hji : j = i
    · subst hji; exact hy.wpOp hi hS ⟨Below.refl _ _, H⟩
    · have hjn := rest_waits hs inv hin hun j hj
      have h1 := H.1 j hjn
      rw [getD_set_ne false (Ne.symm hji), getD_both (mem_ready.1 hj).1] at h1
      cases h1
  | succ f ih =>
    intro listed a inv hfree hr hy H w hS
    have hun := (mem_ready.1 hr).1
    refine ⟨fun h => (by rw [h] at hr; cases hr), fun j hj => ?_⟩
    have hjn := rest_waits hs inv hin hun j hj
    refine ⟨hjn, ?_⟩
    by_cases hji : j = i
    · subst hji; exact hy.wpOp hi hS ⟨Below.refl _ _, H⟩
    · have h1 := ((H w hS).2 j (ready_mono hj hji)).2
      obtain ⟨hjun, oj, hoj, hall⟩ := mem_ready.1 hj
      have hnot : ∀ e ∈ oj.after, Region.binds md e = true → e.on ≠ i := fun e he hb heq => by
        have h1 := hall e he hb
        rw [heq, getD_both hun] at h1
        cases h1
      have h2 := wpOp_putIf hoj (hfree j oj hoj hji hjun hnot) (fun cs b => hsel i oi cs b hi) (fun cs b => hsel j oj cs b hoj) hQ hy h1
      have hfree' : ∀ k ok, ops[k]? = some ok → k ≠ i → (listed.setIfInBounds j true).getD k true = false →
          (∀ e ∈ ok.after, Region.binds md e = true → e.on ≠ i) → oi.apart ops ok = true := fun k ok hk hki hun hno => by
        refine hfree k ok hk hki ?_ hno
        by_cases hjk : j = k
        · subst hjk; exact hjun
        · rw [getD_set_ne true hjk] at hun; exact hun
      refine wpOp_mono (fun a' w' h3 => ⟨h3.2.1, ih (listed.setIfInBounds j true) a' (inv.set hj hjn) hfree' (ready_mono hr (Ne.symm hji)) h3.1 ?_⟩) h2
      rw [Array.setIfInBounds_comm _ _ hji]
      exact h3.2.2

theorem wpAnyG_alone {S : World → Prop} {END : Act → Prop} {n i f : Nat} {v : Value} {dst : Option Tmp} {listed : Array Bool} {a : Act} (hr : Region.ready md ops listed = [i]) (hin : i < n)
    (h : ∀ w, S w → wpOp P ops Q i (fun a' w' => a' = a.put dst v ∧ Below w.heap.size w w') a w) (H : wpAnyG P md ops Q S n f END (listed.setIfInBounds i true) (a.put dst v)) :
    wpAnyG P md ops Q S n (f + 1) END listed a := fun w hS => ⟨by rw [hr]; simp, fun j hj => by
    rw [hr] at hj
    obtain rfl : j = i := by simpa using hj
    exact ⟨hin, wpOp_mono (fun a' w' h' => ⟨h'.2, by rw [h'.1]; exact H⟩) (h w hS)⟩⟩

/-- What an operation does where a slot that it doesn't look at holds another value. -/
theorem wpOp_put' {j : Nat} {oi oj : Oper} {v : Value} (hj : ops[j]? = some oj) (hap : oi.apart ops oj = true) (hsj : ∀ cs b, oj.op ≠ .select cs b)
    (hQ : ∀ c a w, Q (.panic c) a w → Q (.panic c) (a.put oi.dst v) w) {K : Act → World → Prop} {a : Act} {w : World} (h : wpOp P ops Q j K a w) :
    wpOp P ops Q j (fun a'' w' => ∃ a', K a' w' ∧ a'' = a'.put oi.dst v) (a.put oi.dst v) w := by
  obtain ⟨h1, h2, h3⟩ := Oper.apart_spec hap
  unfold wpOp at *
  simp only [hj] at *
  rw [wanted_put oj a oi.dst v h1]
  split
  · rename_i hw
    simp only [hw, if_true] at h
    rcases h with h | ⟨hasks, hlets⟩
    case inr => exact .inr ⟨by unfold Oper.asks at *; rw [execOp_put oj hsj a oi.dst v h1]; exact hasks, hlets⟩
    refine .inl ?_
    unfold Oper.wp at *
    rw [execOp_put oj hsj a oi.dst v h1]
    generalize (execOp a.eval oj).run P w = r at *
    cases r with
    | ok n w' =>
      cases n <;> simp only [Oper.upon] at h ⊢
      case value u => exact ⟨_, h, (Act.put_comm a v u h2)⟩
      case skip => exact ⟨_, h, (Act.put_comm a v undef h2)⟩
      case defer d =>
        refine ⟨_, h, ?_⟩
        rw [← Act.put_comm _ v undef h2, ← Act.put_defers]
        cases oi.dst <;> cases oj.dst <;> rfl
      case enter f args =>
        refine Calls.mono h fun e w'' he => ?_
        cases e with
        | returned u => exact ⟨_, he, (Act.put_comm a v u h2)⟩
        | panicked c => exact hQ _ _ _ he
        | outgrown => exact he
      case row row args => exact Rows.mono h fun u w'' he => ⟨_, he, (Act.put_comm a v u h2)⟩
    | halt x w' =>
      cases x <;> simp only [Oper.upon] at h ⊢
      case panic u => exact hQ _ _ _ h
  · rename_i hw
    simp only [hw] at h
    exact ⟨_, h, (Act.put_comm a v undef h2)⟩

theorem wpAnyG_put {S : World → Prop} {n i : Nat} {oi : Oper} {v : Value} (hsel : ∀ (j : Nat) (o : Oper) cs b, ops[j]? = some o → o.op ≠ .select cs b)
    (hQ : ∀ c a w, Q (.panic c) a w → Q (.panic c) (a.put oi.dst v) w) (hap : ∀ j oj, j < n → j ≠ i → ops[j]? = some oj → oi.apart ops oj = true) {END : Act → Prop} :
    ∀ (f : Nat) (listed : Array Bool) (a : Act), listed.getD i false = true → wpAnyG P md ops Q S n f END listed a → wpAnyG P md ops Q S n f (fun a'' => ∃ a', END a' ∧ a'' = a'.put oi.dst v) listed (a.put oi.dst v)
  | 0, _, _, _, h => ⟨h.1, _, h.2, rfl⟩
  | f + 1, listed, a, hl, h => fun w hS => ⟨(h w hS).1, fun j hj => by
      obtain ⟨hjn, h1⟩ := (h w hS).2 j hj
      obtain ⟨hun, oj, hoj, _⟩ := mem_ready.1 hj
      have hji : j ≠ i := fun e => by rw [e] at hun; rw [getD_both hun] at hl; cases hl
      refine ⟨hjn, wpOp_mono (fun a'' w' h2 => ?_) (wpOp_put' (v := v) hoj (hap j oj hjn hji hoj) (fun cs b => hsel j oj cs b hoj) hQ h1)⟩
      obtain ⟨a', ⟨hb, hg⟩, rfl⟩ := h2
      exact ⟨hb, wpAnyG_put hsel hQ hap f _ a' (getD_set_true hl) hg⟩⟩

/-- A making: its operation, the slot of its address, the type, the cells. -/
structure Flo where
  (i : Nat) (d : Tmp) (t : TypeId) (z : Array Value)
def ptrTo (g : Nat) : Value := .pointer (some ⟨g, 0, none⟩)
/-- All addresses put into their slots. -/
def putFlo : Act → List Flo → (Nat → Nat) → Act
  | a, [], _ => a
  | a, x :: r, G => putFlo (a.put (some x.d) (ptrTo (G x.i))) r G
theorem putFlo_mid (G : Nat → Nat) (x : Flo) (l2 : List Flo) : ∀ (l1 : List Flo) (a : Act), (∀ y ∈ l1, y.d ≠ x.d) → putFlo a (l1 ++ x :: l2) G = putFlo (a.put (some x.d) (ptrTo (G x.i))) (l1 ++ l2) G
  | [], _, _ => rfl
  | y :: l1, a, h => by
    have h2 : y.d ≠ x.d := h y (List.mem_cons_self ..)
    rw [List.cons_append, putFlo, putFlo_mid G x l2 l1 _ (fun z hz => h z (List.mem_cons_of_mem _ hz)), List.cons_append, putFlo]
    rw [Act.put_comm _ _ _ (fun d hd => by cases hd; exact fun e => h2 (by injection e with e; exact e.symm))]
theorem putFlo_congr {G G' : Nat → Nat} : ∀ (l : List Flo) (a : Act), (∀ y ∈ l, G y.i = G' y.i) → putFlo a l G = putFlo a l G'
  | [], _, _ => rfl
  | y :: l, a, h => by rw [putFlo, putFlo, h y (List.mem_cons_self ..), putFlo_congr l _ (fun z hz => h z (List.mem_cons_of_mem _ hz))]
def markFlo : List Flo → Array Bool → Array Bool
  | [], L => L
  | x :: r, L => markFlo r (L.setIfInBounds x.i true)
theorem markFlo_set (j : Nat) : ∀ (l : List Flo) (L : Array Bool), (∀ y ∈ l, y.i ≠ j) → markFlo l (L.setIfInBounds j true) = (markFlo l L).setIfInBounds j true
  | [], _, _ => rfl
  | y :: l, L, h => by
    rw [markFlo, markFlo, ← markFlo_set j l _ (fun z hz => h z (List.mem_cons_of_mem _ hz)), Array.setIfInBounds_comm _ _ (h y (List.mem_cons_self ..)).symm]
theorem markFlo_mid (x : Flo) (l2 : List Flo) : ∀ (l1 : List Flo) (L : Array Bool), (∀ y ∈ l1, y.i ≠ x.i) → markFlo (l1 ++ x :: l2) L = markFlo (l1 ++ l2) (L.setIfInBounds x.i true)
  | [], _, _ => rfl
  | y :: l1, L, h => by
    rw [List.cons_append, markFlo, markFlo_mid x l2 l1 _ (fun z hz => h z (List.mem_cons_of_mem _ hz)), List.cons_append, markFlo, Array.setIfInBounds_comm _ _ (h y (List.mem_cons_self ..))]
theorem ready_mark {j : Nat} : ∀ (l : List Flo) (L : Array Bool), (∀ y ∈ l, y.i ≠ j) → j ∈ Region.ready md ops L → j ∈ Region.ready md ops (markFlo l L)
  | [], _, _, h => h
  | y :: l, L, hn, h => ready_mark l _ (fun z hz => hn z (List.mem_cons_of_mem _ hz)) (ready_mono h (hn y (List.mem_cons_self ..)).symm)
/-- What the makings of a region are asked, all closed. -/
def Region.floB (md : Region.Mode) (ops : Array Oper) (n : Nat) (is : List (Nat × Tmp)) : Bool :=
  is.all fun x => decide (x.1 < n) && match ops[x.1]? with
    | some o => decide (o.dst = some x.2) && decide (o.guard = none) && o.after.all (fun e => !Region.binds md e) && (List.range n).all fun j => decide (j = x.1) || match ops[j]? with
      | some oj => o.apart ops oj
      | none => true
    | none => false
structure FloOk (P : Program) (md : Region.Mode) (ops : Array Oper) (n : Nat) (x : Flo) : Prop where
  lt : x.i < n
  op : ∃ o, ops[x.i]? = some o ∧ o.dst = some x.d ∧ o.guard = none ∧ (∀ e ∈ o.after, Region.binds md e = false) ∧ (∀ j oj, j < n → j ≠ x.i → ops[j]? = some oj → o.apart ops oj = true) ∧
    ∀ ρ w, (execOp ρ o).run P w = .ok (.value (ptrTo w.heap.size)) (w.alloc (.cells x.z x.t))

theorem wpOp_exec {i : Nat} {o : Oper} {v : Value} {K : Act → World → Prop} {a : Act} {w w' : World} (hi : ops[i]? = some o) (hg : o.guard = none) (hr : (execOp a.eval o).run P w = .ok (.value v) w') (h : K (a.put o.dst v) w') : wpOp P ops Q i K a w := by
  unfold wpOp
  have hw : Region.wanted o (yielded ops a.tmps) = true := by unfold Region.wanted; rw [hg]
  simp only [hi, hw, if_true, Oper.wp, hr, Oper.upon]
  exact .inl h
theorem listed_all {n : Nat} {listed : Array Bool} (hn : n ≤ ops.size) (inv : HeadInv md ops n listed) (h : ∀ j, j < n → listed.getD j false = true) : listed = Array.replicate n true ++ Array.replicate (ops.size - n) false := by
  apply Array.ext
  · rw [inv.size]; simp; omega
  · intro j h1 h2
    rw [Array.getElem_append]
    by_cases hj : j < n
    · rw [dif_pos (by simpa using hj)]
      have := h j hj
      simp [h1] at this
      simp [this]
    · rw [dif_neg (by simpa using hj)]
      have := inv.tail j (by omega) (by rw [← inv.size]; exact h1)
      simp [h1] at this
      simp [this]
theorem below_alloc' (w : World) (o : Obj) : Below w.heap.size w (w.alloc o) := (Below.refl _ w).alloc (Nat.le_refl _) o

theorem wpAnyT_flo {n : Nat} (hsel : Region.noSelect ops = true) (hs : Region.restB md ops n = true) (hn : n ≤ ops.size)
    (hQ : ∀ c a d v w, Q (.panic c) a w → Q (.panic c) (a.put d v) w) (hseq : Region.seqB md ops (ops.size - n) n (Array.replicate n true ++ Array.replicate (ops.size - n) false) = true) :
    ∀ (m f : Nat) (fl : List Flo) (listed : Array Bool) (a : Act) (w : World) (END : Act → Prop) (S : World → Prop) (B : Nat), f + fl.length = m → HeadInv md ops n listed →
      (∀ x ∈ fl, FloOk P md ops n x ∧ listed.getD x.i true = false) → (fl.map (·.i)).Nodup → (fl.map (·.d)).Nodup →
      wpAnyG P md ops Q S n f END (markFlo fl listed) a → (∀ W W', S W → Below W.heap.size W W' → S W') → S w → B ≤ w.heap.size →
      (∀ a', END a' → ∀ G : Nat → Nat, (∀ x ∈ fl, B ≤ G x.i) → (∀ x ∈ fl, ∀ y ∈ fl, x.i ≠ y.i → G x.i ≠ G y.i) → ∀ w', S w' → (∀ x ∈ fl, Own w' (G x.i) x.t x.z) → wpList P ops Q (ops.toList.drop n) (putFlo a' fl G) w') →
      wpAnyT P md ops Q (fun _ => True) n m listed a w := by
  intro m
  induction m with
  | zero =>
    intro f fl listed a w END S B hm inv hfl hni hnd hG hst hS hB hE
    obtain rfl : f = 0 := by omega
    obtain rfl : fl = [] := List.eq_nil_of_length_eq_zero (by omega)
    have hall := listed_all hn inv hG.1
    refine ⟨by rw [hall]; exact hseq, ?_⟩
    exact hE a hG.2 (fun _ => 0) (fun _ h => by cases h) (fun _ h => by cases h) w hS (fun _ h => by cases h)
  | succ m ih =>
    intro f fl listed a w END S B hm inv hfl hni hnd hG hst hS hB hE
    have hready : ∀ x ∈ fl, x.i ∈ Region.ready md ops listed := fun x hx => by
      obtain ⟨⟨_, o, ho, _, _, hno, _⟩, hun⟩ := hfl x hx
      exact mem_ready.2 ⟨hun, o, ho, fun e he hb => by rw [hno e he] at hb; cases hb⟩
    refine ⟨?_, fun j hj => ?_⟩
    · cases fl with
      | cons x r => intro h; have := hready x (List.mem_cons_self ..); rw [h] at this; cases this
      | nil =>
        cases f with
        | zero => simp at hm
        | succ f => exact (hG w hS).1
    by_cases hx : ∃ x ∈ fl, x.i = j
    · obtain ⟨x, hx, rfl⟩ := hx
      obtain ⟨l1, l2, rfl⟩ := List.append_of_mem hx
      obtain ⟨⟨hlt, o, ho, hod, hog, hno, hap, hex⟩, hun⟩ := hfl x hx
      have hi1 : ∀ y ∈ l1 ++ l2, y.i ≠ x.i := by
        intro y hy e
        rw [List.map_append, List.map_cons, List.nodup_append] at hni
        rcases List.mem_append.1 hy with h | h
        · exact hni.2.2 _ (List.mem_map_of_mem h) _ (List.mem_cons_self ..) e
        · exact (List.nodup_cons.1 hni.2.1).1 (by rw [← e]; exact List.mem_map_of_mem h)
      have hd1 : ∀ y ∈ l1, y.d ≠ x.d := by
        intro y hy e
        rw [List.map_append, List.map_cons, List.nodup_append] at hnd
        exact hnd.2.2 _ (List.mem_map_of_mem hy) _ (List.mem_cons_self ..) e
      have sub1 : (l1 ++ l2).Sublist (l1 ++ x :: l2) := List.Sublist.append (List.Sublist.refl _) (List.sublist_cons_self x l2)
      have hmem : ∀ y ∈ l1 ++ l2, y ∈ l1 ++ x :: l2 := fun y hy => sub1.subset hy
      refine ⟨hlt, wpOp_exec ho hog (hex _ _) ⟨trivial, ?_⟩⟩
      have hgq := wpAnyG_put (oi := o) (v := ptrTo w.heap.size) (i := x.i) (Region.noSelect_spec hsel) (fun c a w => hQ c a _ _ w) hap f _ a ?_ hG
      · refine ih f (l1 ++ l2) (listed.setIfInBounds x.i true) _ _ _ (fun W => S W ∧ Own W w.heap.size x.t x.z) (w.heap.size + 1) (by simp at hm ⊢; omega) (inv.set (hready x hx) hlt) (fun y hy => ⟨(hfl y (hmem y hy)).1, by rw [getD_set_ne true (hi1 y hy).symm]; exact (hfl y (hmem y hy)).2⟩)
          (hni.sublist (sub1.map _)) (hnd.sublist (sub1.map _)) (wpAnyG_anti (fun _ h => h.1) f _ _ (by rw [← markFlo_mid x l2 l1 listed (fun y hy => hi1 y (List.mem_append_left _ hy))]; exact hgq))
          (fun W W' h hb => ⟨hst W W' h.1 hb, h.2.below hb⟩) ⟨hst _ _ hS (below_alloc' _ _), Own.new _ _ _⟩ (by simp) ?_
        rintro a'' ⟨a', ha', rfl⟩ G hGB hGn w' ⟨hSw, hOw⟩ hO
        obtain ⟨G2, hGx, hG2⟩ : ∃ G2 : Nat → Nat, G2 x.i = w.heap.size ∧ ∀ y ∈ l1 ++ l2, G2 y.i = G y.i := ⟨fun k => if k = x.i then w.heap.size else G k, by simp, fun y hy => by simp [hi1 y hy]⟩
        have hmem2 : ∀ y ∈ l1 ++ x :: l2, y = x ∨ y ∈ l1 ++ l2 := fun y hy => by
          rcases List.mem_append.1 hy with h | h
          · exact .inr (List.mem_append_left _ h)
          · rcases List.mem_cons.1 h with h | h
            · exact .inl h
            · exact .inr (List.mem_append_right _ h)
        have := hE a' ha' G2 ?_ ?_ w' hSw ?_
        · rw [putFlo_mid _ x l2 l1 a' hd1, putFlo_congr (l1 ++ l2) _ hG2, hGx] at this
          rw [hod]
          exact this
        · intro y hy
          rcases hmem2 y hy with rfl | h
          · rw [hGx]; exact hB
          · rw [hG2 y h]; have := hGB y h; omega
        · intro y hy z hz hne
          rcases hmem2 y hy with e | h <;> rcases hmem2 z hz with e' | h'
          · exact absurd (by rw [e, e']) hne
          · rw [hG2 z h', e, hGx]; have := hGB z h'; omega
          · rw [hG2 y h, e', hGx]; have := hGB y h; omega
          · rw [hG2 y h, hG2 z h']; exact hGn y h z h' hne
        · intro y hy
          rcases hmem2 y hy with e | h
          · rw [e, hGx]; exact hOw
          · rw [hG2 y h]; exact hO y h
      · rw [markFlo_mid x l2 l1 listed (fun y hy => hi1 y (List.mem_append_left _ hy)), markFlo_set x.i (l1 ++ l2) listed hi1]
        have hsz : (markFlo (l1 ++ l2) listed).size = listed.size := by
          have : ∀ (l : List Flo) (L : Array Bool), (markFlo l L).size = L.size := by
            intro l
            induction l with
            | nil => intro L; rfl
            | cons y l ih => intro L; rw [markFlo, ih]; simp
          exact this _ _
        have : x.i < (markFlo (l1 ++ l2) listed).size := by rw [hsz, inv.size]; omega
        simp [this]
    · have hne : ∀ y ∈ fl, y.i ≠ j := fun y hy e => hx ⟨y, hy, e⟩
      have hjm := ready_mark fl listed hne hj
      cases f with
      | zero =>
        exfalso
        cases fl with
        | nil => simp at hm
        | cons x r =>
          have hjn := rest_waits hs inv (hfl x (List.mem_cons_self ..)).1.lt (hfl x (List.mem_cons_self ..)).2 j hj
          have h1 := hG.1 j hjn
          rw [getD_both (mem_ready.1 hjm).1] at h1
          cases h1
      | succ f =>
        obtain ⟨hjn, h1⟩ := (hG w hS).2 j hjm
        refine ⟨hjn, wpOp_mono (fun a' w' h2 => ⟨trivial, ?_⟩) h1⟩
        refine ih f fl (listed.setIfInBounds j true) a' w' END S B (by omega) (inv.set hj hjn) (fun y hy => ⟨(hfl y hy).1, by rw [getD_set_ne true (hne y hy).symm]; exact (hfl y hy).2⟩) hni hnd (by rw [markFlo_set j fl listed hne]; exact h2.2) hst (hst _ _ hS h2.1) (Nat.le_trans hB h2.1.size) hE

/-- May the plan be carried out? As 'planB'; at its end all of the head is listed. -/
def Region.planGB (md : Region.Mode) (ops : Array Oper) (n : Nat) : List (Bool × Nat) → Array Bool → Bool
  | [], listed => (List.range n).all fun j => listed.getD j false
  | (true, i) :: r, listed => decide (i < n) && (Region.ready md ops listed).contains i && Region.free md ops listed i && Region.planGB md ops n r (listed.setIfInBounds i true)
  | (false, i) :: r, listed => decide (i < n) && decide (Region.ready md ops listed = [i]) && Region.planGB md ops n r (listed.setIfInBounds i true)
/-- What is owed along the plan: a value of its own for each operation. -/
def wpPlanG (P : Program) (ops : Array Oper) (Q : Exit → Act → World → Prop) (S : World → Prop) (END : Act → Prop) : List (Bool × Nat) → Act → Prop
  | [], a => END a
  | (true, i) :: r, a => ∃ v, YieldsIf P ops S (ops.getD i default) v a ∧ wpPlanG P ops Q S END r (a.put (ops.getD i default).dst v)
  | (false, i) :: r, a => ∃ v, (∀ w, S w → wpList P ops (Exit.then (fun a' w' => a' = a.put (ops.getD i default).dst v ∧ Below w.heap.size w w') Q) [ops.getD i default] a w) ∧ wpPlanG P ops Q S END r (a.put (ops.getD i default).dst v)
theorem wpAnyG_of_plan {S : World → Prop} {END : Act → Prop} {n : Nat} (hsel : Region.noSelect ops = true) (hs : Region.restB md ops n = true) (hQ : ∀ c a d v w, Q (.panic c) (a.put d v) w → Q (.panic c) a w) :
    ∀ (plan : List (Bool × Nat)) (listed : Array Bool) (a : Act), HeadInv md ops n listed → Region.planGB md ops n plan listed = true →
      wpPlanG P ops Q S END plan a → wpAnyG P md ops Q S n plan.length END listed a
  | [], listed, a, _, hB, h => ⟨fun j hj => by simp only [Region.planGB, List.all_eq_true] at hB; exact hB j (List.mem_range.2 hj), h⟩
  | (true, i) :: r, listed, a, inv, hB, ⟨v, hy, h⟩ => by
    simp only [Region.planGB, Bool.and_eq_true, decide_eq_true_eq] at hB
    obtain ⟨⟨⟨hin, hr⟩, hf⟩, hB'⟩ := hB
    have hr' : i ∈ Region.ready md ops listed := by simpa using hr
    obtain ⟨_, oi, hoi, _⟩ := mem_ready.1 hr'
    have hd : ops.getD i default = oi := by
      obtain ⟨h1, h2⟩ := (Array.getElem?_eq_some_iff.1 hoi)
      simp [h1, h2]
    rw [hd] at hy h
    exact wpAnyG_first hoi (Region.noSelect_spec hsel) hs hin (fun c a w => hQ c a _ _ w) r.length listed a inv (Region.free_spec hoi hf) hr' hy
      (wpAnyG_of_plan hsel hs hQ r _ _ (inv.set hr' hin) hB' h)
  | (false, i) :: r, listed, a, inv, hB, ⟨v, hl, h⟩ => by
    simp only [Region.planGB, Bool.and_eq_true, decide_eq_true_eq] at hB
    obtain ⟨⟨hin, hr⟩, hB'⟩ := hB
    have hr' : i ∈ Region.ready md ops listed := by rw [hr]; simp
    obtain ⟨_, oi, hoi, _⟩ := mem_ready.1 hr'
    have hd : ops.getD i default = oi := by
      obtain ⟨h1, h2⟩ := (Array.getElem?_eq_some_iff.1 hoi)
      simp [h1, h2]
    rw [hd] at hl h
    exact wpAnyG_alone hr hin (fun w hS => wpOp_of_list hoi (fun _ _ _ h => h) (fun ⟨a, w, h⟩ => ⟨a, w, h⟩) (hl w hS)) (wpAnyG_of_plan hsel hs hQ r _ _ (inv.set hr' hin) hB' h)
def FloExec (P : Program) (ops : Array Oper) : List Flo → Prop
  | [] => True
  | x :: r => (∀ ρ w, (execOp ρ (ops.getD x.i default)).run P w = .ok (.value (ptrTo w.heap.size)) (w.alloc (.cells x.z x.t))) ∧ FloExec P ops r
theorem FloExec.mem : ∀ {fl : List Flo}, FloExec P ops fl → ∀ x ∈ fl, ∀ ρ w, (execOp ρ (ops.getD x.i default)).run P w = .ok (.value (ptrTo w.heap.size)) (w.alloc (.cells x.z x.t))
  | y :: r, h, x, hx => by
    rcases List.mem_cons.1 hx with rfl | hx
    · exact h.1
    · exact FloExec.mem h.2 x hx
theorem exec_alloc {o : Oper} {t : TypeId} {v : Value} (ho : o.op = .alloc t) (hz : ∀ w, (zeroValue t).run P w = .ok v w) (ρ : Operand → Value) (w : World) : (execOp ρ o).run P w = .ok (.value (ptrTo w.heap.size)) (w.alloc (.cells v.cells t)) := by
  unfold execOp
  simp [ho, Instr.alloc, Sem.run_bind, hz, Result.andThen_ok, newVar, newRow, ptrTo]
/-- Everything of a plan with makings that is closed, asked at once. -/
def Region.floPlanned (md : Region.Mode) (ops : Array Oper) (n : Nat) (plan : List (Bool × Nat)) (is : List (Nat × Tmp)) : Bool :=
  Region.noSelect ops && Region.restB md ops n && decide (plan.length + is.length = n) && decide (n ≤ ops.size) && Region.seqB md ops (ops.size - n) n (Array.replicate n true ++ Array.replicate (ops.size - n) false) &&
  Region.floB md ops n is && decide (is.map (·.1)).Nodup && decide (is.map (·.2)).Nodup && Region.planGB md ops n plan (is.foldl (fun L x => L.setIfInBounds x.1 true) (Array.replicate ops.size false))
theorem markFlo_foldl : ∀ (fl : List Flo) (L : Array Bool), markFlo fl L = (fl.map fun x => (x.i, x.d)).foldl (fun L x => L.setIfInBounds x.1 true) L
  | [], _ => rfl
  | x :: r, L => by rw [markFlo, markFlo_foldl r]; rfl
theorem markFlo_inv {n : Nat} : ∀ (fl : List Flo) (L : Array Bool), (∀ x ∈ fl, FloOk P md ops n x) → (fl.map (·.i)).Nodup → (∀ x ∈ fl, L.getD x.i true = false) → HeadInv md ops n L → HeadInv md ops n (markFlo fl L)
  | [], _, _, _, _, inv => inv
  | x :: r, L, hok, hnd, hun, inv => by
    obtain ⟨hlt, o, ho, _, _, hno, _⟩ := hok x (List.mem_cons_self ..)
    rw [List.map_cons, List.nodup_cons] at hnd
    refine markFlo_inv r _ (fun y hy => hok y (List.mem_cons_of_mem _ hy)) hnd.2 (fun y hy => ?_) (inv.set (mem_ready.2 ⟨hun x (List.mem_cons_self ..), o, ho, fun e he hb => by rw [hno e he] at hb; cases hb⟩) hlt)
    rw [getD_set_ne true (fun e => hnd.1 (by rw [e]; exact List.mem_map_of_mem hy))]
    exact hun y (List.mem_cons_of_mem _ hy)
theorem wp_region_flo {id : Nat} {l : List Oper} (n : Nat) (plan : List (Bool × Nat)) (fl : List Flo) (S : World → Prop) {a : Act} {w : World} (hm : P.follows .mixedOrders = true)
    (hB : Region.floPlanned .any l.toArray n plan (fl.map fun x => (x.i, x.d)) = true) (hQ : ∀ c a d v w, Q (.panic c) (a.put d v) w → Q (.panic c) a w) (hQ2 : ∀ c a d v w, Q (.panic c) a w → Q (.panic c) (a.put d v) w)
    (hex : FloExec P l.toArray fl) (hst : ∀ W W', S W → Below W.heap.size W W' → S W') (hS : S w.drew)
    (h : wpPlanG P l.toArray Q S (fun a' => ∀ G : Nat → Nat, (∀ x ∈ fl, w.heap.size ≤ G x.i) → (∀ x ∈ fl, ∀ y ∈ fl, x.i ≠ y.i → G x.i ≠ G y.i) → ∀ w', S w' → (∀ x ∈ fl, Own w' (G x.i) x.t x.z) → wpList P l.toArray Q (l.drop n) (putFlo a' fl G) w') plan a) :
    (Code.region id l.toArray true).wp P Q a w := by
  simp only [Region.floPlanned, Bool.and_eq_true, decide_eq_true_eq, List.map_map, List.length_map] at hB
  obtain ⟨⟨⟨⟨⟨⟨⟨⟨hsel, hs⟩, hlen⟩, hn⟩, hseq⟩, hflo⟩, hni⟩, hnd⟩, hplan⟩ := hB
  have inv0 : HeadInv .any l.toArray n (Array.replicate l.toArray.size false) :=
    ⟨by simp, fun j oj _ hl => (by rw [getD_replicate_false] at hl; cases hl), fun t _ ht => getD_in (by simpa using ht) (getD_replicate_false _ _)⟩
  have hok : ∀ x ∈ fl, FloOk P .any l.toArray n x := fun x hx => by
    simp only [Region.floB, List.all_map, List.all_eq_true, Function.comp, Bool.and_eq_true, decide_eq_true_eq] at hflo
    obtain ⟨h1, h2⟩ := hflo x hx
    refine ⟨h1, ?_⟩
    split at h2
    · rename_i o ho
      simp only [Bool.and_eq_true, decide_eq_true_eq] at h2
      obtain ⟨⟨⟨h3, h4⟩, h5⟩, h6⟩ := h2
      have hd : l.toArray.getD x.i default = o := by
        obtain ⟨h1, h2⟩ := (Array.getElem?_eq_some_iff.1 ho)
        simp only [Array.getD, dif_pos h1]; exact h2
      refine ⟨o, ho, h3, h4, fun e he => ?_, fun j oj hj hne hoj => ?_, fun ρ w => by rw [← hd]; exact hex.mem x hx ρ w⟩
      · simpa using Array.all_eq_true'.1 h5 e he
      · simp only [List.all_eq_true, List.mem_range] at h6
        have := h6 j hj
        rw [hoj] at this
        simpa [hne] using this
    · cases h2
  have hun : ∀ x ∈ fl, (Array.replicate l.toArray.size false).getD x.i true = false := fun x hx => getD_in (by have := (hok x hx).lt; simp at hn ⊢; omega) (getD_replicate_false _ _)
  have hni' : (fl.map (·.i)).Nodup := hni
  have hnd' : (fl.map (·.d)).Nodup := hnd
  have inv1 := markFlo_inv fl _ hok hni' hun inv0
  have hplan' : Region.planGB .any l.toArray n plan (markFlo fl (Array.replicate l.toArray.size false)) = true := by rw [markFlo_foldl]; exact hplan
  have H := wpAnyT_flo (md := .any) hsel hs hn hQ2 hseq (plan.length + fl.length) plan.length fl _ a w.drew _ S w.heap.size rfl inv0 (fun x hx => ⟨hok x hx, hun x hx⟩) hni' hnd'
    (wpAnyG_of_plan hsel hs hQ plan _ a inv1 hplan' h) hst hS (Nat.le_refl _) (fun a' ha' G h1 h2 w' h3 h4 => ha' G h1 h2 w' h3 h4)
  have H2 := wpAny_of_T _ _ _ _ H
  rw [hlen, show n + (l.toArray.size - n) = l.toArray.size by omega] at H2
  exact wp_region_any hm H2
/-- The steps along a plan with makings, each for 'refine': the operation comes written out. -/
theorem flo_take {S : World → Prop} {END : Act → Prop} {i : Nat} {dst : Option Tmp} {op : Op} {ty : TypeId} {pos : String} {after : Array Edge} {guard : Option (Nat × Bool)} {r : List (Bool × Nat)} {a : Act} (v : Value) (ho : ops.getD i default = ⟨dst, op, ty, pos, after, guard⟩)
    (hy : YieldsIf P ops S ⟨dst, op, ty, pos, after, guard⟩ v a) (h : wpPlanG P ops Q S END r (a.put dst v)) : wpPlanG P ops Q S END ((true, i) :: r) a := by
  refine ⟨v, ?_, ?_⟩ <;> rw [ho]
  · exact hy
  · exact h
theorem flo_loud {S : World → Prop} {END : Act → Prop} {i : Nat} {dst : Option Tmp} {op : Op} {ty : TypeId} {pos : String} {after : Array Edge} {guard : Option (Nat × Bool)} {r : List (Bool × Nat)} {a : Act} (v : Value) (ho : ops.getD i default = ⟨dst, op, ty, pos, after, guard⟩)
    (hl : ∀ w, S w → wpList P ops (Exit.then (fun a' w' => a' = a.put dst v ∧ Below w.heap.size w w') Q) [⟨dst, op, ty, pos, after, guard⟩] a w) (h : wpPlanG P ops Q S END r (a.put dst v)) : wpPlanG P ops Q S END ((false, i) :: r) a := by
  refine ⟨v, ?_, ?_⟩ <;> rw [ho]
  · exact hl
  · exact h
end
end Go.Proofs.Ytdddalcjcgeocaa
