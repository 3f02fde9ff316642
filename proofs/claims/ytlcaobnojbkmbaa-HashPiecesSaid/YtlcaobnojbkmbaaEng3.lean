/- The engine, part 3: what is owed for code, told without a world. For any program. -/
import Derived.Test.YtlcaobnojbkmbaaEng1
import Derived.Test.YtlcaobnojbkmbaaEng2
/- A region whose order Go leaves open, carried out along a plan: what is known of the world is another behind each operation. For any program. -/
namespace Go.Proofs.Ytlcaobnojbkmbaa
open Go Go.RowKit
set_option linter.unusedVariables false
section
variable {P : Program} {ops : Array Oper} {Q : Exit → Act → World → Prop} {md : Region.Mode} {wr : Nat → Bool} {B0 : World → Prop}
def Stable (S : World → Prop) : Prop := ∀ W W', S W → Below W.heap.size W W' → S W'
/-- Whatever order is picked, in whatever world that meets S: f operations are still to come. 'wr': which ones write. -/
def wpAnyE (P : Program) (md : Region.Mode) (ops : Array Oper) (Q : Exit → Act → World → Prop) (wr : Nat → Bool) (B0 : World → Prop) : Nat → (World → Prop) → Array Bool → Act → Prop
  | 0, S, listed, a => (∀ j, j < ops.size → listed.getD j false = true) ∧ ∀ w, S w → Q .normal a w
  | f + 1, S, listed, a => ∀ w, S w → Region.ready md ops listed ≠ [] ∧
      ∀ i ∈ Region.ready md ops listed, wpOp P ops Q i (fun a' w' => ∃ S', S' w' ∧ (Stable S' ∧ ∀ W, S' W → B0 W) ∧ (wr i = false → Below w.heap.size w w' ∧ ∀ W, S' W → S W) ∧ wpAnyE P md ops Q wr B0 f S' (listed.setIfInBounds i true) a') a w
theorem yieldsIf_weak {S S' : World → Prop} {o : Oper} {v : Value} {a : Act} (hS : ∀ W, S' W → S W) (h : YieldsIf P ops S o v a) : YieldsIf P ops S' o v a :=
  h.imp (fun ⟨h1, h2⟩ => ⟨h1, fun w hw => h2 w (hS w hw)⟩) id
theorem ready_lt {j : Nat} {listed : Array Bool} (h : j ∈ Region.ready md ops listed) : j < ops.size := by
  obtain ⟨_, o, ho, _⟩ := mem_ready.1 h
  exact (Array.getElem?_eq_some_iff.1 ho).1
theorem wpAnyE_weak : ∀ (f : Nat) (T T' : World → Prop) (L : Array Bool) (a : Act), (Stable T' ∧ ∀ W, T' W → B0 W) → (∀ W, T' W → T W) → wpAnyE P md ops Q wr B0 f T L a → wpAnyE P md ops Q wr B0 f T' L a := by
  intro f
  induction f with
  | zero => exact fun T T' L a _ hT h => ⟨h.1, fun w hw => h.2 w (hT w hw)⟩
  | succ f ihf =>
    intro T T' L a hs hT h w hw
    refine ⟨(h w (hT w hw)).1, fun i hi => wpOp_mono (fun a' w' h' => ?_) ((h w (hT w hw)).2 i hi)⟩
    obtain ⟨S', p1, p2, p3, p4⟩ := h'
    refine ⟨fun W' => S' W' ∧ (wr i = false → T' W'), ⟨p1, fun hw2 => hs.1 w w' hw (p3 hw2).1⟩, ⟨fun W1 W2 h1 hb => ⟨p2.1 W1 W2 h1.1 hb, fun hw2 => hs.1 W1 W2 (h1.2 hw2) hb⟩, fun W h => p2.2 W h.1⟩, fun hw2 => ⟨(p3 hw2).1, fun W' h' => h'.2 hw2⟩, ?_⟩
    exact ihf S' _ _ _ ⟨fun W1 W2 h1 hb => ⟨p2.1 W1 W2 h1.1 hb, fun hw2 => hs.1 W1 W2 (h1.2 hw2) hb⟩, fun W h => p2.2 W h.1⟩ (fun W' h' => h'.1) p4
/-- An operation that comes behind i whatever order is picked, as long as i is not listed. -/
inductive Waits (md : Region.Mode) (ops : Array Oper) (listed : Array Bool) (i : Nat) : Nat → Prop where
  | at {j : Nat} {oj : Oper} {e : Edge} : ops[j]? = some oj → e ∈ oj.after → Region.binds md e = true → e.on = i → Waits md ops listed i j
  | by {j : Nat} {oj : Oper} {e : Edge} : ops[j]? = some oj → e ∈ oj.after → Region.binds md e = true → listed.getD e.on true = false → Waits md ops listed i e.on → Waits md ops listed i j
theorem Waits.not_ready {listed : Array Bool} {i j : Nat} (h : Waits md ops listed i j) (hun : listed.getD i true = false) : j ∉ Region.ready md ops listed := by
  intro hr
  obtain ⟨_, o, ho, hall⟩ := mem_ready.1 hr
  cases h with
  | «at» hj he hb hon =>
    rw [ho] at hj; injection hj with hj; subst hj
    have := hall _ he hb
    rw [hon, getD_both hun] at this; cases this
  | «by» hj he hb hk _ =>
    rw [ho] at hj; injection hj with hj; subst hj
    have := hall _ he hb
    rw [getD_both hk] at this; cases this
theorem Waits.keep {listed : Array Bool} {i j k : Nat} (h : Waits md ops listed i j) (hun : listed.getD i true = false) (hk : k ∈ Region.ready md ops listed) : Waits md ops (listed.setIfInBounds k true) i j := by
  induction h with
  | «at» hj he hb hon => exact .at hj he hb hon
  | «by» hj he hb hk2 hw ih =>
    refine .by hj he hb ?_ ih
    rw [getD_set_ne true (fun e => hw.not_ready hun (by rw [← e]; exact hk))]
    exact hk2
/-- An operation whose value hangs on nothing that a later one writes is taken first. -/
theorem wpAnyE_first {i : Nat} {oi : Oper} {v : Value} {Sx : World → Prop} (hi : ops[i]? = some oi) (hsel : ∀ (j : Nat) (o : Oper) cs b, ops[j]? = some o → o.op ≠ .select cs b)
    (hQ : ∀ c a w, Q (.panic c) (a.put oi.dst v) w → Q (.panic c) a w) :
    ∀ (f : Nat) (S S2 : World → Prop) (listed : Array Bool) (a : Act), (Stable S ∧ ∀ W, S W → B0 W) → (∀ W, S W → S2 W) → listed.size = ops.size →
      ((∀ W, B0 W → Sx W) ∨ ((∀ W, S W → Sx W) ∧ ∀ j oj, ops[j]? = some oj → listed.getD j true = false → wr j = true → Waits md ops listed i j)) →
      (∀ j oj, ops[j]? = some oj → j ≠ i → listed.getD j true = false → (∀ e ∈ oj.after, Region.binds md e = true → e.on ≠ i) → oi.apart ops oj = true) →
      i ∈ Region.ready md ops listed → YieldsIf P ops Sx oi v a →
      wpAnyE P md ops Q wr B0 f S2 (listed.setIfInBounds i true) (a.put oi.dst v) → wpAnyE P md ops Q wr B0 (f + 1) S listed a := by
  intro f
  induction f with
  | zero =>
    intro S S2 listed a hst hS2 hsz hx _ hr hy H w hS
    refine ⟨fun h => (by rw [h] at hr; cases hr), fun j hj => ?_⟩
    by_cases hji : j = i
    · subst hji
      have hSx : Sx w := hx.elim (fun h => h w (hst.2 w hS)) (fun h => h.1 w hS)
      exact hy.wpOp hi hSx ⟨S, hS, hst, fun _ => ⟨Below.refl _ _, fun _ h => h⟩, H.1, fun W hW => H.2 W (hS2 W hW)⟩
    · have h1 := H.1 j (ready_lt hj)
      rw [getD_set_ne false (Ne.symm hji), getD_both (mem_ready.1 hj).1] at h1
      cases h1
  | succ f ih =>
    intro S S2 listed a hst hS2 hsz hx hfree hr hy H w hS
    have hun := (mem_ready.1 hr).1
    refine ⟨fun h => (by rw [h] at hr; cases hr), fun j hj => ?_⟩
    by_cases hji : j = i
    · subst hji
      have hSx : Sx w := hx.elim (fun h => h w (hst.2 w hS)) (fun h => h.1 w hS)
      refine hy.wpOp hi hSx ⟨S, hS, hst, fun _ => ⟨Below.refl _ _, fun _ h => h⟩, ?_⟩
      exact wpAnyE_weak (f + 1) S2 S _ _ hst hS2 H
    · have h1 := (H w (hS2 w hS)).2 j (ready_mono hj hji)
      obtain ⟨hjun, oj, hoj, hall⟩ := mem_ready.1 hj
      have hnot : ∀ e ∈ oj.after, Region.binds md e = true → e.on ≠ i := fun e he hb heq => by
        have h1 := hall e he hb
        rw [heq, getD_both hun] at h1
        cases h1
      have h2 := wpOp_putIf hoj (hfree j oj hoj hji hjun hnot) (fun cs b => hsel i oi cs b hi) (fun cs b => hsel j oj cs b hoj) hQ hy h1
      have hfree' : ∀ k ok, ops[k]? = some ok → k ≠ i → (listed.setIfInBounds j true).getD k true = false →
          (∀ e ∈ ok.after, Region.binds md e = true → e.on ≠ i) → oi.apart ops ok = true := fun k ok hk hki hun hno => by
        refine hfree k ok hk hki ?_ hno
        by_cases hjk : j = k
        · subst hjk; exact hjun
        · rw [getD_set_ne true hjk] at hun; exact hun
      refine wpOp_mono (fun a' w' h3 => ?_) h2
      obtain ⟨hy', S', q1, q2, q3, q4⟩ := h3
      have hwr : (∀ W, B0 W → Sx W) ∨ wr j = false := by
        rcases hx with hx | ⟨_, hx⟩
        · exact .inl hx
        · right
          cases hw : wr j with
          | false => rfl
          | true =>
            exact absurd hj ((hx j oj hoj hjun hw).not_ready hun)
      have hst' : Stable (fun W => S' W ∧ (wr j = false → S W)) ∧ ∀ W, (S' W ∧ (wr j = false → S W)) → B0 W := ⟨fun W1 W2 h1 hb => ⟨q2.1 W1 W2 h1.1 hb, fun hw => hst.1 W1 W2 (h1.2 hw) hb⟩, fun W h => q2.2 W h.1⟩
      refine ⟨fun W => S' W ∧ (wr j = false → S W), ⟨q1, fun hw => hst.1 w w' hS (q3 hw).1⟩, hst', fun hw => ⟨(q3 hw).1, fun W h => h.2 hw⟩, ih _ S' (listed.setIfInBounds j true) a' hst' (fun W h => h.1) (by simp [hsz]) ?_ hfree' (ready_mono hr (Ne.symm hji)) hy' ?_⟩
      · rcases hx with hx | ⟨hx1, hx2⟩
        · exact .inl hx
        · rcases hwr with hwr | hwr
          · exact .inl hwr
          · refine .inr ⟨fun W h => hx1 W (h.2 hwr), fun k ok hk hunk hw => (hx2 k ok hk ?_ hw).keep hun hj⟩
            by_cases hjk : j = k
            · subst hjk; exact hjun
            · rw [getD_set_ne true hjk] at hunk; exact hunk
      · rw [Array.setIfInBounds_comm _ _ hji]
        exact q4
theorem wpAny_of_E : ∀ (f : Nat) (S : World → Prop) (listed : Array Bool) (a : Act) (w : World), wpAnyE P md ops Q wr B0 f S listed a → S w → wpAny P md ops Q f listed a w
  | 0, S, listed, a, w, h, hS => by
    refine ⟨?_, h.2 w hS⟩
    cases hr : Region.ready md ops listed with
    | nil => rfl
    | cons j r =>
      exfalso
      have hj : j ∈ Region.ready md ops listed := by rw [hr]; exact List.mem_cons_self ..
      have h1 := h.1 j (ready_lt hj)
      rw [getD_both (mem_ready.1 hj).1] at h1
      cases h1
  | f + 1, S, listed, a, w, h, hS => ⟨fun h0 => absurd h0 (h w hS).1, fun i hi => wpOp_mono (fun a' w' ⟨S', q1, _, _, q4⟩ => wpAny_of_E f S' _ a' w' q4 q1) ((h w hS).2 i hi)⟩
end
end Go.Proofs.Ytlcaobnojbkmbaa
/- What is owed for code, told without a world. For any program. -/
namespace Go.Proofs.Ytlcaobnojbkmbaa
open Go Go.RowKit
set_option linter.unusedVariables false
set_option linter.unusedSimpArgs false
variable {ds : List Deferred}

inductive Ex where
  | normal | exit (id : Nat) | ret
abbrev KE := Ex → Env → Mem → Nat → Prop
def putE (dst : Option Tmp) (v : AV) (env : Env) : Env :=
  match dst with
  | some d => (d, v) :: env
  | none => env
def dstB (N : Nat) (dst : Option Tmp) : Bool :=
  match dst with
  | some d => decide (d < N)
  | none => true
section
variable (tt : TT) (ct : CTab) (N : Nat)
/-- An operation's question whether it is carried out: 'yes' and 'no' are what is owed in each case. -/
def guardVC (ops : Array Oper) (g : Option (Nat × Bool)) (env : Env) (yes no : Env → Prop) : Prop :=
  match g with
  | none => yes env
  | some (j, want) => (match (ops[j]?).bind (·.dst) with
    | some d => (match getA env d with
      | some (.bool b) => (match want with
        | true => bothP b (yes ((d, .bool true) :: env)) (no ((d, .bool false) :: env))
        | false => bothP (!b) (yes ((d, .bool false) :: env)) (no ((d, .bool true) :: env)))
      | some (.tup _) => no env
      | _ => False)
    | none => False)
/-- An operation of a list. -/
def listVC (env : Env) (mem : Mem) (nx : Nat) (op : Op) (K : KO) : Prop :=
  match op with
  | .call c => (match c.callee with
    | .value (.func F) => (match ct F with
      | .mem m => m (c.args.toList.map (ev env)) mem nx K
      | .xmem m => m (c.args.toList.map (ev env)) mem nx K
      | _ => opVC tt ct env mem nx (.call c) K)
    | .builtin _ => opVC tt ct env mem nx (.call c) K
    | _ => (match whoOf tt env c with
      | some (F, args, tys) => (match ct F with
        | .mem m => m args mem nx K
        | _ => callVC tt ct mem nx F args tys K)
      | none => False))
  | op => opVC tt ct env mem nx op K
def vcList (ops : Array Oper) : List Oper → Env → Mem → Nat → KE → Prop
  | [], env, mem, nx, K => K .normal env mem nx
  | o :: rest, env, mem, nx, K => dstB N o.dst = true ∧ guardVC ops o.guard env
      (fun env => listVC tt ct env mem nx o.op fun v mem nx => vcList ops rest (putE o.dst v env) mem nx K)
      (fun env => vcList ops rest (putE o.dst (.tup []) env) mem nx K)
def extM (m' : Mem) : Mem → Prop
  | [] => True
  | (l, e) :: r => getA m' l = some e ∧ extM m' r
/-- The same, or more. -/
def extE (m' m : Mem) : Prop := m' = m ∨ extM m' m
/-- Does its value hang on the temporaries alone? -/
def slotOp : Op → Bool
  | .move _ | .assign _ | .pick .. | .extract .. | .binOp .. | .unOp .. | .index .. | .field .. => true
  | _ => false
/-- How a plan has an operation: carried out where it alone may come up, taken, taken on the strength of what no operation of the region writes. -/
inductive PK where
  | ld | tk | fz | lm
/-- What of the memory is named so. -/
def keepM (ks : List Nat) : Mem → Mem
  | [] => []
  | (l, e) :: r => if ks.any (· == l) then (l, e) :: keepM ks r else keepM ks r
def leA {α : Type} (l : List (Nat × α)) : List (Nat × α) → Prop
  | [] => True
  | (d, v) :: r => getA l d = some v ∧ leA l r
/-- A call of a function that may write into what it is handed. -/
def memVC (env : Env) (mem : Mem) (nx : Nat) (op : Op) (K : KO) : Prop :=
  match op with
  | .call c => (match c.callee with
    | .value (.func F) => (match ct F with
      | .mem m => m (c.args.toList.map (ev env)) mem nx K
      | _ => False)
    | _ => False)
  | _ => False
/-- A drawing region's operations, along its plan. 'F': what no operation of it writes. -/
def planVC (F : Mem) (ops : Array Oper) : List (PK × Nat) → Env → Mem → Nat → (Env → Mem → Nat → Prop) → Prop
  | [], env, mem, nx, K => K env mem nx
  | (k, i) :: r, env, mem, nx, K => (match ops[i]? with
    | some o => dstB N o.dst = true ∧ guardVC ops o.guard env
      (fun env => (match k with
        | .tk => pureVC tt env mem nx o.op fun v m nx => extE m mem ∧ planVC F ops r (putE o.dst v env) m nx K
        | .fz => pureVC tt env F nx o.op fun v _ _ => planVC F ops r (putE o.dst v env) mem nx K
        | .ld => opVC tt ct env mem nx o.op fun v m nx => (if quietOp o.op then extE m mem else leA m F) ∧ planVC F ops r (putE o.dst v env) m nx K
        | .lm => memVC ct env mem nx o.op fun v m nx => leA m F ∧ planVC F ops r (putE o.dst v env) m nx K))
      (fun env => planVC F ops r (putE o.dst (.tup []) env) mem nx K)
    | none => False)
def isAlloc : Op → Bool
  | .alloc e => (tt e).isSome
  | _ => false
def marks (L : Array Bool) (l : List Nat) : Array Bool := l.foldl (fun L i => L.setIfInBounds i true) L
def wrB (ops : Array Oper) (i : Nat) : Bool := match ops[i]? with
  | some o => !quietOp o.op
  | none => false
def wrM (ms : List Nat) (ops : Array Oper) (i : Nat) : Bool := wrB ops i || ms.contains i
def msOf (plan : List (PK × Nat)) : List Nat := plan.filterMap fun p => match p.1 with
  | .lm => some p.2
  | _ => none
/-- Does j come behind i whatever order is picked? -/
def waitB (md : Region.Mode) (ops : Array Oper) (L : Array Bool) (flo : List Nat) (i : Nat) : Nat → Nat → Bool
  | 0, _ => false
  | f + 1, j => match ops[j]? with
    | some o => (o.after.any fun e => Region.binds md e && e.on == i) || o.after.any fun e => Region.binds md e && !L.getD e.on true && !flo.contains e.on && waitB md ops L flo i f e.on
    | none => false
/-- May the plan be carried out? 'flo': variables that are made at any time ahead of their place in the plan. -/
def planX (md : Region.Mode) (ops : Array Oper) (flo ms : List Nat) : List (PK × Nat) → Array Bool → Bool
  | [], L => (List.range ops.size).all fun j => L.getD j false
  | (k, i) :: r, L => ((Region.ready md ops L).contains i && (match k with
    | .ld => (Region.ready md ops (marks L (flo.filter (· != i)))).all (· == i)
    | .tk => Region.free md ops L i && !flo.contains i && (List.range ops.size).all fun j => L.getD j true || !wrM ms ops j || waitB md ops L flo i ops.size j
    | .fz => Region.free md ops L i && !flo.contains i
    | .lm => (flo.isEmpty && ms.contains i) && (Region.ready md ops L).all (· == i))) && planX md ops flo ms r (L.setIfInBounds i true)
def floX (ops : Array Oper) (flo : List Nat) : Bool := flo.all fun i => match ops[i]? with
  | some o => isAlloc tt o.op && o.guard.isNone && o.dst.isSome && dstB N o.dst && (List.range ops.size).all fun j => j == i || (match ops[j]? with
    | some oj => oj.dst != o.dst
    | none => true)
  | none => false
def drawB (ops : Array Oper) (plan : List (PK × Nat)) (flo : List Nat) : Bool :=
  Region.noSelect ops && floX tt N ops flo && decide (plan.length = ops.size) && planX .any ops flo (msOf plan) plan (Array.replicate ops.size false)
def delAll (env : Env) (ops : Array Oper) : List Nat → Env
  | [] => env
  | i :: r => (match (ops[i]?).bind (·.dst) with
    | some d => delAll (delA env d) ops r
    | none => delAll env ops r)
/-- Rows that grow no more. -/
def frzs (mem : Mem) : List Nat → Mem
  | [] => mem
  | l :: r => frzs (frz mem l) r
def DrawVC (ops : Array Oper) (env : Env) (mem : Mem) (nx : Nat) (K : KE) : Prop :=
  ∃ plan flo ks fs, drawB tt N ops plan flo = true ∧ planVC tt ct N (keepM ks (frzs mem fs)) ops plan (delAll env ops flo) (frzs mem fs) nx (K .normal)
structure St where
  env : Env
  mem : Mem
  nx : Nat
def leS (env : Env) (mem : Mem) (s : St) : Prop := leA env s.env ∧ leA mem s.mem
def loopK {ι : Type} (I : ι → St) (μ : ι → Nat) (i : ι) (K : KE) : KE := fun e env mem nx =>
  match e with
  | .normal => ∃ j, μ j < μ i ∧ leS env mem (I j)
  | e => K e env mem nx
/-- Wherever these stand, one of those states does. -/
def LeJ {ι : Type} (env : Env) (mem : Mem) (I : ι → St) (p : ι → Prop) : Prop :=
  ∀ (ds : List Deferred) (pv : Nat → Prop) (w0 W : World) (a : Act) (N : Nat), ERel ds env a N → MRel pv w0 mem W → ∃ j, p j ∧ ERel ds (I j).env a N ∧ MRel pv w0 (I j).mem W
def loopJ {ι : Type} (I : ι → St) (μ : ι → Nat) (i : ι) (K : KE) : KE := fun e env mem nx =>
  match e with
  | .normal => LeJ env mem I (fun j => μ j < μ i)
  | e => K e env mem nx
def LoopVC (V : Env → Mem → Nat → KE → Prop) (env : Env) (mem : Mem) (nx : Nat) (K : KE) : Prop :=
  (∃ (ι : Type) (I : ι → St) (μ : ι → Nat), (∃ i, leS env mem (I i)) ∧ ∀ i, V (I i).env (I i).mem (I i).nx (loopK I μ i K)) ∨
  ∃ (ι : Type) (I : ι → St) (μ : ι → Nat), LeJ env mem I (fun _ => True) ∧ ∀ i, V (I i).env (I i).mem (I i).nx (loopJ I μ i K)
def seqK (V : Env → Mem → Nat → KE → Prop) (K : KE) : KE := fun e env mem nx =>
  match e with
  | .normal => V env mem nx K
  | e => K e env mem nx
def blockK (id : Nat) (K : KE) : KE := fun e env mem nx =>
  match e with
  | .exit id' => if id' = id then K .normal env mem nx else K (.exit id') env mem nx
  | e => K e env mem nx
def vcCode : Code → Env → Mem → Nat → KE → Prop
  | .skip, env, mem, nx, K => K .normal env mem nx
  | .region _ ops true, env, mem, nx, K => DrawVC tt ct N ops env mem nx K
  | .region _ ops false, env, mem, nx, K => vcList tt ct N ops ops.toList env mem nx K
  | .seq a b, env, mem, nx, K => vcCode a env mem nx (seqK (vcCode b) K)
  | .cond c x y, env, mem, nx, K => (match ev env c with
    | .bool b => bothP b (vcCode x env mem nx K) (vcCode y env mem nx K)
    | _ => False)
  | .block id b, env, mem, nx, K => vcCode b env mem nx (blockK id K)
  | .loop b, env, mem, nx, K => LoopVC (vcCode b) env mem nx K
  | .exit id, env, mem, nx, K => K (.exit id) env mem nx
  | .ret, env, mem, nx, K => K .ret env mem nx
  | _, _, _, _, _ => False
end

/-! ### What it is worth -/
section
variable {P : Program} {tt : TT} {ct : CTab} {pv : Nat → Prop} {w0 : World} {N : Nat}
def Ex.conv : Ex → Exit
  | .normal => .normal
  | .exit id => .exit id
  | .ret => .ret
/-- What is known behind code. -/
def QK (ds : List Deferred) (pv : Nat → Prop) (w0 : World) (N : Nat) (K : KE) (e : Exit) (a : Act) (W : World) : Prop := ∃ x env mem nx, e = Ex.conv x ∧ ERel ds env a N ∧ MRel pv w0 mem W ∧ K x env mem nx
theorem QK.no_panic {K : KE} {c : List PanicEntry} {a : Act} {W : World} (h : QK ds pv w0 N K (.panic c) a W) : False := by
  obtain ⟨x, _, _, _, h, _⟩ := h
  cases x <;> cases h
theorem ERel.alias {env : Env} {a : Act} (h : ERel ds env a N) (d : Nat) (v : AV) (hv : v.is (a.tmps.getD d undef)) : ERel ds ((d, v) :: env) a N where
  size := h.size
  defers := h.defers
  get := fun k u hu => by
    simp only [getA] at hu
    split at hu
    · rename_i hk; injection hu with hu; subst hu; subst hk; exact hv
    · exact h.get k u hu
theorem ERel.putE {env : Env} {a : Act} (h : ERel ds env a N) {dst : Option Tmp} (hd : dstB N dst = true) (v : AV) (V : Value) (hv : v.is V) : ERel ds (putE dst v env) (a.put dst V) N := by
  cases dst with
  | none => exact h
  | some d => exact h.put d (by simpa [dstB] using hd) v V hv
/-- What a guard's answer is worth. -/
theorem guard_ok {ops : Array Oper} {g : Option (Nat × Bool)} {env : Env} {yes no : Env → Prop} {a : Act} (hE : ERel ds env a N) (h : guardVC ops g env yes no) {o : Oper} (ho : o.guard = g) :
    ∃ env', ERel ds env' a N ∧ ((Region.wanted o (yielded ops a.tmps) = true ∧ yes env') ∨ (Region.wanted o (yielded ops a.tmps) = false ∧ no env')) := by
  unfold guardVC at h
  cases g with
  | none => exact ⟨env, hE, .inl ⟨by simp [Region.wanted, ho], h⟩⟩
  | some q =>
    obtain ⟨j, want⟩ := q
    simp only at h
    cases hd : (ops[j]?).bind (·.dst) with
    | none => simp [hd] at h
    | some d =>
      simp only [hd] at h
      cases hg : getA env d with
      | none => simp [hg] at h
      | some v =>
        cases v <;> simp only [hg] at h <;> try exact h.elim
        case tup xs =>
          have hv := AV.is_good (hE.get d _ hg) rfl
          have hnw : Region.wanted o (yielded ops a.tmps) = false := by
            have : yielded ops a.tmps j = none := by
              unfold yielded
              simp only [hd, Option.bind_some]
              cases ht : a.tmps[d]? with
              | none => rfl
              | some V =>
                have : a.tmps.getD d undef = V := by simp [Array.getD_eq_getD_getElem?, ht]
                rw [this] at hv
                subst hv; rfl
            simp [Region.wanted, ho, this]
          exact ⟨env, hE, .inr ⟨hnw, h⟩⟩
        rename_i b
        have hv := AV.is_good (hE.get d _ hg) rfl
        have hy : yielded ops a.tmps j = some b := by
          unfold yielded
          simp only [hd, Option.bind_some]
          have hsz : d < a.tmps.size := by
            rcases Nat.lt_or_ge d a.tmps.size with h | h
            · exact h
            · simp [Array.getD, Nat.not_lt.2 h, undef, AV.conc] at hv
          have : a.tmps[d]? = some (.bool b) := by
            rw [Array.getElem?_eq_getElem hsz]
            simp [Array.getD, hsz] at hv
            rw [hv]; rfl
          rw [this]
        have hal : ERel ds ((d, .bool b) :: env) a N := hE.alias d (.bool b) (.inr hv)
        by_cases hb : b = want
        · subst hb
          exact ⟨_, hal, .inl ⟨by simp [Region.wanted, ho, hy], by cases b <;> exact h⟩⟩
        · have hb2 : b = !want := by cases b <;> cases want <;> simp_all
          subst hb2
          exact ⟨_, hal, .inr ⟨by simp [Region.wanted, ho, hy], by cases want <;> exact h⟩⟩
theorem listop_ok (hTT : TTok P tt) (hCT : CTok P ct) {env : Env} {mem : Mem} {nx : Nat} {K : KO} {a : Act} {W : World} (hE : ERel ds env a N) {o : Oper} {Q : Exit → Act → World → Prop} (h : listVC tt ct env mem nx o.op K) (hM : MRel pv w0 mem W) :
    o.wp P a W (fun a' W' => ∃ v m n V, v.is V ∧ a' = a.put o.dst V ∧ MRel pv w0 m W' ∧ K v m n) Q := by
  have gen : opVC tt ct env mem nx o.op K → o.wp P a W (fun a' W' => ∃ v m n V, v.is V ∧ a' = a.put o.dst V ∧ MRel pv w0 m W' ∧ K v m n) Q := fun h =>
    Oper.wp_mono (fun a' W' hp => by
      obtain ⟨v, m, n, V, hv, rfl, hm, _, _, _, hK⟩ := hp
      exact ⟨v, m, n, V, hv, rfl, hm, hK⟩) (op_ok (P := P) (pv := pv) (w0 := w0) hTT hCT hE (o := o) rfl (Q := Q) h hM)
  unfold listVC at h
  split at h
  · rename_i c hop
    split at h
    · rename_i F hF
      split at h
      · rename_i m hct
        exact mem_ok hCT (dials_fn hE hop hF) hct h hM
      · rename_i m hct
        exact xmem_ok hCT (dials_fn hE hop hF) hct h hM
      · exact gen (by rw [hop]; exact h)
    · exact gen (by rw [hop]; exact h)
    · cases hw : whoOf tt env c with
      | none => simp only [hw] at h
      | some p =>
        obtain ⟨F, args, tys⟩ := p
        simp only [hw] at h
        split at h
        · rename_i m hct
          exact mem_ok hCT (dials_who hTT hE hop hw) hct h hM
        · exact Oper.wp_mono (fun a' W' hp => by
            obtain ⟨v, m, n, V, hv, rfl, hm, _, _, _, hK⟩ := hp
            exact ⟨v, m, n, V, hv, rfl, hm, hK⟩) (callx_ok (P := P) (pv := pv) (w0 := w0) (Q := Q) hCT (dials_who hTT hE hop hw) h hM)
  · exact gen h
theorem list_ok (hTT : TTok P tt) (hCT : CTok P ct) {ops : Array Oper} {K : KE} : ∀ (l : List Oper) (env : Env) (mem : Mem) (nx : Nat) (a : Act) (W : World), vcList tt ct N ops l env mem nx K → ERel ds env a N → MRel pv w0 mem W → wpList P ops (QK ds pv w0 N K) l a W
  | [], env, mem, nx, a, W, h, hE, hM => ⟨.normal, env, mem, nx, rfl, hE, hM, h⟩
  | o :: rest, env, mem, nx, a, W, h, hE, hM => by
    obtain ⟨hd, h⟩ := h
    obtain ⟨env', hE', h⟩ := guard_ok hE h rfl
    unfold wpList
    rcases h with ⟨hw, h⟩ | ⟨hw, h⟩
    · rw [if_pos hw]
      left
      have := listop_ok (P := P) (pv := pv) (w0 := w0) hTT hCT hE' (o := o) (Q := QK ds pv w0 N K) h hM
      refine Oper.wp_mono (fun a' W' hp => ?_) this
      obtain ⟨v, m, n, V, hv, rfl, hm, hK⟩ := hp
      exact list_ok hTT hCT rest _ m n _ W' hK (hE'.putE hd v V hv) hm
    · rw [if_neg (by simp [hw])]
      exact list_ok hTT hCT rest _ mem nx _ W h (hE'.putE hd (.tup []) undef (.inr rfl)) hM
theorem extM_get {m' : Mem} : ∀ (m : Mem), extM m' m → ∀ l e, getA m l = some e → getA m' l = some e
  | [], _, _, _, h => by cases h
  | (k, d) :: r, h, l, e, hl => by
    simp only [getA] at hl
    split at hl
    · rename_i hk; injection hl with hl; subst hl; subst hk; exact h.1
    · exact extM_get r h.2 l e hl
theorem extE_get {m' m : Mem} (h : extE m' m) : ∀ l e, getA m l = some e → getA m' l = some e := by
  rcases h with rfl | h
  · exact fun _ _ h => h
  · exact extM_get m h
theorem mrel_stable (mem : Mem) : Stable (MRel pv w0 mem) := fun W W' h hb => h.down hb
theorem ERel.put_other {env : Env} {a : Act} (h : ERel ds env a N) {d : Nat} (hd : getA env d = none) (V : Value) : ERel ds env (a.put (some d) V) N where
  size := by simp [Act.put, h.size]
  defers := h.defers
  get := fun k u hu => by
    have hne : d ≠ k := fun e => by rw [e, hu] at hd; cases hd
    have := h.get k u hu
    simp only [Act.put]
    rw [show (a.tmps.setIfInBounds d V).getD k undef = a.tmps.getD k undef from by simp [Array.getD_eq_getD_getElem?, Array.getElem?_setIfInBounds, hne]]
    exact this
/-- A plan's item: taken, carried out where it alone may come up, made (perhaps already, in that block). -/
inductive PI where
  | tk (i : Nat) | fz (i : Nat) | ld (i : Nat) | lm (i : Nat) | mk (i : Nat) (g : Option Nat)
def PI.ex : PI → PK × Nat
  | .tk i => (.tk, i)
  | .fz i => (.fz, i)
  | .ld i => (.ld, i)
  | .lm i => (.lm, i)
  | .mk i _ => (.ld, i)
def PI.cost : PI → Nat
  | .mk _ (some _) => 0
  | _ => 1
def PI.msr : PI → Nat
  | .mk _ (some _) => 1
  | _ => 2
def costs (l : List PI) : Nat := (l.map PI.cost).sum
def msrs (l : List PI) : Nat := (l.map PI.msr).sum
def PI.early : PI → Option (Nat × Nat)
  | .mk i (some g) => some (i, g)
  | _ => none
def earlys (l : List PI) : List (Nat × Nat) := l.filterMap PI.early
/-- Items tell apart what is made. -/
def PI.fits (flo : List Nat) : PI → Prop
  | .mk i _ => i ∈ flo
  | .tk i | .fz i | .ld i => i ∉ flo
  | .lm _ => flo = []
theorem getD_marks (d : Bool) : ∀ (l : List Nat) (L : Array Bool) (k : Nat), k < L.size → (marks L l).getD k d = (L.getD k d || decide (k ∈ l))
  | [], L, k, hk => by simp [marks]
  | i :: l, L, k, hk => by
    show (marks (L.setIfInBounds i true) l).getD k d = _
    rw [getD_marks d l _ k (by simpa using hk)]
    by_cases h : i = k
    · subst h; simp [hk]
    · rw [getD_set_ne d h]
      simp [Ne.symm h]
theorem size_marks : ∀ (l : List Nat) (L : Array Bool), (marks L l).size = L.size
  | [], _ => rfl
  | i :: l, L => by show (marks (L.setIfInBounds i true) l).size = _; rw [size_marks l]; simp
theorem marks_ext {L L' : Array Bool} (hs : L.size = L'.size) (h : ∀ k, k < L.size → L.getD k false = L'.getD k false) : L = L' := by
  apply Array.ext hs
  intro k h1 h2
  have := h k h1
  simpa [h1, h2] using this
theorem unlisted_of {L : Array Bool} {k : Nat} (h : L.getD k true = false) : k < L.size := by
  rcases Nat.lt_or_ge k L.size with h' | h'
  · exact h'
  · simp [Array.getElem?_eq_none h'] at h
theorem ready_more {ops : Array Oper} {md : Region.Mode} {L L' : Array Bool} {j : Nat} (h : j ∈ Region.ready md ops L) (hun : L'.getD j true = false) (hle : ∀ k, L.getD k false = true → L'.getD k false = true) : j ∈ Region.ready md ops L' := by
  obtain ⟨_, o, ho, hall⟩ := mem_ready.1 h
  exact mem_ready.2 ⟨hun, o, ho, fun e he hb => hle _ (hall e he hb)⟩
theorem plan_covers {md : Region.Mode} {ops : Array Oper} {flo ms : List Nat} : ∀ (plan : List (PK × Nat)) (L : Array Bool) (j : Nat), planX md ops flo ms plan L = true → j < ops.size → L.size = ops.size → L.getD j true = false → ∃ b, (b, j) ∈ plan
  | [], L, j, h, hj, hs, hun => by
    simp only [planX, List.all_eq_true, List.mem_range] at h
    have := h j hj
    rw [getD_both hun] at this; cases this
  | (b, i) :: r, L, j, h, hj, hs, hun => by
    by_cases hij : i = j
    · subst hij; exact ⟨b, List.mem_cons_self ..⟩
    · have h' : planX md ops flo ms r (L.setIfInBounds i true) = true := by cases b <;> simp only [planX, Bool.and_eq_true] at h <;> exact h.2
      obtain ⟨b', hb⟩ := plan_covers r _ j h' hj (by simpa using hs) (by rw [getD_set_ne true hij]; exact hun)
      exact ⟨b', List.mem_cons_of_mem _ hb⟩
/-- One more is made. -/
def updPI (x g : Nat) : List PI → List PI
  | [] => []
  | .mk i none :: r => if i = x then .mk i (some g) :: r else .mk i none :: updPI x g r
  | p :: r => p :: updPI x g r
theorem upd_ex (x g : Nat) : ∀ l : List PI, (updPI x g l).map PI.ex = l.map PI.ex
  | [] => rfl
  | .mk i none :: r => by
    unfold updPI
    split
    · rfl
    · rw [List.map_cons, upd_ex x g r]; rfl
  | .mk i (some h) :: r => by unfold updPI; rw [List.map_cons, upd_ex x g r]; rfl
  | .tk i :: r => by unfold updPI; rw [List.map_cons, upd_ex x g r]; rfl
  | .fz i :: r => by unfold updPI; rw [List.map_cons, upd_ex x g r]; rfl
  | .ld i :: r => by unfold updPI; rw [List.map_cons, upd_ex x g r]; rfl
  | .lm i :: r => by unfold updPI; rw [List.map_cons, upd_ex x g r]; rfl
theorem upd_fits {flo : List Nat} (x g : Nat) : ∀ l : List PI, (∀ p ∈ l, p.fits flo) → ∀ p ∈ updPI x g l, p.fits flo
  | [], _, _, hp => by cases hp
  | .mk i none :: r, h, p, hp => by
    unfold updPI at hp
    split at hp
    · rcases List.mem_cons.1 hp with rfl | hp
      · exact h (.mk i none) (List.mem_cons_self ..)
      · exact h p (List.mem_cons_of_mem _ hp)
    · rcases List.mem_cons.1 hp with rfl | hp
      · exact h _ (List.mem_cons_self ..)
      · exact upd_fits x g r (fun q hq => h q (List.mem_cons_of_mem _ hq)) p hp
  | .mk i (some k) :: r, h, p, hp => by
    unfold updPI at hp
    rcases List.mem_cons.1 hp with rfl | hp
    · exact h _ (List.mem_cons_self ..)
    · exact upd_fits x g r (fun q hq => h q (List.mem_cons_of_mem _ hq)) p hp
  | .tk i :: r, h, p, hp => by
    unfold updPI at hp
    rcases List.mem_cons.1 hp with rfl | hp
    · exact h _ (List.mem_cons_self ..)
    · exact upd_fits x g r (fun q hq => h q (List.mem_cons_of_mem _ hq)) p hp
  | .fz i :: r, h, p, hp => by
    unfold updPI at hp
    rcases List.mem_cons.1 hp with rfl | hp
    · exact h _ (List.mem_cons_self ..)
    · exact upd_fits x g r (fun q hq => h q (List.mem_cons_of_mem _ hq)) p hp
  | .ld i :: r, h, p, hp => by
    unfold updPI at hp
    rcases List.mem_cons.1 hp with rfl | hp
    · exact h _ (List.mem_cons_self ..)
    · exact upd_fits x g r (fun q hq => h q (List.mem_cons_of_mem _ hq)) p hp
  | .lm i :: r, h, p, hp => by
    unfold updPI at hp
    rcases List.mem_cons.1 hp with rfl | hp
    · exact h _ (List.mem_cons_self ..)
    · exact upd_fits x g r (fun q hq => h q (List.mem_cons_of_mem _ hq)) p hp
theorem upd_nums (x g : Nat) : ∀ l : List PI, .mk x none ∈ l → costs (updPI x g l) + 1 = costs l ∧ msrs (updPI x g l) + 1 = msrs l ∧ ∀ p, p ∈ earlys (updPI x g l) ↔ p = (x, g) ∨ p ∈ earlys l
  | [], h => by cases h
  | .mk i none :: r, h => by
    unfold updPI
    split
    · rename_i hi; subst hi
      refine ⟨by simp [costs, PI.cost]; omega, by simp [msrs, PI.msr]; omega, fun p => by simp [earlys, PI.early]⟩
    · rename_i hi
      have h' : PI.mk x none ∈ r := by
        rcases List.mem_cons.1 h with h | h
        · injection h with h; exact absurd h.symm hi
        · exact h
      obtain ⟨h1, h2, h3⟩ := upd_nums x g r h'
      refine ⟨?_, ?_, fun p => ?_⟩
      · simp only [costs, List.map_cons, List.sum_cons] at h1 ⊢; omega
      · simp only [msrs, List.map_cons, List.sum_cons] at h2 ⊢; omega
      · simpa [earlys, PI.early] using h3 p
  | .mk i (some k) :: r, h => by
    unfold updPI
    obtain ⟨h1, h2, h3⟩ := upd_nums x g r (by simpa using h)
    refine ⟨?_, ?_, fun p => ?_⟩
    · simp only [costs, List.map_cons, List.sum_cons] at h1 ⊢; omega
    · simp only [msrs, List.map_cons, List.sum_cons] at h2 ⊢; omega
    · have := h3 p
      simp only [earlys, List.filterMap_cons, PI.early, List.mem_cons] at this ⊢
      rw [this]
      constructor
      · rintro (h | h | h)
        · exact .inr (.inl h)
        · exact .inl h
        · exact .inr (.inr h)
      · rintro (h | h | h)
        · exact .inr (.inl h)
        · exact .inl h
        · exact .inr (.inr h)
  | .tk i :: r, h => by
    unfold updPI
    obtain ⟨h1, h2, h3⟩ := upd_nums x g r (by simpa using h)
    refine ⟨?_, ?_, fun p => by simpa [earlys, PI.early] using h3 p⟩
    · simp only [costs, List.map_cons, List.sum_cons] at h1 ⊢; omega
    · simp only [msrs, List.map_cons, List.sum_cons] at h2 ⊢; omega
  | .fz i :: r, h => by
    unfold updPI
    obtain ⟨h1, h2, h3⟩ := upd_nums x g r (by simpa using h)
    refine ⟨?_, ?_, fun p => by simpa [earlys, PI.early] using h3 p⟩
    · simp only [costs, List.map_cons, List.sum_cons] at h1 ⊢; omega
    · simp only [msrs, List.map_cons, List.sum_cons] at h2 ⊢; omega
  | .ld i :: r, h => by
    unfold updPI
    obtain ⟨h1, h2, h3⟩ := upd_nums x g r (by simpa using h)
    refine ⟨?_, ?_, fun p => by simpa [earlys, PI.early] using h3 p⟩
    · simp only [costs, List.map_cons, List.sum_cons] at h1 ⊢; omega
    · simp only [msrs, List.map_cons, List.sum_cons] at h2 ⊢; omega
  | .lm i :: r, h => by
    unfold updPI
    obtain ⟨h1, h2, h3⟩ := upd_nums x g r (by simpa using h)
    refine ⟨?_, ?_, fun p => by simpa [earlys, PI.early] using h3 p⟩
    · simp only [costs, List.map_cons, List.sum_cons] at h1 ⊢; omega
    · simp only [msrs, List.map_cons, List.sum_cons] at h2 ⊢; omega
/-- What is known of the world: the entries, and what was made already. -/
def SE (tt : TT) (pv : Nat → Prop) (w0 : World) (ops : Array Oper) (pl : List PI) (mem : Mem) (W : World) : Prop :=
  MRel pv w0 mem W ∧ ∀ p ∈ earlys pl, ∃ o e ti, ops[p.1]? = some o ∧ o.op = .alloc e ∧ tt e = some ti ∧ Own W p.2 e ti.zero.vals.toArray
theorem leA_get {α : Type} {l : List (Nat × α)} : ∀ (r : List (Nat × α)), leA l r → ∀ d v, getA r d = some v → getA l d = some v
  | [], _, _, _, h => by cases h
  | (k, u) :: r, h, d, v, hd => by
    simp only [getA] at hd
    split at hd
    · rename_i hk; injection hd with hd; subst hd; subst hk; exact h.1
    · exact leA_get r h.2 d v hd
/-- Memory that says at least as much. -/
def Sup (m F : Mem) : Prop := ∀ l e, getA F l = some e → getA m l = some e
theorem keepM_sup (ks : List Nat) : ∀ m : Mem, Sup m (keepM ks m)
  | [], l, e, h => by cases h
  | (k, d) :: r, l, e, h => by
    unfold keepM at h
    by_cases hk : ks.any (· == k) = true
    · rw [if_pos hk] at h
      simp only [getA] at h ⊢
      split at h
      · rename_i e0; rw [if_pos e0]; exact h
      · rename_i e0; rw [if_neg e0]; exact keepM_sup ks r l e h
    · rw [if_neg hk] at h
      simp only [getA]
      rw [if_neg (fun e0 => hk ?_)]
      · exact keepM_sup ks r l e h
      · subst e0
        have : ∀ (m : Mem), getA (keepM ks m) k = some e → ks.any (· == k) = true := by
          intro m
          induction m with
          | nil => intro h; cases h
          | cons p q ih =>
            obtain ⟨x, y⟩ := p
            intro h
            unfold keepM at h
            by_cases hx : ks.any (· == x) = true
            · rw [if_pos hx] at h
              simp only [getA] at h
              split at h
              · rename_i e1; rw [← e1]; exact hx
              · exact ih h
            · rw [if_neg hx] at h; exact ih h
        exact this r h
theorem SE.good (ops : Array Oper) (pl : List PI) {mem F : Mem} (hF : Sup mem F) : Stable (SE tt pv w0 ops pl mem) ∧ ∀ W, SE tt pv w0 ops pl mem W → MRel pv w0 F W :=
  ⟨fun W W' h hb => ⟨h.1.down hb, fun p hp => by obtain ⟨o, e, ti, h1, h2, h3, h4⟩ := h.2 p hp; exact ⟨o, e, ti, h1, h2, h3, h4.below hb⟩⟩, fun W h => h.1.less hF⟩
/-- What of the frame is known of what was made already. -/
def EA (w0 : World) (ops : Array Oper) (pl : List PI) (mem : Mem) (a : Act) : Prop :=
  (∀ p ∈ earlys pl, w0.heap.size ≤ p.2 ∧ ¬ blkOf mem p.2 ∧ ∀ o d, ops[p.1]? = some o → o.dst = some d → a.tmps.getD d undef = .pointer (some ⟨p.2, 0, none⟩)) ∧ ∀ p ∈ earlys pl, ∀ q ∈ earlys pl, p.2 = q.2 → p.1 = q.1
theorem getA_putE {dst : Option Tmp} {v : AV} {env : Env} {d : Nat} (h : getA env d = none) (hd : dst ≠ some d) : getA (putE dst v env) d = none := by
  cases dst with
  | none => exact h
  | some k => simp only [putE, getA]; rw [if_neg (fun e => hd (by rw [e]))]; exact h
theorem guard_env {ops : Array Oper} {g : Option (Nat × Bool)} {env : Env} {yes no : Env → Prop} {a : Act} (hE : ERel ds env a N) (h : guardVC ops g env yes no) {o : Oper} (ho : o.guard = g) :
    ∃ env', ERel ds env' a N ∧ (∀ d, getA env d = none → getA env' d = none) ∧ ((Region.wanted o (yielded ops a.tmps) = true ∧ yes env') ∨ (Region.wanted o (yielded ops a.tmps) = false ∧ no env')) := by
  have hno : ∀ (d k : Nat) (v u : AV), getA env k = some u → getA env d = none → getA ((k, v) :: env) d = none := fun d k v u hk hd => by
    simp only [getA]; rw [if_neg (fun e => by rw [e, hd] at hk; cases hk)]; exact hd
  unfold guardVC at h
  cases g with
  | none => exact ⟨env, hE, fun _ h => h, .inl ⟨by simp [Region.wanted, ho], h⟩⟩
  | some q =>
    obtain ⟨j, want⟩ := q
    simp only at h
    cases hd : (ops[j]?).bind (·.dst) with
    | none => simp [hd] at h
    | some d =>
      simp only [hd] at h
      cases hg : getA env d with
      | none => simp [hg] at h
      | some v =>
        cases v <;> simp only [hg] at h <;> try exact h.elim
        case tup xs =>
          have hv := AV.is_good (hE.get d _ hg) rfl
          have hnw : Region.wanted o (yielded ops a.tmps) = false := by
            have : yielded ops a.tmps j = none := by
              unfold yielded
              simp only [hd, Option.bind_some]
              cases ht : a.tmps[d]? with
              | none => rfl
              | some V =>
                have : a.tmps.getD d undef = V := by simp [Array.getD_eq_getD_getElem?, ht]
                rw [this] at hv
                subst hv; rfl
            simp [Region.wanted, ho, this]
          exact ⟨env, hE, fun _ h => h, .inr ⟨hnw, h⟩⟩
        rename_i b
        have hv := AV.is_good (hE.get d _ hg) rfl
        have hy : yielded ops a.tmps j = some b := by
          unfold yielded
          simp only [hd, Option.bind_some]
          have hsz : d < a.tmps.size := by
            rcases Nat.lt_or_ge d a.tmps.size with h | h
            · exact h
            · simp [Array.getD, Nat.not_lt.2 h, undef, AV.conc] at hv
          have : a.tmps[d]? = some (.bool b) := by
            rw [Array.getElem?_eq_getElem hsz]
            simp [Array.getD, hsz] at hv
            rw [hv]; rfl
          rw [this]
        have hal : ERel ds ((d, .bool b) :: env) a N := hE.alias d (.bool b) (.inr hv)
        by_cases hb : b = want
        · subst hb
          exact ⟨_, hal, fun k hk => hno k d _ _ hg hk, .inl ⟨by simp [Region.wanted, ho, hy], by cases b <;> exact h⟩⟩
        · have hb2 : b = !want := by cases b <;> cases want <;> simp_all
          subst hb2
          exact ⟨_, hal, fun k hk => hno k d _ _ hg hk, .inr ⟨by simp [Region.wanted, ho, hy], by cases want <;> exact h⟩⟩
theorem getD_set_self (L : Array Bool) (i : Nat) : (L.setIfInBounds i true).getD i true = true := by
  by_cases h : i < L.size <;> simp [Array.getD_eq_getD_getElem?, Array.getElem?_setIfInBounds, h]
theorem plan_unl {md : Region.Mode} {ops : Array Oper} {flo ms : List Nat} : ∀ (plan : List (PK × Nat)) (L : Array Bool) (b : PK) (j : Nat), planX md ops flo ms plan L = true → (b, j) ∈ plan → L.getD j true = false
  | [], _, _, _, _, h => by cases h
  | (b', i) :: r, L, b, j, h, hm => by
    have h' : i ∈ Region.ready md ops L ∧ planX md ops flo ms r (L.setIfInBounds i true) = true := by
      simp only [planX, Bool.and_eq_true] at h
      exact ⟨by simpa using h.1.1, h.2⟩
    rcases List.mem_cons.1 hm with hm | hm
    · injection hm with _ hm; subst hm; exact (mem_ready.1 h'.1).1
    · have h2 := plan_unl r _ b j h'.2 hm
      by_cases hij : i = j
      · subst hij; rw [getD_set_self] at h2; cases h2
      · rwa [getD_set_ne true hij] at h2
theorem marks_un {l : List Nat} {L : Array Bool} {k : Nat} (h : (marks L l).getD k true = false) : L.getD k true = false ∧ k ∉ l := by
  have hk := unlisted_of h
  rw [size_marks] at hk
  rw [getD_marks true l L k hk] at h
  simpa using h
theorem marks_un' {l : List Nat} {L : Array Bool} {k : Nat} (h1 : L.getD k true = false) (h2 : k ∉ l) : (marks L l).getD k true = false := by
  rw [getD_marks true l L k (unlisted_of h1), h1]
  simpa using h2
theorem listed_lt {L : Array Bool} {k : Nat} (h : L.getD k false = true) : k < L.size := by
  rcases Nat.lt_or_ge k L.size with h' | h'
  · exact h'
  · simp [Array.getElem?_eq_none h'] at h
theorem marks_le {l l' : List Nat} {L : Array Bool} {k : Nat} (hs : ∀ x ∈ l, x ∈ l') (h : (marks L l).getD k false = true) : (marks L l').getD k false = true := by
  have hk := listed_lt h
  rw [size_marks] at hk
  rw [getD_marks false l L k hk] at h
  rw [getD_marks false l' L k hk]
  simp only [Bool.or_eq_true, decide_eq_true_eq] at h ⊢
  exact h.imp id (hs k)
theorem marks_base {l : List Nat} {L : Array Bool} {k : Nat} (h : L.getD k false = true) : (marks L l).getD k false = true := by
  rw [getD_marks false l L k (listed_lt h), h]; rfl
theorem marks_set (i : Nat) : ∀ (l : List Nat) (L : Array Bool), (marks L l).setIfInBounds i true = marks (L.setIfInBounds i true) l
  | [], _ => rfl
  | x :: l, L => by
    show (marks (L.setIfInBounds x true) l).setIfInBounds i true = marks ((L.setIfInBounds i true).setIfInBounds x true) l
    rw [marks_set i l]
    by_cases h : x = i
    · subst h; rfl
    · rw [Array.setIfInBounds_comm _ _ h]
theorem mem_earlys {i g : Nat} : ∀ {l : List PI}, (i, g) ∈ earlys l ↔ .mk i (some g) ∈ l := by
  intro l
  simp only [earlys, List.mem_filterMap]
  constructor
  · rintro ⟨p, hp, he⟩
    cases p with
    | mk j h =>
      cases h with
      | none => cases he
      | some h => simp only [PI.early, Option.some.injEq, Prod.mk.injEq] at he; obtain ⟨rfl, rfl⟩ := he; exact hp
    | _ => cases he
  · exact fun h => ⟨_, h, rfl⟩
/-- What is known of a making that may come at any time. -/
def FloI (tt : TT) (N : Nat) (ops : Array Oper) (i : Nat) : Prop :=
  ∃ o e ti d, ops[i]? = some o ∧ o.op = .alloc e ∧ tt e = some ti ∧ o.guard = none ∧ o.dst = some d ∧ d < N ∧ ∀ j oj, ops[j]? = some oj → j ≠ i → oj.dst ≠ some d
theorem floX_spec {ops : Array Oper} {flo : List Nat} (h : floX tt N ops flo = true) : ∀ i ∈ flo, FloI tt N ops i := by
  intro i hi
  have h1 := (List.all_eq_true.1 h) i hi
  cases ho : ops[i]? with
  | none => simp [ho] at h1
  | some o =>
    simp only [ho, Bool.and_eq_true] at h1
    obtain ⟨⟨⟨⟨h1, h2⟩, h3⟩, h4⟩, h5⟩ := h1
    obtain ⟨d, hd⟩ := Option.isSome_iff_exists.1 h3
    cases hop : o.op <;> rw [hop] at h1 <;> try (cases h1; done)
    rename_i e
    obtain ⟨ti, hti⟩ := Option.isSome_iff_exists.1 h1
    refine ⟨o, e, ti, d, ho, hop, hti, by simpa using h2, hd, by simpa [dstB, hd] using h4, fun j oj hj hne hdj => ?_⟩
    have := (List.all_eq_true.1 h5) j (List.mem_range.2 (Array.getElem?_eq_some_iff.1 hj).1)
    simp [hj, hne, hdj, hd] at this
theorem put_getD_ne {a : Act} {dst : Option Tmp} {V : Value} {d : Nat} (h : dst ≠ some d) : (a.put dst V).tmps.getD d undef = a.tmps.getD d undef := by
  cases dst with
  | none => rfl
  | some k =>
    have hne : k ≠ d := fun e => h (by rw [e])
    simp only [Act.put]
    simp [Array.getD_eq_getD_getElem?, Array.getElem?_setIfInBounds, hne]
theorem put_getD_eq {a : Act} {V : Value} {d : Nat} (h : d < a.tmps.size) : (a.put (some d) V).tmps.getD d undef = V := by
  simp only [Act.put]
  simp [Array.getD_eq_getD_getElem?, Array.getElem?_setIfInBounds, h]
theorem Frm.own {mem : Mem} {W W' : World} (h : Frm mem W W') {g : Nat} {t : TypeId} {cs : Array Value} (hg : ¬ blkOf mem g) (ho : Own W g t cs) : Own W' g t cs :=
  (h.2 g ho.lt hg).trans ho
theorem waitB_ok {md : Region.Mode} {ops : Array Oper} {L : Array Bool} {flo l : List Nat} {i : Nat} (hl : ∀ x ∈ l, x ∈ flo) : ∀ (f j : Nat), waitB md ops L flo i f j = true → Waits md ops (marks L l) i j
  | 0, j, h => by cases h
  | f + 1, j, h => by
    unfold waitB at h
    cases hj : ops[j]? with
    | none => simp [hj] at h
    | some o =>
      simp only [hj, Bool.or_eq_true] at h
      rcases h with h | h
      · obtain ⟨e, he, hb⟩ := Array.any_eq_true'.1 h
        simp only [Bool.and_eq_true, beq_iff_eq] at hb
        exact .at hj he hb.1 hb.2
      · obtain ⟨e, he, hb⟩ := Array.any_eq_true'.1 h
        simp only [Bool.and_eq_true, Bool.not_eq_true'] at hb
        obtain ⟨⟨⟨h1, h2⟩, h3⟩, h4⟩ := hb
        refine .by hj he h1 (marks_un' h2 fun hx => ?_) (waitB_ok hl f e.on h4)
        have := hl _ hx
        simp [this] at h3
/-- A drawing region, carried out along its plan, whatever order is picked. -/
theorem plan_ok (hTT : TTok P tt) (hCT : CTok P ct) {ops : Array Oper} {flo ms : List Nat} {K : Env → Mem → Nat → Prop} {F : Mem} {Q : Exit → Act → World → Prop} (hsel : Region.noSelect ops = true) (hflo : floX tt N ops flo = true) (hQp : ∀ c a w, ¬ Q (.panic c) a w)
    (hQ : ∀ env mem nx a W, K env mem nx → ERel ds env a N → MRel pv w0 mem W → Q .normal a W) :
    ∀ (n : Nat) (pl : List PI), msrs pl = n → ∀ (env : Env) (mem : Mem) (nx : Nat) (L : Array Bool) (a : Act), L.size = ops.size → (∀ p ∈ pl, p.fits flo) → planX .any ops flo ms (pl.map PI.ex) L = true → EA w0 ops pl mem a → Sup mem F → ERel ds env a N →
      (∀ i ∈ flo, ∀ b, (b, i) ∈ pl.map PI.ex → ∀ o d, ops[i]? = some o → o.dst = some d → getA env d = none) → planVC tt ct N F ops (pl.map PI.ex) env mem nx K →
      wpAnyE P .any ops Q (wrM ms ops) (MRel pv w0 F) (costs pl) (SE tt pv w0 ops pl mem) (marks L ((earlys pl).map (·.1))) a := by
  intro n
  induction n using Nat.strongRecOn with
  | _ n ih =>
  intro pl hn env mem nx L a hs hfit hX hEA hF hE hno hV
  have hspec := floX_spec hflo
  -- an operation that the plan has now, and what is behind it
  have step : ∀ (i : Nat) (r : List PI), (∀ p ∈ r, p.fits flo) → planX .any ops flo ms (r.map PI.ex) (L.setIfInBounds i true) = true → ∀ (o : Oper), ops[i]? = some o → (∀ x ∈ flo, ∀ b, (b, x) ∈ r.map PI.ex → x ≠ i) ∧ (∀ x ∈ flo, ∀ b, (b, x) ∈ r.map PI.ex → ∀ o' d, ops[x]? = some o' → o'.dst = some d → o.dst ≠ some d) := by
    intro i r hf hXr o ho
    have h1 : ∀ x ∈ flo, ∀ b, (b, x) ∈ r.map PI.ex → x ≠ i := fun x _ b hx e => by
      have := plan_unl _ _ b x hXr hx
      rw [e, getD_set_self] at this; cases this
    refine ⟨h1, fun x hx b hb o' d ho' hd => ?_⟩
    obtain ⟨o2, _, _, d2, ho2, _, _, _, hd2, _, hu⟩ := hspec x hx
    rw [ho'] at ho2; injection ho2 with ho2; subst ho2
    rw [hd] at hd2; injection hd2 with hd2; subst hd2
    exact hu i o ho (Ne.symm (h1 x hx b hb))
  have efl : ∀ (l : List PI), (∀ p ∈ l, p.fits flo) → ∀ p ∈ earlys l, p.1 ∈ flo ∧ (PK.ld, p.1) ∈ l.map PI.ex := fun l hl p hp => by
    obtain ⟨i, g⟩ := p
    have hm := mem_earlys.1 hp
    exact ⟨hl _ hm, List.mem_map.2 ⟨_, hm, rfl⟩⟩
  have early_put : ∀ (r : List PI) (i : Nat) (o : Oper) (m : Mem) (V : Value), (∀ p ∈ r, p.fits flo) → planX .any ops flo ms (r.map PI.ex) (L.setIfInBounds i true) = true → ops[i]? = some o → (∀ p ∈ earlys r, p ∈ earlys pl) → (∀ p ∈ earlys r, ¬ blkOf m p.2) → EA w0 ops r m (a.put o.dst V) := by
    intro r i o m V hf hXr ho hsub hb
    refine ⟨fun p hp => ⟨(hEA.1 p (hsub p hp)).1, hb p hp, fun o' d ho' hd => ?_⟩, fun p hp q hq => hEA.2 p (hsub p hp) q (hsub q hq)⟩
    obtain ⟨h1, h2⟩ := efl r hf p hp
    rw [put_getD_ne ((step i r hf hXr o ho).2 p.1 h1 .ld h2 o' d ho' hd)]
    exact (hEA.1 p (hsub p hp)).2.2 o' d ho' hd
  have loud : ∀ (p : PI) (i : Nat) (r : List PI), p.early = none → p.cost = 1 → p.msr = 2 → p.ex = (.ld, i) → pl = p :: r →
      wpAnyE P .any ops Q (wrM ms ops) (MRel pv w0 F) (costs pl) (SE tt pv w0 ops pl mem) (marks L ((earlys pl).map (·.1))) a := by
    intro p i r hpe hpc hpm hpx hpl
    subst hpl
    have hX0 := hX
    have hV0 := hV
    simp only [List.map_cons, hpx] at hX hV
    simp only [planX, Bool.and_eq_true] at hX
    obtain ⟨⟨hr, hal⟩, hX'⟩ := hX
    have hri : i ∈ Region.ready .any ops L := by simpa using hr
    have he : earlys (p :: r) = earlys r := by simp [earlys, hpe]
    have hc : costs (p :: r) = costs r + 1 := by simp [costs, hpc]; omega
    have hms : msrs (p :: r) = msrs r + 2 := by simp [msrs, hpm]; omega
    have hfr : ∀ p ∈ r, p.fits flo := fun q hq => hfit q (List.mem_cons_of_mem _ hq)
    have hie : ∀ q ∈ earlys r, q.1 ≠ i := fun q hq e => by
      have := plan_unl _ _ .ld q.1 hX' (efl r hfr q hq).2
      rw [e, getD_set_self] at this; cases this
    have hnotin : i ∉ (earlys r).map (·.1) := fun h => by
      obtain ⟨q, hq, e⟩ := List.mem_map.1 h
      exact hie q hq e
    have hri' : i ∈ Region.ready .any ops (marks L ((earlys r).map (·.1))) := ready_more hri (marks_un' (mem_ready.1 hri).1 hnotin) fun k hk => marks_base hk
    rw [hc, he]
    intro w hw
    refine ⟨List.ne_nil_of_mem hri', fun j hj => ?_⟩
    by_cases hji : j = i
    · subst hji
      simp only [planVC] at hV
      cases hoi : ops[j]? with
      | none => simp [hoi] at hV
      | some o =>
        simp only [hoi] at hV
        obtain ⟨hd, h⟩ := hV
        obtain ⟨env', hE', hnone, h⟩ := guard_env hE h rfl
        have hno' : ∀ (V : AV), ∀ x ∈ flo, ∀ b, (b, x) ∈ r.map PI.ex → ∀ o' d, ops[x]? = some o' → o'.dst = some d → getA (putE o.dst V env') d = none := fun V x hx b hb o' d ho' hd' =>
          getA_putE (hnone d (hno x hx b (by rw [List.map_cons]; exact List.mem_cons_of_mem _ hb) o' d ho' hd')) ((step j r hfr hX' o hoi).2 x hx b hb o' d ho' hd')
        unfold wpOp
        simp only [hoi]
        rcases h with ⟨hw1, h⟩ | ⟨hw1, h⟩
        · rw [if_pos hw1]
          left
          have := op_ok (P := P) (pv := pv) (w0 := w0) hTT hCT hE' (o := o) rfl (Q := Q) h hw.1
          refine Oper.wp_mono (fun a' W' hp => ?_) this
          obtain ⟨v, m, n1, V, hv, rfl, hm, hqq, hfrm, hnear, hext, hK⟩ := hp
          have hnb : ∀ q ∈ earlys r, ¬ blkOf m q.2 := fun q hq ⟨l, e, hl, hk⟩ => by
            have hq' : q ∈ earlys (p :: r) := by rw [he]; exact hq
            rcases hnear l e q.2 hl hk with hb | hb
            · exact (hEA.1 q hq').2.1 hb
            · obtain ⟨_, _, _, _, _, _, ho⟩ := hw.2 q hq'
              have := ho.lt
              omega
          have hFm : Sup m F := by
            by_cases hqt : quietOp o.op = true
            · rw [if_pos hqt] at hext; exact fun l e h => extE_get hext l e (hF l e h)
            · rw [if_neg hqt] at hext; exact leA_get F hext
          refine ⟨SE tt pv w0 ops r m, ⟨hm, fun q hq => ?_⟩, SE.good ops r hFm, fun hwq => ?_, ?_⟩
          · have hq' : q ∈ earlys (p :: r) := by rw [he]; exact hq
            obtain ⟨o1, e1, t1, h1, h2, h3, h4⟩ := hw.2 q hq'
            exact ⟨o1, e1, t1, h1, h2, h3, hfrm.own (hEA.1 q hq').2.1 h4⟩
          · have hqt : quietOp o.op = true := by simp only [wrM, Bool.or_eq_false_iff] at hwq; simpa [wrB, hoi] using hwq.1
            rw [if_pos hqt] at hext
            exact ⟨hqq hqt, fun W h => ⟨h.1.less (extE_get hext), by rw [he]; exact h.2⟩⟩
          · rw [marks_set]
            exact ih (msrs r) (by omega) r rfl _ m n1 _ _ (by simpa using hs) hfr hX' (early_put r j o m V hfr hX' hoi (fun q hq => by rw [he]; exact hq) hnb) hFm (hE'.putE hd v V hv) (hno' v) hK
        · rw [if_neg (by simp [hw1])]
          refine ⟨SE tt pv w0 ops r mem, ⟨hw.1, fun q hq => hw.2 q (by rw [he]; exact hq)⟩, SE.good ops r hF, fun _ => ⟨Below.refl _ _, fun W h => ⟨h.1, by rw [he]; exact h.2⟩⟩, ?_⟩
          rw [marks_set]
          exact ih (msrs r) (by omega) r rfl _ mem nx _ _ (by simpa using hs) hfr hX' (early_put r j o mem undef hfr hX' hoi (fun q hq => by rw [he]; exact hq) fun q hq => (hEA.1 q (by rw [he]; exact hq)).2.1) hF (hE'.putE hd (.tup []) undef (.inr rfl)) (hno' (.tup [])) h
    · obtain ⟨hjun, hje⟩ := marks_un (mem_ready.1 hj).1
      have hjf : j ∈ flo := Classical.byContradiction fun hjf => by
        have : j ∈ Region.ready .any ops (marks L (flo.filter (· != i))) := ready_more hj (marks_un' hjun fun h => hjf (List.mem_filter.1 h).1) fun k hk => marks_le (fun x hx => by
          obtain ⟨q, hq, e⟩ := List.mem_map.1 hx
          subst e
          exact List.mem_filter.2 ⟨(efl r hfr q hq).1, by simpa using hie q hq⟩) hk
        have := (List.all_eq_true.1 hal) j this
        exact hji (by simpa using this)
      have hjlt : j < ops.size := by have := unlisted_of hjun; omega
      obtain ⟨b, hb⟩ := plan_covers _ L j hX0 hjlt hs hjun
      obtain ⟨q, hq, hqx⟩ := List.mem_map.1 hb
      have hmk : PI.mk j none ∈ p :: r := by
        cases q with
        | tk x => injection hqx with _ hqx; subst hqx; exact absurd hjf (hfit _ hq)
        | fz x => injection hqx with _ hqx; subst hqx; exact absurd hjf (hfit _ hq)
        | ld x => injection hqx with _ hqx; subst hqx; exact absurd hjf (hfit _ hq)
        | lm x => have hfl : flo = [] := hfit _ hq; rw [hfl] at hjf; cases hjf
        | mk x g =>
          injection hqx with _ hqx; subst hqx
          cases g with
          | none => exact hq
          | some g => exact absurd (List.mem_map.2 ⟨(x, g), by rw [← he]; exact mem_earlys.2 hq, rfl⟩) hje
      obtain ⟨o, e, ti, d, hoj, hop, hte, hgd, hdst, hdN, huniq⟩ := hspec j hjf
      obtain ⟨hc1, hm1, he1⟩ := upd_nums j w.heap.size (p :: r) hmk
      have hi := hTT e ti hte
      have hrun : (Instr.alloc e true (.tuple #[])).run P w = .ok ((.pointer (some ⟨w.heap.size, 0, none⟩))) (w.alloc (.cells ti.zero.vals.toArray e)) := by
        unfold Instr.alloc
        simp only [Sem.run_bind, hi.rzero, Result.andThen_ok, run_newVar', hi.zcells, Sem.run_pure]
      have hBl : Below w.heap.size w (w.alloc (.cells ti.zero.vals.toArray e)) := (Below.refl _ w).alloc (Nat.le_refl _) _
      unfold wpOp
      simp only [hoj]
      rw [if_pos (by simp [Region.wanted, hgd])]
      left
      refine wp_of_value (exec_value' (by simp only [execOp, hop]) hrun) ⟨SE tt pv w0 ops (updPI j w.heap.size (p :: r)) mem, ⟨hw.1.down hBl, fun q hq => ?_⟩, SE.good ops _ hF, fun _ => ⟨hBl, fun W h => ⟨h.1, fun q hq => h.2 q ((he1 q).2 (.inr hq))⟩⟩, ?_⟩
      · rcases (he1 q).1 hq with rfl | hq
        · exact ⟨o, e, ti, hoj, hop, hte, Own.new w e _⟩
        · obtain ⟨o1, e1, t1, h1, h2, h3, h4⟩ := hw.2 q hq
          exact ⟨o1, e1, t1, h1, h2, h3, h4.below hBl⟩
      · have hEA' : EA w0 ops (updPI j w.heap.size (p :: r)) mem (a.put o.dst (.pointer (some ⟨w.heap.size, 0, none⟩))) := by
          refine ⟨fun q hq => ?_, fun q1 hq1 q2 hq2 h12 => ?_⟩
          · rcases (he1 q).1 hq with rfl | hq
            · refine ⟨hw.1.size, fun ⟨l, e', hl, hk⟩ => ?_, fun o' d' ho' hd' => ?_⟩
              · have := (hw.1.ok l e' hl).blk_lt _ hk; simp at this
              · rw [hoj] at ho'; injection ho' with ho'; subst ho'
                rw [hdst] at hd'; injection hd' with hd'; subst hd'
                rw [hdst]
                exact put_getD_eq (by rw [hE.size]; exact hdN)
            · refine ⟨(hEA.1 q hq).1, (hEA.1 q hq).2.1, fun o' d' ho' hd' => ?_⟩
              have hqj : q.1 ≠ j := fun e => hje (List.mem_map.2 ⟨q, by rw [← he]; exact hq, e⟩)
              rw [put_getD_ne (by rw [hdst]; exact fun e => huniq q.1 o' ho' hqj (by rw [hd']; exact e.symm))]
              exact (hEA.1 q hq).2.2 o' d' ho' hd'
          · have hlt : ∀ q ∈ earlys (p :: r), q.2 < w.heap.size := fun q hq => by obtain ⟨_, _, _, _, _, _, h4⟩ := hw.2 q hq; exact h4.lt
            rcases (he1 q1).1 hq1 with rfl | hq1 <;> rcases (he1 q2).1 hq2 with rfl | hq2
            · rfl
            · have := hlt q2 hq2; simp only at h12; omega
            · have := hlt q1 hq1; simp only at h12; omega
            · exact hEA.2 q1 hq1 q2 hq2 h12
        have hcc : costs r = costs (updPI j w.heap.size (p :: r)) := by omega
        have hmark : (marks L ((earlys r).map (·.1))).setIfInBounds j true = marks L ((earlys (updPI j w.heap.size (p :: r))).map (·.1)) := by
          have hsz : ((marks L ((earlys r).map (·.1))).setIfInBounds j true).size = L.size := by simp [size_marks]
          refine marks_ext (by rw [hsz, size_marks]) fun k hk => ?_
          rw [hsz] at hk
          rw [marks_set, getD_marks false _ _ k (by simpa using hk), getD_marks false _ _ k hk]
          have hmem : k ∈ (earlys (updPI j w.heap.size (p :: r))).map (·.1) ↔ k = j ∨ k ∈ (earlys r).map (·.1) := by
            simp only [List.mem_map]
            constructor
            · rintro ⟨q, hq, rfl⟩
              rcases (he1 q).1 hq with rfl | hq
              · exact .inl rfl
              · exact .inr ⟨q, by rw [← he]; exact hq, rfl⟩
            · rintro (rfl | ⟨q, hq, rfl⟩)
              · exact ⟨_, (he1 _).2 (.inl rfl), rfl⟩
              · exact ⟨q, (he1 _).2 (.inr (by rw [he]; exact hq)), rfl⟩
          by_cases hkj : k = j
          · subst hkj
            have : (L.setIfInBounds k true).getD k false = true := by simp [Array.getD_eq_getD_getElem?, Array.getElem?_setIfInBounds, hk]
            rw [this]
            simp [hmem]
          · rw [getD_set_ne false (Ne.symm hkj)]
            congr 1
            simp only [hmem, hkj, false_or]
        rw [hcc, hmark]
        refine ih (msrs (updPI j w.heap.size (p :: r))) (by omega) _ rfl env mem nx L _ hs (upd_fits _ _ _ hfit) (by rw [upd_ex]; exact hX0) hEA' hF ?_ (by rw [upd_ex]; exact hno) (by rw [upd_ex]; exact hV0)
        rw [hdst]
        exact hE.put_other (hno j hjf b hb o d hoj hdst) _
  -- an operation that is taken
  have take : ∀ (p : PI) (i : Nat) (r : List PI), p.early = none → p.cost = 1 → p.msr = 2 → pl = p :: r → (Region.ready .any ops L).contains i = true → Region.free .any ops L i = true → planX .any ops flo ms (r.map PI.ex) (L.setIfInBounds i true) = true →
      (∃ o, ops[i]? = some o ∧ ∃ (v : AV) (env' : Env) (m : Mem) (n1 : Nat) (Sx : World → Prop), ERel ds env' a N ∧ (∀ d, getA env d = none → getA env' d = none) ∧ dstB N o.dst = true ∧ (∀ W, SE tt pv w0 ops pl mem W → SE tt pv w0 ops pl m W) ∧
        ((∀ W, MRel pv w0 F W → Sx W) ∨ ((∀ W, SE tt pv w0 ops pl mem W → Sx W) ∧ ((List.range ops.size).all fun j => L.getD j true || !wrM ms ops j || waitB .any ops L flo i ops.size j) = true)) ∧
        ∃ V : Value, v.is V ∧ YieldsIf P ops Sx o V a ∧ Sup m F ∧ NoNew mem m ∧ planVC tt ct N F ops (r.map PI.ex) (putE o.dst v env') m n1 K) →
      wpAnyE P .any ops Q (wrM ms ops) (MRel pv w0 F) (costs pl) (SE tt pv w0 ops pl mem) (marks L ((earlys pl).map (·.1))) a := by
    intro p i r hpe hpc hpm hpl hr hf hX' h
    subst hpl
    obtain ⟨o, hoi, v, env', m, n1, Sx, hE', hnone, hd, hSm, hx, V, hv, hy, hFm, hnn, hK⟩ := h
    have hfr : ∀ p ∈ r, p.fits flo := fun q hq => hfit q (List.mem_cons_of_mem _ hq)
    have hri : i ∈ Region.ready .any ops L := by simpa using hr
    have he : earlys (p :: r) = earlys r := by simp [earlys, hpe]
    have hc : costs (p :: r) = costs r + 1 := by simp [costs, hpc]; omega
    have hms : msrs (p :: r) = msrs r + 2 := by simp [msrs, hpm]; omega
    have hSE : ∀ m W, SE tt pv w0 ops (p :: r) m W → SE tt pv w0 ops r m W := fun m W h => ⟨h.1, fun q hq => h.2 q (by rw [he]; exact hq)⟩
    have hnotin : i ∉ (earlys r).map (·.1) := fun h => by
      obtain ⟨q, hq, e⟩ := List.mem_map.1 h
      have := plan_unl _ _ .ld q.1 hX' (efl r hfr q hq).2
      rw [e, getD_set_self] at this; cases this
    have hri' : i ∈ Region.ready .any ops (marks L ((earlys r).map (·.1))) := ready_more hri (marks_un' (mem_ready.1 hri).1 hnotin) fun k hk => marks_base hk
    have hno' : ∀ x ∈ flo, ∀ b, (b, x) ∈ r.map PI.ex → ∀ o' d, ops[x]? = some o' → o'.dst = some d → getA (putE o.dst v env') d = none := fun x hx b hb o' d ho' hd' =>
      getA_putE (hnone d (hno x hx b (by rw [List.map_cons]; exact List.mem_cons_of_mem _ hb) o' d ho' hd')) ((step i r hfr hX' o hoi).2 x hx b hb o' d ho' hd')
    have hfree : ∀ j oj, ops[j]? = some oj → j ≠ i → (marks L ((earlys r).map (·.1))).getD j true = false → (∀ e ∈ oj.after, Region.binds .any e = true → e.on ≠ i) → o.apart ops oj = true :=
      fun j oj hj hne hun => Region.free_spec hoi hf j oj hj hne (marks_un hun).1
    have hEAm : EA w0 ops r m (a.put o.dst V) := early_put r i o m _ hfr hX' hoi (fun q hq => by rw [he]; exact hq) fun q hq ⟨l, e, hl, hk⟩ => (hEA.1 q (by rw [he]; exact hq)).2.1 (hnn l e q.2 hl hk)
    have H := ih (msrs r) (by omega) r rfl _ m n1 _ _ (by simpa using hs) hfr hX' hEAm hFm (hE'.putE hd v V hv) hno' hK
    rw [hc, he]
    rw [← marks_set] at H
    refine wpAnyE_first hoi (Region.noSelect_spec hsel) (fun c a w h => absurd h (hQp _ _ _)) (costs r) _ _ _ a (SE.good ops _ hF) (fun W hW => hSE m W (hSm W hW)) (by rw [size_marks]; exact hs) ?_ hfree hri' hy H
    refine hx.imp id fun ⟨h1, hwt⟩ => ⟨h1, fun j oj hj hun hw => ?_⟩
    have := (List.all_eq_true.1 hwt) j (List.mem_range.2 (Array.getElem?_eq_some_iff.1 hj).1)
    rw [(marks_un hun).1, hw] at this
    simp only [Bool.not_true, Bool.or_false, Bool.false_or] at this
    exact waitB_ok (fun x hx => by obtain ⟨q, hq, e⟩ := List.mem_map.1 hx; subst e; exact (efl r hfr q hq).1) _ j this
  cases pl with
  | nil =>
    refine ⟨fun j hj => ?_, fun w hw => hQ env mem nx a w hV hE hw.1⟩
    simp only [List.map_nil, planX, List.all_eq_true, List.mem_range] at hX
    exact hX j hj
  | cons p r =>
    cases p with
    | ld i => exact loud _ i r rfl rfl rfl rfl rfl
    | lm i =>
      have hfl : flo = [] := hfit _ (List.mem_cons_self ..)
      have hfr : ∀ p ∈ r, p.fits flo := fun q hq => hfit q (List.mem_cons_of_mem _ hq)
      have hnil : ∀ l : List PI, (∀ p ∈ l, p.fits flo) → earlys l = [] := fun l hl => by
        apply List.eq_nil_iff_forall_not_mem.2
        intro q hq
        have := (efl l hl q hq).1
        rw [hfl] at this; cases this
      have he := hnil _ hfit
      have her := hnil r hfr
      simp only [List.map_cons, PI.ex] at hX hV
      simp only [planX, Bool.and_eq_true] at hX
      obtain ⟨⟨hr, ⟨_, hms⟩, hal⟩, hX'⟩ := hX
      have hri : i ∈ Region.ready .any ops L := by simpa using hr
      have hc : costs (PI.lm i :: r) = costs r + 1 := by simp [costs, PI.cost]; omega
      have hmr : msrs (PI.lm i :: r) = msrs r + 2 := by simp [msrs, PI.msr]; omega
      have hEAr : ∀ (m : Mem) (a : Act), EA w0 ops r m a := fun m a => ⟨fun q hq => (by rw [her] at hq; cases hq), fun q hq => (by rw [her] at hq; cases hq)⟩
      rw [hc, he]
      intro w hw
      refine ⟨List.ne_nil_of_mem hri, fun j hj => ?_⟩
      obtain rfl : j = i := by
        have := (List.all_eq_true.1 hal) j hj
        simpa using this
      simp only [planVC] at hV
      cases hoi : ops[j]? with
      | none => simp [hoi] at hV
      | some o =>
        simp only [hoi] at hV
        obtain ⟨hd, h⟩ := hV
        obtain ⟨env', hE', hnone, h⟩ := guard_env hE h rfl
        have hno' : ∀ (V : AV), ∀ x ∈ flo, ∀ b, (b, x) ∈ r.map PI.ex → ∀ o' d, ops[x]? = some o' → o'.dst = some d → getA (putE o.dst V env') d = none := fun V x hx => by rw [hfl] at hx; cases hx
        unfold wpOp
        simp only [hoi]
        rcases h with ⟨hw1, h⟩ | ⟨hw1, h⟩
        · rw [if_pos hw1]
          left
          unfold memVC at h
          split at h
          · rename_i c hop
            split at h
            · rename_i FF hFF
              split at h
              · rename_i mt hct
                have := mem_ok (P := P) (pv := pv) (w0 := w0) (Q := Q) hCT (dials_fn hE' hop hFF) hct h hw.1
                refine Oper.wp_mono (fun a' W' hp => ?_) this
                obtain ⟨v, m, n1, V, hv, rfl, hm, hext, hK⟩ := hp
                have hFm : Sup m F := leA_get F hext
                refine ⟨SE tt pv w0 ops r m, ⟨hm, fun q hq => by rw [her] at hq; cases hq⟩, SE.good ops r hFm, fun hwq => ?_, ?_⟩
                · have : wrM ms ops j = true := by simp only [wrM, hms, Bool.or_true]
                  rw [this] at hwq; cases hwq
                · have H := ih (msrs r) (by omega) r rfl _ m n1 _ _ (by simpa using hs) hfr hX' (hEAr m _) hFm (hE'.putE hd v V hv) (hno' v) hK
                  rw [her] at H
                  exact H
              · exact h.elim
            · exact h.elim
          · exact h.elim
        · rw [if_neg (by simp [hw1])]
          refine ⟨SE tt pv w0 ops r mem, ⟨hw.1, fun q hq => by rw [her] at hq; cases hq⟩, SE.good ops r hF, fun _ => ⟨Below.refl _ _, fun W h => ⟨h.1, fun q hq => by rw [he] at hq; cases hq⟩⟩, ?_⟩
          have H := ih (msrs r) (by omega) r rfl _ mem nx _ _ (by simpa using hs) hfr hX' (hEAr mem _) hF (hE'.putE hd (.tup []) undef (.inr rfl)) (hno' (.tup [])) h
          rw [her] at H
          exact H
    | mk i g =>
      cases g with
      | none => exact loud _ i r rfl rfl rfl rfl rfl
      | some g =>
        have hif : i ∈ flo := hfit _ (List.mem_cons_self ..)
        obtain ⟨o, e, ti, d, hoi, hop, hte, hgd, hdst, hdN, huniq⟩ := hspec i hif
        have hfr : ∀ p ∈ r, p.fits flo := fun q hq => hfit q (List.mem_cons_of_mem _ hq)
        have hX' : planX .any ops flo ms (r.map PI.ex) (L.setIfInBounds i true) = true := by
          simp only [List.map_cons, PI.ex, planX, Bool.and_eq_true] at hX; exact hX.2
        simp only [List.map_cons, PI.ex, planVC, hoi, hgd, guardVC, hop, opVC, hte] at hV
        obtain ⟨_, hV⟩ := hV
        have hVg := (hV g).2
        have hig : (i, g) ∈ earlys (.mk i (some g) :: r) := List.mem_cons_self ..
        have hsubr : ∀ q ∈ earlys r, q ∈ earlys (.mk i (some g) :: r) := fun q hq => List.mem_cons_of_mem (i, g) hq
        obtain ⟨hg1, hg2, hg3⟩ := hEA.1 _ hig
        have hie : ∀ q ∈ earlys r, q.1 ≠ i := fun q hq e => by
          have := plan_unl _ _ .ld q.1 hX' (efl r hfr q hq).2
          rw [e, getD_set_self] at this; cases this
        have hc0 : costs (.mk i (some g) :: r) = costs r := by simp [costs, PI.cost]
        rw [hc0]
        have hext := (hV g).1
        rw [if_pos (show quietOp (.alloc e) = true from rfl)] at hext
        have hFg : Sup ((nx, .own g e ti.zero) :: mem) F := fun l e h => extE_get hext l e (hF l e h)
        refine wpAnyE_weak (costs r) (SE tt pv w0 ops r ((nx, .own g e ti.zero) :: mem)) _ (marks (L.setIfInBounds i true) ((earlys r).map (·.1))) a (SE.good ops _ hF) (fun W hW => ⟨?_, fun q hq => hW.2 q (hsubr q hq)⟩) ?_
        · obtain ⟨o1, e1, t1, h1, h2, h3, h4⟩ := hW.2 _ hig
          rw [hoi] at h1; injection h1 with h1; subst h1
          rw [hop] at h2; injection h2 with h2; subst h2
          rw [hte] at h3; injection h3 with h3; subst h3
          exact hW.1.add nx _ ⟨h4, hg1, (hTT e ti hte).ones⟩ fun l' e' he' _ k hk hk' => hg2 ⟨l', e', he', by injection hk with hk; rw [hk]; exact hk'⟩
        · refine ih (msrs r) (by simp [msrs, PI.msr] at hn ⊢; omega) r rfl _ _ _ _ a (by simpa using hs) hfr hX' ⟨fun q hq => ⟨(hEA.1 q (hsubr q hq)).1, ?_, (hEA.1 q (hsubr q hq)).2.2⟩, fun q1 h1 q2 h2 => hEA.2 q1 (hsubr q1 h1) q2 (hsubr q2 h2)⟩ hFg (by
            rw [hdst]
            exact hE.alias d (.ptr nx g 0) (.inr (hg3 o d hoi hdst))) (fun x hx b hb o' d' ho' hd' => ?_) hVg
          · rintro ⟨l, e', hl, hk⟩
            simp only [getA] at hl
            split at hl
            · injection hl with hl; subst hl
              injection hk with hk
              exact hie q hq (hEA.2 q (hsubr q hq) _ hig hk.symm)
            · exact (hEA.1 q (hsubr q hq)).2.1 ⟨l, e', hl, hk⟩
          · have hxi := (step i r hfr hX' o hoi).1 x hx b hb
            rw [hdst]
            simp only [putE, getA]
            rw [if_neg (fun e2 => huniq x o' ho' hxi (by rw [hd', e2]))]
            exact hno x hx b (by rw [List.map_cons]; exact List.mem_cons_of_mem _ hb) o' d' ho' hd'
    | tk i =>
      simp only [List.map_cons, PI.ex] at hX hV
      simp only [planX, Bool.and_eq_true] at hX
      obtain ⟨⟨hr, ⟨hf, hnf⟩, hwt⟩, hX'⟩ := hX
      refine take (.tk i) i r rfl rfl rfl rfl hr hf hX' ?_
      simp only [planVC] at hV
      cases hoi : ops[i]? with
      | none => simp [hoi] at hV
      | some o =>
        simp only [hoi] at hV
        obtain ⟨hd, h⟩ := hV
        obtain ⟨env', hE', hnone, h⟩ := guard_env hE h rfl
        refine ⟨o, rfl, ?_⟩
        rcases h with ⟨hw1, h⟩ | ⟨hw1, h⟩
        · obtain ⟨v, m, n1, hg, ⟨hext, hK⟩, hnn, hrun⟩ := pure_ok (P := P) (pv := pv) (w0 := w0) hTT hE' h (o := o) rfl
          exact ⟨v, env', m, n1, MRel pv w0 mem, hE', hnone, hd, fun W hW => ⟨(hrun W hW.1).1, hW.2⟩, .inr ⟨fun W hW => hW.1, hwt⟩, v.conc, AV.is_refl v, .inl ⟨hw1, fun W hW => (hrun W hW).2⟩, fun l e h => extE_get hext l e (hF l e h), hnn, hK⟩
        · exact ⟨.tup [], env', mem, nx, fun _ => True, hE', hnone, hd, fun W hW => hW, .inl fun _ _ => trivial, undef, .inr rfl, .inr ⟨hw1, rfl⟩, hF, NoNew.refl mem, h⟩
    | fz i =>
      simp only [List.map_cons, PI.ex] at hX hV
      simp only [planX, Bool.and_eq_true] at hX
      obtain ⟨⟨hr, hf, hnf⟩, hX'⟩ := hX
      refine take (.fz i) i r rfl rfl rfl rfl hr hf hX' ?_
      simp only [planVC] at hV
      cases hoi : ops[i]? with
      | none => simp [hoi] at hV
      | some o =>
        simp only [hoi] at hV
        obtain ⟨hd, h⟩ := hV
        obtain ⟨env', hE', hnone, h⟩ := guard_env hE h rfl
        refine ⟨o, rfl, ?_⟩
        rcases h with ⟨hw1, h⟩ | ⟨hw1, h⟩
        · obtain ⟨v, m, n1, hg, hK, hnn, hrun⟩ := pure_ok (P := P) (pv := pv) (w0 := w0) hTT hE' h (o := o) rfl
          exact ⟨v, env', mem, nx, MRel pv w0 F, hE', hnone, hd, fun W hW => hW, .inl fun W h => h, v.conc, AV.is_refl v, .inl ⟨hw1, fun W hW => (hrun W hW).2⟩, hF, NoNew.refl mem, hK⟩
        · exact ⟨.tup [], env', mem, nx, fun _ => True, hE', hnone, hd, fun W hW => hW, .inl fun _ _ => trivial, undef, .inr rfl, .inr ⟨hw1, rfl⟩, hF, NoNew.refl mem, h⟩
/-- A plan's items, none of them made as yet. -/
def itemOf (flo : List Nat) : PK × Nat → PI
  | (.tk, i) => .tk i
  | (.fz, i) => .fz i
  | (.ld, i) => if i ∈ flo then .mk i none else .ld i
  | (.lm, i) => .lm i
theorem items_ex (flo : List Nat) : ∀ plan : List (PK × Nat), (plan.map (itemOf flo)).map PI.ex = plan
  | [] => rfl
  | (b, i) :: r => by
    rw [List.map_cons, List.map_cons, items_ex flo r]
    congr 1
    cases b <;> simp only [itemOf] <;> (try split) <;> rfl
theorem items_early (flo : List Nat) : ∀ plan : List (PK × Nat), earlys (plan.map (itemOf flo)) = []
  | [] => rfl
  | (b, i) :: r => by
    have := items_early flo r
    simp only [earlys, List.map_cons, List.filterMap_cons] at this ⊢
    cases b
    · by_cases h : i ∈ flo <;> simp [itemOf, h, PI.early, this]
    · simp [itemOf, PI.early, this]
    · simp [itemOf, PI.early, this]
    · simp [itemOf, PI.early, this]
theorem items_cost (flo : List Nat) : ∀ plan : List (PK × Nat), costs (plan.map (itemOf flo)) = plan.length
  | [] => rfl
  | (b, i) :: r => by
    have := items_cost flo r
    simp only [costs, List.map_cons, List.sum_cons, List.length_cons] at this ⊢
    rw [this]
    cases b
    · by_cases h : i ∈ flo <;> simp [itemOf, h, PI.cost] <;> omega
    · simp [itemOf, PI.cost]; omega
    · simp [itemOf, PI.cost]; omega
    · simp [itemOf, PI.cost]; omega
theorem plan_tk {md : Region.Mode} {ops : Array Oper} {flo ms : List Nat} : ∀ (plan : List (PK × Nat)) (L : Array Bool) (b : PK) (i : Nat), planX md ops flo ms plan L = true → (b, i) ∈ plan → b ≠ .ld → b ≠ .lm → i ∉ flo
  | [], _, _, _, _, h, _, _ => by cases h
  | (b, j) :: r, L, b', i, h, hm, hb, hb2 => by
    have h' : planX md ops flo ms r (L.setIfInBounds j true) = true := by simp only [planX, Bool.and_eq_true] at h; exact h.2
    rcases List.mem_cons.1 hm with hm | hm
    · injection hm with h1 h2; subst h1; subst h2
      cases b' <;> simp only [planX, Bool.and_eq_true] at h
      · exact absurd rfl hb
      · simpa using h.1.2.1.2
      · simpa using h.1.2.2
      · exact absurd rfl hb2
    · exact plan_tk r _ b' i h' hm hb hb2
theorem plan_lm {md : Region.Mode} {ops : Array Oper} {flo ms : List Nat} : ∀ (plan : List (PK × Nat)) (L : Array Bool) (i : Nat), planX md ops flo ms plan L = true → (PK.lm, i) ∈ plan → flo = []
  | [], _, _, _, h => by cases h
  | (b, j) :: r, L, i, h, hm => by
    have h' : planX md ops flo ms r (L.setIfInBounds j true) = true := by simp only [planX, Bool.and_eq_true] at h; exact h.2
    rcases List.mem_cons.1 hm with hm | hm
    · injection hm with h1 h2; subst h1; subst h2
      simp only [planX, Bool.and_eq_true] at h
      simpa using h.1.2.1.1
    · exact plan_lm r _ i h' hm
theorem delAll_get {ops : Array Oper} : ∀ (flo : List Nat) (env : Env) (d : Nat) (v : AV), getA (delAll env ops flo) d = some v → getA env d = some v ∧ ∀ i ∈ flo, (ops[i]?).bind (·.dst) ≠ some d
  | [], env, d, v, h => ⟨h, fun _ h => by cases h⟩
  | i :: r, env, d, v, h => by
    unfold delAll at h
    cases hb : (ops[i]?).bind (·.dst) with
    | none =>
      simp only [hb] at h
      obtain ⟨h1, h2⟩ := delAll_get r env d v h
      refine ⟨h1, fun x hx => ?_⟩
      rcases List.mem_cons.1 hx with rfl | hx
      · rw [hb]; exact fun e => by cases e
      · exact h2 x hx
    | some k =>
      simp only [hb] at h
      obtain ⟨h1, h2⟩ := delAll_get r _ d v h
      rw [getA_delA] at h1
      split at h1
      · cases h1
      · rename_i hne
        refine ⟨h1, fun x hx => ?_⟩
        rcases List.mem_cons.1 hx with rfl | hx
        · rw [hb]; exact fun e => hne (by injection e with e; exact e.symm)
        · exact h2 x hx
theorem MRel.frzs {pv : Nat → Prop} {w0 W : World} : ∀ (fs : List Nat) {mem : Mem}, MRel pv w0 mem W → MRel pv w0 (frzs mem fs) W
  | [], _, h => h
  | l :: r, mem, h => MRel.frzs r (h.frz l)
theorem draw_ok0 (hTT : TTok P tt) (hCT : CTok P ct) (hmix : P.follows .mixedOrders = true) {id : Nat} {ops : Array Oper} {env : Env} {mem : Mem} {nx : Nat} {K : KE} {a : Act} {W : World} {plan : List (PK × Nat)} {flo ks : List Nat} (hB : drawB tt N ops plan flo = true) (h : planVC tt ct N (keepM ks mem) ops plan (delAll env ops flo) mem nx (K .normal)) (hE : ERel ds env a N) (hM : MRel pv w0 mem W) :
    (Code.region id ops true).wp P (QK ds pv w0 N K) a W := by
  simp only [drawB, Bool.and_eq_true, decide_eq_true_eq] at hB
  obtain ⟨⟨⟨hsel, hflo⟩, hlen⟩, hX⟩ := hB
  have hex := items_ex flo plan
  have hearly := items_early flo plan
  have H := plan_ok (P := P) (pv := pv) (w0 := w0) (N := N) (K := K .normal) (F := keepM ks mem) (Q := QK ds pv w0 N K) hTT hCT hsel hflo (fun c a w h => h.no_panic) (fun env mem nx a W hK hE hM => ⟨.normal, env, mem, nx, rfl, hE, hM, hK⟩)
    _ (plan.map (itemOf flo)) rfl (delAll env ops flo) mem nx (Array.replicate ops.size false) a (by simp) (fun p hp => by
      obtain ⟨⟨b, i⟩, hm, rfl⟩ := List.mem_map.1 hp
      cases b
      · simp only [itemOf]
        by_cases h : i ∈ flo
        · rw [if_pos h]; exact h
        · rw [if_neg h]; exact h
      · exact plan_tk plan _ _ i hX hm (by simp) (by simp)
      · exact plan_tk plan _ _ i hX hm (by simp) (by simp)
      · exact plan_lm plan _ i hX hm) (by rw [hex]; exact hX) ⟨by rw [hearly]; exact fun _ h => (by cases h), by rw [hearly]; exact fun _ h => (by cases h)⟩ (keepM_sup ks mem) (hE.less fun d v h => (delAll_get flo env d v h).1)
    (fun i hi b _ o d ho hd => by
      cases hg : getA (delAll env ops flo) d with
      | none => rfl
      | some v => exact absurd (by rw [ho]; exact hd) ((delAll_get flo env d v hg).2 i hi)) (by rw [hex]; exact h)
  rw [hearly, items_cost, hlen] at H
  exact wp_region_any hmix (wpAny_of_E _ _ _ _ _ H ⟨hM.drew, by rw [hearly]; exact fun _ h => (by cases h)⟩)
theorem draw_ok (hTT : TTok P tt) (hCT : CTok P ct) (hmix : P.follows .mixedOrders = true) {id : Nat} {ops : Array Oper} {env : Env} {mem : Mem} {nx : Nat} {K : KE} {a : Act} {W : World} (h : DrawVC tt ct N ops env mem nx K) (hE : ERel ds env a N) (hM : MRel pv w0 mem W) :
    (Code.region id ops true).wp P (QK ds pv w0 N K) a W := by
  obtain ⟨plan, flo, ks, fs, hB, h⟩ := h
  exact draw_ok0 hTT hCT hmix hB h hE (hM.frzs fs)
theorem QK.mono {K K' : KE} (h : ∀ x env mem nx, K x env mem nx → K' x env mem nx) {e : Exit} {a : Act} {W : World} : QK ds pv w0 N K e a W → QK ds pv w0 N K' e a W :=
  fun ⟨x, env, mem, nx, h1, h2, h3, h4⟩ => ⟨x, env, mem, nx, h1, h2, h3, h x env mem nx h4⟩
theorem leS_ok {env : Env} {mem : Mem} {s : St} {a : Act} {W : World} (h : leS env mem s) (hE : ERel ds env a N) (hM : MRel pv w0 mem W) : ERel ds s.env a N ∧ MRel pv w0 s.mem W :=
  ⟨hE.less (leA_get _ h.1), hM.less (leA_get _ h.2)⟩
theorem wp_loop_ghost' {c : Code} {Q : Exit → Act → World → Prop} {ι : Type} (I : ι → Act → World → Prop) (μ : ι → Nat)
    (round : ∀ i a w, I i a w → c.wp P (Exit.then (fun a' w' => ∃ j, μ j < μ i ∧ I j a' w') Q) a w) : ∀ i a w, I i a w → (Code.loop c).wp P Q a w := by
  intro i a w h₀ b k cs
  have key : ∀ n i a w, μ i = n → I i a w →
      ∃ e a' w', Q e a' w' ∧ Arrives P (lone (b.at a (.code c :: .inLoop c :: k)) cs w) b k cs e a' w' := by
    intro n
    induction n using Nat.strongRecOn with
    | _ n ih =>
      intro i a w hn hI
      obtain ⟨e, a₁, w₁, hq, harr⟩ := round i a w hI b (.inLoop c :: k) cs
      cases e with
      | normal =>
        obtain ⟨j, hlt, hI₁⟩ := hq
        obtain ⟨e₂, a₂, w₂, hq₂, harr₂⟩ := ih (μ j) (hn ▸ hlt) j a₁ w₁ rfl hI₁
        exact ⟨e₂, a₂, w₂, hq₂, .of_steps (Steps.trans harr (.one step_inLoop)) harr₂⟩
      | exit id => exact ⟨_, a₁, w₁, hq, .pass (x := .inLoop c) rfl (fun _ _ => .inl (by simp)) harr⟩
      | goto l => exact ⟨_, a₁, w₁, hq, .pass (x := .inLoop c) rfl (fun _ _ => .inl (by simp)) harr⟩
      | ret => exact ⟨_, a₁, w₁, hq, .pass (x := .inLoop c) rfl (fun _ _ => .inl (by simp)) harr⟩
      | panic ch => exact ⟨_, a₁, w₁, hq, .pass (x := .inLoop c) rfl (fun _ _ => .inl (by simp)) harr⟩
      | outgrown => exact ⟨_, a₁, w₁, hq, .pass (x := .inLoop c) rfl (fun _ _ => .inl (by simp)) harr⟩
  obtain ⟨e, a', w', hq, harr⟩ := key _ i a w rfl h₀
  exact ⟨e, a', w', hq, .of_steps (.one step_loop) harr⟩
theorem code_ok (hTT : TTok P tt) (hCT : CTok P ct) (hmix : P.follows .mixedOrders = true) : ∀ (c : Code) (env : Env) (mem : Mem) (nx : Nat) (K : KE) (a : Act) (W : World), vcCode tt ct N c env mem nx K → ERel ds env a N → MRel pv w0 mem W → c.wp P (QK ds pv w0 N K) a W
  | .skip, env, mem, nx, K, a, W, h, hE, hM => wp_skip ⟨.normal, env, mem, nx, rfl, hE, hM, h⟩
  | .region _ ops true, env, mem, nx, K, a, W, h, hE, hM => draw_ok hTT hCT hmix h hE hM
  | .region _ ops false, env, mem, nx, K, a, W, h, hE, hM => wp_region_list (list_ok hTT hCT _ env mem nx a W h hE hM)
  | .seq x y, env, mem, nx, K, a, W, h, hE, hM => wp_seq (Code.wp_mono (fun e a' W' hq => by
      obtain ⟨ex, env1, mem1, nx1, rfl, hE1, hM1, hK⟩ := hq
      cases ex with
      | normal => exact code_ok hTT hCT hmix y env1 mem1 nx1 K a' W' hK hE1 hM1
      | exit id => exact ⟨.exit id, env1, mem1, nx1, rfl, hE1, hM1, hK⟩
      | ret => exact ⟨.ret, env1, mem1, nx1, rfl, hE1, hM1, hK⟩) (code_ok hTT hCT hmix x env mem nx _ a W h hE hM))
  | .cond c x y, env, mem, nx, K, a, W, h, hE, hM => by
    simp only [vcCode] at h
    cases hc : ev env c <;> simp only [hc] at h <;> try exact h.elim
    rename_i b
    have e0 := ev_is hE hc rfl
    cases b
    · exact wp_cond_false e0 (code_ok hTT hCT hmix y env mem nx K a W h hE hM)
    · exact wp_cond_true e0 (code_ok hTT hCT hmix x env mem nx K a W h hE hM)
  | .block id b, env, mem, nx, K, a, W, h, hE, hM => wp_block (Code.wp_mono (fun e a' W' hq => by
      obtain ⟨ex, env1, mem1, nx1, rfl, hE1, hM1, hK⟩ := hq
      cases ex with
      | normal => exact ⟨.normal, env1, mem1, nx1, rfl, hE1, hM1, hK⟩
      | exit id' =>
        simp only [Ex.conv, Exit.inBlock, blockK] at hK ⊢
        split
        · rw [if_pos (by assumption)] at hK; exact ⟨.normal, env1, mem1, nx1, rfl, hE1, hM1, hK⟩
        · rw [if_neg (by assumption)] at hK; exact ⟨.exit id', env1, mem1, nx1, rfl, hE1, hM1, hK⟩
      | ret => exact ⟨.ret, env1, mem1, nx1, rfl, hE1, hM1, hK⟩) (code_ok hTT hCT hmix b env mem nx _ a W h hE hM))
  | .loop b, env, mem, nx, K, a, W, h, hE, hM => by
    rcases h with ⟨ι, I, μ, ⟨i, h0⟩, h⟩ | ⟨ι, I, μ, h0, h⟩
    · obtain ⟨hE0, hM0⟩ := leS_ok h0 hE hM
      refine wp_loop_ghost' (ι := ι) (fun i a w => ERel ds (I i).env a N ∧ MRel pv w0 (I i).mem w) μ (fun i a w hI => ?_) i a W ⟨hE0, hM0⟩
      refine Code.wp_mono (fun e a' W' hq => ?_) (code_ok hTT hCT hmix b _ _ _ _ a w (h i) hI.1 hI.2)
      obtain ⟨ex, env1, mem1, nx1, rfl, hE1, hM1, hK⟩ := hq
      cases ex with
      | normal =>
        obtain ⟨j, hj, hle⟩ := hK
        exact ⟨j, hj, leS_ok hle hE1 hM1⟩
      | exit id => exact ⟨.exit id, env1, mem1, nx1, rfl, hE1, hM1, hK⟩
      | ret => exact ⟨.ret, env1, mem1, nx1, rfl, hE1, hM1, hK⟩
    · obtain ⟨i, _, hE0, hM0⟩ := h0 ds pv w0 W a N hE hM
      refine wp_loop_ghost' (ι := ι) (fun i a w => ERel ds (I i).env a N ∧ MRel pv w0 (I i).mem w) μ (fun i a w hI => ?_) i a W ⟨hE0, hM0⟩
      refine Code.wp_mono (fun e a' W' hq => ?_) (code_ok hTT hCT hmix b _ _ _ _ a w (h i) hI.1 hI.2)
      obtain ⟨ex, env1, mem1, nx1, rfl, hE1, hM1, hK⟩ := hq
      cases ex with
      | normal =>
        obtain ⟨j, hj, hle⟩ := hK ds pv w0 W' a' N hE1 hM1
        exact ⟨j, hj, hle⟩
      | exit id => exact ⟨.exit id, env1, mem1, nx1, rfl, hE1, hM1, hK⟩
      | ret => exact ⟨.ret, env1, mem1, nx1, rfl, hE1, hM1, hK⟩
  | .exit id, env, mem, nx, K, a, W, h, hE, hM => wp_exit ⟨.exit id, env, mem, nx, rfl, hE, hM, h⟩
  | .ret, env, mem, nx, K, a, W, h, hE, hM => wp_ret ⟨.ret, env, mem, nx, rfl, hE, hM, h⟩
  | .rangeFunc .., _, _, _, _, _, _, h, _, _ => h.elim
  | .scope _, _, _, _, _, _, _, h, _, _ => h.elim
  | .label _, _, _, _, _, _, _, h, _, _ => h.elim
  | .goto _, _, _, _, _, _, _, h, _, _ => h.elim
  | .refuse _, _, _, _, _, _, _, h, _, _ => h.elim
end
end Go.Proofs.Ytlcaobnojbkmbaa
/- What is owed for a function, told without a world. For any program. -/
namespace Go.Proofs.Ytlcaobnojbkmbaa
open Go Go.RowKit
set_option linter.unusedVariables false
set_option linter.unusedSimpArgs false
variable {ds : List Deferred}
/-- A result as a contract tells it. -/
def resV1 (tt : TT) (mem : Mem) (t : TypeId) (v : AV) (K : CR1 → Prop) : Prop :=
  match v with
  | .ros l A n c => (match getA mem l with
    | some (.ro A' c' cs) => (A' = A ∧ c' = c ∧ cs.len = n) ∧ K (.al cs)
    | _ => False)
  | .slc l g off len cap => (match getA mem l with
    | some (.own g' t cs) => (g' = g ∧ off + len ≤ cs.len ∧ len ≤ cap ∧ cs.len ≤ 9223372036854775807) ∧ K (.s (cs.part off len))
    | _ => False)
  | .grow l v n => (match getA mem l with
    | some (.row v' e cs) => (v' = v ∧ cs.len = n) ∧ K (.s cs)
    | _ => False)
  | .nils => K (.s ((zOf tt t).part 0 0))
  | v => v.plain = true ∧ K (.v v)
def resVC (tt : TT) (env : Env) (mem : Mem) (r : ResultVar) (t : TypeId) (K : CR1 → Prop) : Prop :=
  match r with
  | .tmp d => resV1 tt mem t (ev env (.tmp d)) K
  | .cell p ty => (match tt ty with
    | some i => loadVC mem i (ev env (.tmp p)) fun v => resV1 tt mem t v K
    | none => False)
def ressVC (tt : TT) (env : Env) (mem : Mem) : List ResultVar → List TypeId → (List CR1 → Prop) → Prop
  | [], [], K => K []
  | r :: rs, t :: ts, K => resVC tt env mem r t fun x => ressVC tt env mem rs ts fun xs => K (x :: xs)
  | _, _, _ => False
def retR (tt : TT) (rs : List ResultVar) (ts : List TypeId) (env : Env) (mem : Mem) (K : CR → Prop) : Prop :=
  match rs with
  | [r] => (match ts with
    | [t] => resVC tt env mem r t fun x => K (.one x)
    | _ => False)
  | rs => ressVC tt env mem rs ts fun xs => K (.tup xs)
def retVC (tt : TT) (rs : List ResultVar) (ts : List TypeId) (K : CR → Prop) : KE := fun e env mem nx =>
  match e with
  | .exit _ => False
  | _ => retR tt rs ts env mem K
/-- What comes in, in its slots. -/
def entryVC : List CA → Nat → Env → Mem → (Env → Mem → Nat → Prop) → Prop
  | [], i, env, mem, K => K env mem i
  | .v a :: r, i, env, mem, K => entryVC r (i + 1) ((i, a) :: env) mem K
  | .s cs :: r, i, env, mem, K => ∀ A c, cs.len ≤ c → entryVC r (i + 1) ((i, .ros i A cs.len c) :: env) ((i, .ro A c cs) :: mem) K
  | .p cs :: r, i, env, mem, K => 0 < cs.len → ∀ A c, entryVC r (i + 1) ((i, .rptr i A 0) :: env) ((i, .ro A c cs) :: mem) K
section
variable {P : Program} {tt : TT} {ct : CTab} {w0 : World} {N : Nat}
def pvOf (vals : List Value) (k : Nat) : Prop := ∃ u ∈ vals, blkW u = some k
theorem resV1_ok {mem : Mem} {t : TypeId} {v : AV} {K : CR1 → Prop} {vals : List Value} {W : World} (hM : MRel (pvOf vals) w0 mem W) (h : resV1 tt mem t v K) : ∃ r, K r ∧ v.good = true ∧ resOk1 vals w0 W r v.conc := by
  cases v with
  | ros l A n c =>
    simp only [resV1] at h
    cases hg : getA mem l with
    | none => simp [hg] at h
    | some e =>
      rw [hg] at h
      cases e with
      | ro A' c' cs =>
        obtain ⟨⟨rfl, rfl, rfl⟩, hK⟩ := h
        obtain ⟨h1, h2, h3⟩ := hM.ok _ _ hg
        exact ⟨.al cs, hK, rfl, A', c', rfl, h2, h1, fun k hk => ⟨(h3 k (blkC_up _ hk)).2, (h3 k (blkC_up _ hk)).1⟩⟩
      | _ => exact h.elim
  | slc l g off len cap =>
    simp only [resV1] at h
    cases hg : getA mem l with
    | none => simp [hg] at h
    | some e =>
      rw [hg] at h
      cases e with
      | own g' t cs =>
        obtain ⟨⟨rfl, h1, h2, h4⟩, hK⟩ := h
        obtain ⟨ho, hb, h3⟩ := hM.ok _ _ hg
        have hl : (cs.part off len).len = len := by rw [Cells.part_len]; omega
        refine ⟨.s (cs.part off len), hK, rfl, some ⟨g', off, none⟩, cap, by rw [hl]; rfl, by omega, ⟨by rw [Cells.vals_length, hl]; omega, fun i x hx => ⟨g', off, rfl, ?_⟩⟩, fun k hk => ?_⟩
        · rw [ho.cell]
          rw [Cells.vals_part, List.getElem?_take] at hx
          split at hx
          · rw [List.getElem?_drop] at hx; simpa using hx
          · cases hx
        · injection (blkC_A hk) with hk; subst hk; exact ⟨hb, ho.lt⟩
      | _ => exact h.elim
  | grow l v n =>
    simp only [resV1] at h
    cases hg : getA mem l with
    | none => simp [hg] at h
    | some e =>
      rw [hg] at h
      cases e with
      | row v' e cs =>
        obtain ⟨⟨rfl, rfl⟩, hK⟩ := h
        have hme := hM.ok _ _ hg
        obtain ⟨ho, h3⟩ := hme
        have ho' : W.ownsRow w0.heap.size e 1 v' cs.len (cs.vals.map id) := by rw [List.map_id]; exact ho
        obtain ⟨A, c, h1, h2, h4, h5⟩ := owns_sl ho'
        refine ⟨.s cs, hK, rfl, A, c, h1, h2, h5, fun k hk => ?_⟩
        replace hk := blkC_A hk
        have hlt := MEok.blk_lt (pv := pvOf vals) (w0 := w0) (e := .row v' e cs) ⟨ho, h3⟩ k (by
          subst h1
          cases A with
          | none => cases hk
          | some a => exact hk)
        refine ⟨?_, hlt⟩
        rcases ho.2 with ⟨rfl, _⟩ | ⟨g, cap, cur, rfl, hg0, _⟩
        · injection h1 with h1 _ _; subst h1; cases hk
        · injection h1 with h1 _ _; subst h1; injection hk with hk; subst hk; exact hg0
      | _ => exact h.elim
  | nils =>
    simp only [resV1] at h
    refine ⟨_, h, rfl, none, 0, ?_, ?_, ?_, fun k hk => by cases hk⟩
    · have : ((zOf tt t).part 0 0).len = 0 := by rw [Cells.part_len]; omega
      rw [this]; rfl
    · rw [Cells.part_len]; omega
    · have : ((zOf tt t).part 0 0).vals = [] := by rw [Cells.vals_part]; simp
      rw [this]; exact Sl.nil W none
  | bad => exact absurd h.1 (by simp [AV.plain])
  | raw v => exact absurd h.1 (by simp [AV.plain])
  | _ => exact ⟨.v _, h.2, rfl, rfl, rfl⟩
/-- One result, out of the frame. -/
def Res1 (P : Program) (tmps : Array Value) (W : World) (r : ResultVar) (V : Value) : Prop :=
  match r with
  | .tmp d => V = tmps.getD d undef
  | .cell p ty => ∃ ad, tmps.getD p undef = .pointer (some ad) ∧ (loadVar ty ad).run P W = .ok V W
theorem resVC_ok (hTT : TTok P tt) {env : Env} {mem : Mem} {r : ResultVar} {t : TypeId} {K : CR1 → Prop} {vals : List Value} {W : World} {a : Act} (hE : ERel ds env a N) (hM : MRel (pvOf vals) w0 mem W) (h : resVC tt env mem r t K) :
    ∃ x V, K x ∧ resOk1 vals w0 W x V ∧ Res1 P a.tmps W r V := by
  cases r with
  | tmp d =>
    obtain ⟨x, hK, hg, hr⟩ := resV1_ok (tt := tt) hM h
    exact ⟨x, _, hK, hr, (ev_is hE (x := .tmp d) rfl hg).symm⟩
  | cell p ty =>
    simp only [resVC] at h
    cases ht : tt ty with
    | none => simp [ht] at h
    | some i =>
      simp only [ht] at h
      have hg : (ev env (.tmp p)).good = true := by
        cases hx : ev env (.tmp p) <;> first | rfl | (rw [hx] at h; exact h.elim)
      obtain ⟨u, h1, h2, h3⟩ := load_ok (P := P) (pv := pvOf vals) (w0 := w0) hTT ht h
      obtain ⟨x, hK, _, hr⟩ := resV1_ok (tt := tt) hM h2
      refine ⟨x, _, hK, hr, ?_⟩
      have := h3 W hM
      have he : a.tmps.getD p undef = (ev env (.tmp p)).conc := ev_is hE (x := .tmp p) rfl hg
      rw [← he] at this
      unfold Instr.loadAt Instr.sureAddr at this
      unfold Res1
      cases hq : a.tmps.getD p undef with
      | pointer A =>
        rw [hq] at this
        cases A with
        | none => simp [stuck, Sem.run] at this
        | some ad => exact ⟨ad, hq, by simpa using this⟩
      | _ => rw [hq] at this; simp [stuck, Sem.run] at this
theorem ressVC_ok (hTT : TTok P tt) {env : Env} {mem : Mem} {vals : List Value} {W : World} {a : Act} (hE : ERel ds env a N) (hM : MRel (pvOf vals) w0 mem W) : ∀ (rs : List ResultVar) (ts : List TypeId) (K : List CR1 → Prop), ressVC tt env mem rs ts K →
    ∃ xs Vs, K xs ∧ ressOk vals w0 W xs Vs ∧ Vs.length = rs.length ∧ ∀ (j : Nat) (r : ResultVar) (V : Value), rs[j]? = some r → Vs[j]? = some V → Res1 P a.tmps W r V
  | [], [], K, h => ⟨[], [], h, trivial, rfl, fun j r V h => by simp at h⟩
  | [], _ :: _, K, h => h.elim
  | _ :: _, [], K, h => h.elim
  | r :: rs, t :: ts, K, h => by
    obtain ⟨x, V, h, h1, h2⟩ := resVC_ok (P := P) hTT hE hM h
    obtain ⟨xs, Vs, h, h3, h4, h5⟩ := ressVC_ok hTT hE hM rs ts _ h
    refine ⟨x :: xs, V :: Vs, h, ⟨h1, h3⟩, by simp [h4], fun j r' V' hr hV => ?_⟩
    cases j with
    | zero => simp at hr hV; subst hr; subst hV; exact h2
    | succ j => exact h5 j r' V' (by simpa using hr) (by simpa using hV)
/-- A function's results, out of its frame. -/
theorem results_run {fn : Func} {tmps : Array Value} {W : World} {rs : List ResultVar} (h : fn.results = rs.toArray) {Vs : List Value} (hl : Vs.length = rs.length)
    (hv : ∀ (j : Nat) (r : ResultVar) (V : Value), rs[j]? = some r → Vs[j]? = some V → Res1 P tmps W r V) :
    (results fn tmps).run P W = .ok (match Vs with | [v] => v | vs => .tuple vs.toArray) W := by
  have key : ∀ (rs : List ResultVar) (Vs : List Value), Vs.length = rs.length → (∀ (j : Nat) (r : ResultVar) (V : Value), rs[j]? = some r → Vs[j]? = some V → Res1 P tmps W r V) →
      (rs.mapM fun r => (match r with | .tmp t => pure (tmps.getD t undef) | .cell a t => do loadVar t (← asAddr (tmps.getD a undef)) : Sem Value)).run P W = .ok Vs W := by
    intro rs
    induction rs with
    | nil => intro Vs hl _; obtain rfl := List.eq_nil_of_length_eq_zero hl; rfl
    | cons r rs ih =>
      intro Vs hl hv
      match Vs, hl with
      | V :: Vs, hl =>
        have h1 := hv 0 r V rfl rfl
        have h2 := ih Vs (by simpa using hl) fun j r' V' hr hV => hv (j + 1) r' V' (by simpa using hr) (by simpa using hV)
        rw [List.mapM_cons]
        cases r with
        | tmp d =>
          simp only [Res1] at h1
          simp only [Sem.run_bind, Sem.run_pure, Result.andThen_ok, h2, h1]
        | cell p ty =>
          obtain ⟨ad, ha, hr⟩ := h1
          have hq : (asAddr (tmps.getD p undef)).run P W = .ok ad W := by rw [ha]; rfl
          simp only [Sem.run_bind, hq, Sem.run_pure, Result.andThen_ok, hr, h2]
  have hk := key rs Vs hl hv
  unfold results
  rw [h, Array.mapM_eq_mapM_toList]
  simp only [map_eq_pure_bind, bind_assoc, pure_bind, Sem.run_bind]
  refine (congrArg (fun r => Result.andThen r _) hk).trans ?_
  simp only [Result.andThen_ok, Sem.run_pure]
  match Vs with
  | [] => rfl
  | [v] => rfl
  | v :: u :: r => simp
theorem entry_ok {vals0 : List Value} {K : Env → Mem → Nat → Prop} {W : World} : ∀ (cas : List CA) (vals : List Value) (i : Nat) (env : Env) (mem : Mem) (a : Act), entryVC cas i env mem K → argsOk W cas vals → (∀ u ∈ vals, u ∈ vals0) → ERel ds env a N → MRel (pvOf vals0) W mem W →
    (∀ l e, getA mem l = some e → e.mine = false) → (∀ j v, vals[j]? = some v → a.tmps.getD (i + j) undef = v) → ∃ env mem nx, ERel ds env a N ∧ MRel (pvOf vals0) W mem W ∧ K env mem nx
  | [], [], i, env, mem, a, h, _, _, hE, hM, _, _ => ⟨env, mem, i, hE, hM, h⟩
  | [], _ :: _, _, _, _, _, _, ha, _, _, _, _, _ => ha.elim
  | _ :: _, [], _, _, _, _, _, ha, _, _, _, _, _ => ha.elim
  | .v x :: cas, V :: vals, i, env, mem, a, h, ha, hsub, hE, hM, hro, hg => by
    have hV := hg 0 V rfl
    refine entry_ok cas vals (i + 1) _ mem a h ha.2 (fun u hu => hsub u (List.mem_cons_of_mem _ hu)) (hE.alias i x (.inr (by rw [Nat.add_zero] at hV; rw [hV]; exact ha.1.2))) hM hro fun j v hj => ?_
    have := hg (j + 1) v (by simpa using hj)
    rwa [show i + 1 + j = i + (j + 1) by omega]
  | .s cs :: cas, V :: vals, i, env, mem, a, h, ha, hsub, hE, hM, hro, hg => by
    obtain ⟨⟨A, c, rfl, hlc, hs, hk⟩, ha2⟩ := ha
    have hV := hg 0 _ rfl
    refine entry_ok cas vals (i + 1) _ ((i, .ro A c cs) :: mem) a (h A c hlc) ha2 (fun u hu => hsub u (List.mem_cons_of_mem _ hu)) (hE.alias i (.ros i A cs.len c) (.inr (by rw [Nat.add_zero] at hV; rw [hV]; rfl)))
      (hM.add i (.ro A c cs) ⟨hs, hlc, fun k hk2 => ⟨hk k (blkC_dn hlc hk2), .inr ⟨_, hsub _ (List.mem_cons_self ..), ?_⟩⟩⟩ fun l' e' he' hm => ?_) (fun l e he => ?_) fun j v hj => ?_
    · exact blkC_dn hlc hk2
    · rcases hm with hm | hm
      · cases hm
      · rw [hro l' e' he'] at hm; cases hm
    · simp only [getA] at he
      split at he
      · injection he with he; subst he; rfl
      · exact hro l e he
    · have := hg (j + 1) v (by simpa using hj)
      rwa [show i + 1 + j = i + (j + 1) by omega]
  | .p cs :: cas, V :: vals, i, env, mem, a, h, ha, hsub, hE, hM, hro, hg => by
    obtain ⟨⟨ad, rfl, hpos, hs, hk⟩, ha2⟩ := ha
    have hV := hg 0 _ rfl
    refine entry_ok cas vals (i + 1) _ ((i, .ro (some ad) cs.len cs) :: mem) a (h hpos (some ad) cs.len) ha2 (fun u hu => hsub u (List.mem_cons_of_mem _ hu)) (hE.alias i (.rptr i (some ad) 0) (.inr (by rw [Nat.add_zero] at hV; rw [hV]; simp [AV.conc, Addr.add])))
      (hM.add i (.ro (some ad) cs.len cs) ⟨hs, Nat.le_refl _, fun k hk2 => ⟨(by injection (blkC_A hk2) with hk2; rw [← hk2]; exact hk), .inr ⟨_, hsub _ (List.mem_cons_self ..), ?_⟩⟩⟩ fun l' e' he' hm => ?_) (fun l e he => ?_) fun j v hj => ?_
    · exact blkC_A hk2
    · rcases hm with hm | hm
      · cases hm
      · rw [hro l' e' he'] at hm; cases hm
    · simp only [getA] at he
      split at he
      · injection he with he; subst he; rfl
      · exact hro l e he
    · have := hg (j + 1) v (by simpa using hj)
      rwa [show i + 1 + j = i + (j + 1) by omega]
theorem ret_ok (hTT : TTok P tt) {fn : Func} {rs : List ResultVar} (hr : fn.results = rs.toArray) {ts : List TypeId} {env : Env} {mem : Mem} {vals : List Value} {W : World} {a : Act} {K : CR → Prop} (hE : ERel ds env a N) (hM : MRel (pvOf vals) w0 mem W) (h : retR tt rs ts env mem K) :
    ∃ v, (results fn a.tmps).run P W = .ok v W ∧ ∃ r, resOk vals w0 W r v ∧ K r := by
  match rs, hr, h with
  | [r], hr, h =>
    match ts, h with
    | [t], h =>
      obtain ⟨x, V, hK, h1, h2⟩ := resVC_ok (P := P) hTT hE hM h
      have := results_run (P := P) (fn := fn) (tmps := a.tmps) (W := W) hr (Vs := [V]) rfl (fun j r' V' hr' hV' => by
        cases j with
        | zero => simp at hr' hV'; subst hr'; subst hV'; exact h2
        | succ j => simp at hr')
      exact ⟨V, this, .one x, h1, hK⟩
    | [], h => exact h.elim
    | _ :: _ :: _, h => exact h.elim
  | [], hr, h =>
    obtain ⟨xs, Vs, hK, h1, h2, h3⟩ := ressVC_ok (P := P) hTT hE hM [] ts _ h
    obtain rfl := List.eq_nil_of_length_eq_zero h2
    exact ⟨.tuple #[], results_run (P := P) (fn := fn) (tmps := a.tmps) (W := W) hr (Vs := []) rfl h3, .tup xs, ⟨[], rfl, h1⟩, hK⟩
  | r1 :: r2 :: rs, hr, h =>
    obtain ⟨xs, Vs, hK, h1, h2, h3⟩ := ressVC_ok (P := P) hTT hE hM (r1 :: r2 :: rs) ts _ h
    match Vs, h1, h2, h3 with
    | v :: u :: r, h1, h2, h3 => exact ⟨_, results_run (P := P) (fn := fn) (tmps := a.tmps) (W := W) hr h2 h3, .tup xs, ⟨v :: u :: r, rfl, h1⟩, hK⟩
/-- A function's contract, out of what is owed for its body. -/
theorem sound_vc (hTT : TTok P tt) (hCT : CTok P ct) (hmix : P.follows .mixedOrders = true) {F : FuncId} {fn : Func} {code : Code} (hf : P.funcs[F]? = some fn) (hb : fn.body = some code) (hn : (fn.name == "runtime.NumGoroutine") = false) {rs : List ResultVar} (hr : fn.results = rs.toArray) {ts : List TypeId} {C : CT} {k : Nat}
    (h : ∀ cas K, C cas K → cas.length ≤ fn.ntmps ∧ entryVC cas 0 [] [] fun env mem nx => vcCode tt ct fn.ntmps code env mem nx (retVC tt rs ts K)) : Sound P F C := by
  intro cas K W vals ha hC
  obtain ⟨hlen, h⟩ := h cas K hC
  refine ⟨⟨fn, hf, hn, by rw [hb]; rfl⟩, calls_of_wp hf hb ?_⟩
  have hvl : vals.length = cas.length := by
    have : ∀ (cas : List CA) (vals : List Value), argsOk W cas vals → vals.length = cas.length := by
      intro cas
      induction cas with
      | nil => intro vals h; cases vals with
        | nil => rfl
        | cons _ _ => exact h.elim
      | cons c cs ih => intro vals h; cases vals with
        | nil => exact h.elim
        | cons v vs => simp [ih vs h.2]
    exact this cas vals ha
  have hsz : (vals.toArray ++ Array.replicate (fn.ntmps - vals.toArray.size) undef).size = fn.ntmps := by simp; omega
  obtain ⟨env, mem, nx, hE, hM, h⟩ := entry_ok (N := fn.ntmps) (vals0 := vals) (W := W) cas vals 0 [] [] { tmps := vals.toArray ++ Array.replicate (fn.ntmps - vals.toArray.size) undef, defers := [] } h ha (fun _ h => h)
    ⟨hsz, rfl, fun _ _ h => by cases h⟩ (MRel.fresh _ W) (fun _ _ h => by cases h) (fun j v hj => by
      have hjl : j < vals.length := (List.getElem?_eq_some_iff.1 hj).1
      have hv : vals[j] = v := (List.getElem?_eq_some_iff.1 hj).2
      have : j < (vals.toArray ++ Array.replicate (fn.ntmps - vals.toArray.size) undef).size := by rw [hsz]; omega
      simp only [Nat.zero_add, Array.getD, this, dif_pos]
      rw [Array.getInternal_eq_getElem, Array.getElem_append_left (by simpa using hjl)]
      simpa using hv)
  refine Code.wp_mono (fun e a W' hq => ?_) (code_ok hTT hCT hmix code env mem nx _ _ W h hE hM)
  obtain ⟨ex, env1, mem1, nx1, rfl, hE1, hM1, hK⟩ := hq
  have fin : retR tt rs ts env1 mem1 K → ∃ v, (results fn a.tmps).run P W' = .ok v W' ∧ ∃ r V, Ending.returned v = .returned V ∧ resOk vals W W' r V ∧ Below W.heap.size W W' ∧ K r := fun hK => by
    obtain ⟨v, h1, r, h2, h3⟩ := ret_ok (P := P) hTT hr hE1 hM1 hK
    exact ⟨v, h1, r, v, rfl, h2, hM1.below, h3⟩
  cases ex with
  | normal => obtain ⟨v, h1, h2⟩ := fin hK; exact ⟨hE1.defers, v, h1, h2⟩
  | exit id => exact hK.elim
  | ret => obtain ⟨v, h1, h2⟩ := fin hK; exact ⟨hE1.defers, v, h1, h2⟩
/-- Slots that hold what came in. -/
def envOf : List AV → Nat → Env
  | [], _ => []
  | v :: r, i => (i, v) :: envOf r (i + 1)
theorem envOf_get : ∀ (args : List AV) (i d : Nat) (v : AV), getA (envOf args i) d = some v → i ≤ d ∧ args[d - i]? = some v
  | [], _, _, _, h => by cases h
  | u :: r, i, d, v, h => by
    simp only [envOf, getA] at h
    split at h
    · rename_i hd; subst hd; injection h with h; subst h; exact ⟨Nat.le_refl _, by simp⟩
    · obtain ⟨h1, h2⟩ := envOf_get r (i + 1) d v h
      refine ⟨by omega, ?_⟩
      rw [show d - i = (d - (i + 1)) + 1 by omega]
      simpa using h2
def memR (rs : List ResultVar) (K : KO) (env : Env) (mem : Mem) (nx : Nat) : Prop :=
  match rs with
  | [] => K (.tup []) mem nx
  | [.tmp d] => (ev env (.tmp d)).good = true ∧ K (ev env (.tmp d)) mem nx
  | _ => False
def memK (rs : List ResultVar) (K : KO) : KE := fun e env mem nx =>
  match e with
  | .exit _ => False
  | _ => memR rs K env mem nx
theorem memK_ok {fn : Func} {rs : List ResultVar} (hr : fn.results = rs.toArray) {K : KO} {ex : Ex} {env : Env} {mem : Mem} {nx : Nat} {a : Act} {W : World} (hE : ERel ds env a N) (he : ∀ id, ex ≠ .exit id) (h0 : memK rs K ex env mem nx) :
    ∃ v : AV, (results fn a.tmps).run P W = .ok v.conc W ∧ v.good = true ∧ K v mem nx := by
  have h : memR rs K env mem nx := by
    cases ex with
    | exit id => exact absurd rfl (he id)
    | normal => exact h0
    | ret => exact h0
  clear h0
  unfold memR at h
  split at h
  · exact ⟨.tup [], results_run (P := P) (fn := fn) (tmps := a.tmps) (W := W) hr (Vs := []) rfl (fun j r' V' hr' => by simp at hr'), rfl, h⟩
  · rename_i d
    refine ⟨_, results_run (P := P) (fn := fn) (tmps := a.tmps) (W := W) hr (Vs := [(ev env (.tmp d)).conc]) rfl (fun j r' V' hr' hV' => ?_), h.1, h.2⟩
    cases j with
    | zero => simp at hr' hV'; subst hr'; subst hV'; exact (ev_is hE (x := .tmp d) rfl h.1).symm
    | succ j => simp at hr'
  · exact h.elim
/-- A contract of a function that writes into what it is handed, out of what is owed for its body. -/
theorem msound_vc (hTT : TTok P tt) (hCT : CTok P ct) (hmix : P.follows .mixedOrders = true) {F : FuncId} {fn : Func} {code : Code} (hf : P.funcs[F]? = some fn) (hb : fn.body = some code) (hn : (fn.name == "runtime.NumGoroutine") = false) {rs : List ResultVar} (hr : fn.results = rs.toArray) {c : MT}
    (h : ∀ args mem nx K, c args mem nx K → (args.all AV.good = true ∧ args.length ≤ fn.ntmps) ∧ vcCode tt ct fn.ntmps code (envOf args 0) mem nx (memK rs K)) : MSound P F c := by
  intro pv w0 W args mem nx K hc hM
  obtain ⟨⟨hg, hlen⟩, h⟩ := h args mem nx K hc
  refine ⟨List.all_eq_true.1 hg, ⟨fn, hf, hn, by rw [hb]; rfl⟩, calls_of_wp hf hb ?_⟩
  have hvl : (args.map AV.conc).length = args.length := by simp
  have hsz : ((args.map AV.conc).toArray ++ Array.replicate (fn.ntmps - (args.map AV.conc).toArray.size) undef).size = fn.ntmps := by simp; omega
  have hE : ERel [] (envOf args 0) { tmps := (args.map AV.conc).toArray ++ Array.replicate (fn.ntmps - (args.map AV.conc).toArray.size) undef, defers := [] } fn.ntmps := by
    refine ⟨hsz, rfl, fun d v hd => ?_⟩
    obtain ⟨_, hv⟩ := envOf_get args 0 d v hd
    rw [Nat.sub_zero] at hv
    have hjl : d < args.length := (List.getElem?_eq_some_iff.1 hv).1
    have hve : args[d] = v := (List.getElem?_eq_some_iff.1 hv).2
    right
    have hd2 : d < ((args.map AV.conc).toArray ++ Array.replicate (fn.ntmps - (args.map AV.conc).toArray.size) undef).size := by rw [hsz]; omega
    simp only [Array.getD, hd2, dif_pos]
    rw [Array.getInternal_eq_getElem, Array.getElem_append_left (by simpa using hjl)]
    simp [hve]
  refine Code.wp_mono (fun e a W' hq => ?_) (code_ok hTT hCT hmix code (envOf args 0) mem nx _ _ W h hE hM)
  obtain ⟨ex, env1, mem1, nx1, rfl, hE1, hM1, hK⟩ := hq
  cases ex with
  | normal => obtain ⟨v, h1, h2, h3⟩ := memK_ok (P := P) (W := W') hr hE1 (fun _ e => by cases e) hK; exact ⟨hE1.defers, _, h1, v, mem1, nx1, rfl, h2, hM1, h3⟩
  | exit id => exact hK.elim
  | ret => obtain ⟨v, h1, h2, h3⟩ := memK_ok (P := P) (W := W') hr hE1 (fun _ e => by cases e) hK; exact ⟨hE1.defers, _, h1, v, mem1, nx1, rfl, h2, hM1, h3⟩
theorem run_extern {F : FuncId} {fn : Func} {e : Array Value → Sem Value} (hf : P.funcs[F]? = some fn) (hname : (fn.name == "runtime.NumGoroutine") = false) (hb : fn.body.isNone = true) (hn : Extern.findNext fn = none) (he : Extern.find fn = some e) (args : Array Value) (W : World) {v : Value} (hr : (e args).run P W = .ok v W) :
    (callFunc F args).run P W = .ok (.value v) W := by
  unfold callFunc
  simp only [Sem.run_bind, run_program, Result.andThen_ok, hf, hname, Bool.false_eq_true, if_false, hb, if_true, mark, Sem.run, hn, he, Sem.run_pure, hr]
end
theorem three_run {P : Program} (name : String) (x y c : Nat) (hc : c ≤ 1) (W : World) : (Extern.MathBitsCarry.three name #[.int .u64 x, .int .u64 y, .int .u64 c]).run P W = .ok (x, y, c) W := by
  have e : Extern.MathBitsCarry.three name #[.int .u64 x, .int .u64 y, .int .u64 c] = (do
    let c := (← asInt (.int .u64 c)).toNat
    if c > 1 then unsupported (.noEntry ("extern/math/bits." ++ name ++ ": a carry that is neither 0 nor 1"))
    pure ((← asInt (.int .u64 x)).toNat, (← asInt (.int .u64 y)).toNat, c)) := rfl
  rw [e]
  simp [asInt, asIntOf]
  omega
/-- A carry as it comes in: 0 or 1. -/
def xAdd64 : XF := fun vs K => match vs with
  | [.u64 x, .u64 y, .u64 c] => c.toNat ≤ 1 ∧ K (.tup [.u64 (x + y + c), .u64 (BitVec.ofNat 64 ((x.toNat + y.toNat + c.toNat) / 2 ^ 64))])
  | _ => False
def xSub64 : XF := fun vs K => match vs with
  | [.u64 x, .u64 y, .u64 c] => c.toNat ≤ 1 ∧ K (.tup [.u64 (x - y - c), .u64 (if x.toNat < y.toNat + c.toNat then 1 else 0)])
  | _ => False
theorem xAdd64_ok {P : Program} {F : FuncId} {fn : Func} (hf : P.funcs[F]? = some fn) (hname : (fn.name == "runtime.NumGoroutine") = false) (hb : fn.body.isNone = true) (hn : Extern.findNext fn = none)
    (he : Extern.find fn = some (fun args => do
      let (x, y, c) ← Extern.MathBitsCarry.three "Add64" args
      pure (Extern.MathBitsCarry.pair ((x + y + c) % Extern.MathBitsCarry.m64) ((x + y + c) / Extern.MathBitsCarry.m64)))) : XSound P F xAdd64 := by
  intro vs K h
  unfold xAdd64 at h
  split at h
  · rename_i x y c
    refine ⟨_, rfl, h.2, fun u hu => ?_, fun W => run_extern hf hname hb hn he _ W ?_⟩
    · simp only [List.mem_cons, List.not_mem_nil, or_false] at hu
      rcases hu with rfl | rfl | rfl <;> rfl
    · have h3 : (Extern.MathBitsCarry.three "Add64" (List.map AV.conc [.u64 x, .u64 y, .u64 c]).toArray).run P W = .ok (x.toNat, y.toNat, c.toNat) W := three_run "Add64" _ _ _ h.1 W
      simp only [Sem.run_bind, h3, Result.andThen_ok, Sem.run_pure, Extern.MathBitsCarry.pair, Extern.MathBitsCarry.m64, AV.conc, AV.concs, i64]
      have h1 := x.isLt
      have h2 := y.isLt
      have e1 : (x + y + c).toNat = (x.toNat + y.toNat + c.toNat) % 2 ^ 64 := by simp [BitVec.toNat_add]
      have e2 : (BitVec.ofNat 64 ((x.toNat + y.toNat + c.toNat) / 2 ^ 64)).toNat = (x.toNat + y.toNat + c.toNat) / 2 ^ 64 := by
        rw [BitVec.toNat_ofNat]; omega
      rw [e1, e2]; rfl
  · exact h.elim
theorem xSub64_ok {P : Program} {F : FuncId} {fn : Func} (hf : P.funcs[F]? = some fn) (hname : (fn.name == "runtime.NumGoroutine") = false) (hb : fn.body.isNone = true) (hn : Extern.findNext fn = none)
    (he : Extern.find fn = some (fun args => do
      let (x, y, b) ← Extern.MathBitsCarry.three "Sub64" args
      pure (Extern.MathBitsCarry.pair ((x + Extern.MathBitsCarry.m64 - y - b) % Extern.MathBitsCarry.m64) (if x < y + b then 1 else 0)))) : XSound P F xSub64 := by
  intro vs K h
  unfold xSub64 at h
  split at h
  · rename_i x y c
    refine ⟨_, rfl, h.2, fun u hu => ?_, fun W => run_extern hf hname hb hn he _ W ?_⟩
    · simp only [List.mem_cons, List.not_mem_nil, or_false] at hu
      rcases hu with rfl | rfl | rfl <;> rfl
    · have h3 : (Extern.MathBitsCarry.three "Sub64" (List.map AV.conc [.u64 x, .u64 y, .u64 c]).toArray).run P W = .ok (x.toNat, y.toNat, c.toNat) W := three_run "Sub64" _ _ _ h.1 W
      simp only [Sem.run_bind, h3, Result.andThen_ok, Sem.run_pure, Extern.MathBitsCarry.pair, Extern.MathBitsCarry.m64, AV.conc, AV.concs, i64]
      have h1 := x.isLt
      have h2 := y.isLt
      have h4 := h.1
      have e1 : (x - y - c).toNat = (x.toNat + 2 ^ 64 - y.toNat - c.toNat) % 2 ^ 64 := by simp only [BitVec.toNat_sub]; omega
      rw [e1]
      by_cases hlt : x.toNat < y.toNat + c.toNat
      · rw [if_pos hlt, if_pos hlt]; rfl
      · rw [if_neg hlt, if_neg hlt]; rfl
  · exact h.elim
/-! The words of 'vcCode', closed where code goes on. -/
section
variable (tt : TT) (ct : CTab) (N : Nat)
def SeqC (b : Code) (K : KE) : KE := seqK (vcCode tt ct N b) K
def LoopC (b : Code) (env : Env) (mem : Mem) (nx : Nat) (K : KE) : Prop := LoopVC (vcCode tt ct N b) env mem nx K
def DrawC (ops : Array Oper) (env : Env) (mem : Mem) (nx : Nat) (K : KE) : Prop := DrawVC tt ct N ops env mem nx K
/-- What comes behind an operation. -/
def LW (ops : Array Oper) (rest : List Oper) (dst : Option Tmp) (env : Env) (K : KE) (v : AV) (mem : Mem) (nx : Nat) : Prop := vcList tt ct N ops rest (putE dst v env) mem nx K
theorem lw_eq (ops : Array Oper) (rest : List Oper) (dst : Option Tmp) (env : Env) (K : KE) (v : AV) (mem : Mem) (nx : Nat) : LW tt ct N ops rest dst env K v mem nx = vcList tt ct N ops rest (putE dst v env) mem nx K := rfl
theorem vcl_nil (ops : Array Oper) (env : Env) (mem : Mem) (nx : Nat) (K : KE) : vcList tt ct N ops [] env mem nx K = K .normal env mem nx := rfl
theorem vcl_cons (ops : Array Oper) (o : Oper) (rest : List Oper) (env : Env) (mem : Mem) (nx : Nat) (K : KE) : vcList tt ct N ops (o :: rest) env mem nx K = (dstB N o.dst = true ∧ guardVC ops o.guard env (fun env => listVC tt ct env mem nx o.op (LW tt ct N ops rest o.dst env K)) (fun env => vcList tt ct N ops rest (putE o.dst (.tup []) env) mem nx K)) := rfl
def PT (F : Mem) (ops : Array Oper) (r : List (PK × Nat)) (dst : Option Tmp) (env : Env) (mem : Mem) (K : Env → Mem → Nat → Prop) (v : AV) (m : Mem) (nx : Nat) : Prop := extE m mem ∧ planVC tt ct N F ops r (putE dst v env) m nx K
theorem pt_eq (F : Mem) (ops : Array Oper) (r : List (PK × Nat)) (dst : Option Tmp) (env : Env) (mem : Mem) (K : Env → Mem → Nat → Prop) (v : AV) (m : Mem) (nx : Nat) : PT tt ct N F ops r dst env mem K v m nx = (extE m mem ∧ planVC tt ct N F ops r (putE dst v env) m nx K) := rfl
def PZ (F : Mem) (ops : Array Oper) (r : List (PK × Nat)) (dst : Option Tmp) (env : Env) (mem : Mem) (nx : Nat) (K : Env → Mem → Nat → Prop) (v : AV) (m : Mem) (n : Nat) : Prop := planVC tt ct N F ops r (putE dst v env) mem nx K
theorem pz_eq (F : Mem) (ops : Array Oper) (r : List (PK × Nat)) (dst : Option Tmp) (env : Env) (mem : Mem) (nx : Nat) (K : Env → Mem → Nat → Prop) (v : AV) (m : Mem) (n : Nat) : PZ tt ct N F ops r dst env mem nx K v m n = planVC tt ct N F ops r (putE dst v env) mem nx K := rfl
def PL (F : Mem) (ops : Array Oper) (op : Op) (r : List (PK × Nat)) (dst : Option Tmp) (env : Env) (mem : Mem) (K : Env → Mem → Nat → Prop) (v : AV) (m : Mem) (nx : Nat) : Prop := (if quietOp op then extE m mem else leA m F) ∧ planVC tt ct N F ops r (putE dst v env) m nx K
theorem pl_eq (F : Mem) (ops : Array Oper) (op : Op) (r : List (PK × Nat)) (dst : Option Tmp) (env : Env) (mem : Mem) (K : Env → Mem → Nat → Prop) (v : AV) (m : Mem) (nx : Nat) : PL tt ct N F ops op r dst env mem K v m nx = ((if quietOp op then extE m mem else leA m F) ∧ planVC tt ct N F ops r (putE dst v env) m nx K) := rfl
def PM (F : Mem) (ops : Array Oper) (r : List (PK × Nat)) (dst : Option Tmp) (env : Env) (K : Env → Mem → Nat → Prop) (v : AV) (m : Mem) (nx : Nat) : Prop := leA m F ∧ planVC tt ct N F ops r (putE dst v env) m nx K
theorem pm_eq (F : Mem) (ops : Array Oper) (r : List (PK × Nat)) (dst : Option Tmp) (env : Env) (K : Env → Mem → Nat → Prop) (v : AV) (m : Mem) (nx : Nat) : PM tt ct N F ops r dst env K v m nx = (leA m F ∧ planVC tt ct N F ops r (putE dst v env) m nx K) := rfl
section
variable (F : Mem) (ops : Array Oper) (i : Nat) (r : List (PK × Nat)) (env : Env) (mem : Mem) (nx : Nat) (K : Env → Mem → Nat → Prop)
theorem plv_nil : planVC tt ct N F ops [] env mem nx K = K env mem nx := rfl
theorem plv_tk : planVC tt ct N F ops ((.tk, i) :: r) env mem nx K = (match ops[i]? with
    | some o => dstB N o.dst = true ∧ guardVC ops o.guard env (fun env => pureVC tt env mem nx o.op (PT tt ct N F ops r o.dst env mem K)) (fun env => planVC tt ct N F ops r (putE o.dst (.tup []) env) mem nx K)
    | none => False) := rfl
theorem plv_fz : planVC tt ct N F ops ((.fz, i) :: r) env mem nx K = (match ops[i]? with
    | some o => dstB N o.dst = true ∧ guardVC ops o.guard env (fun env => pureVC tt env F nx o.op (PZ tt ct N F ops r o.dst env mem nx K)) (fun env => planVC tt ct N F ops r (putE o.dst (.tup []) env) mem nx K)
    | none => False) := rfl
theorem plv_ld : planVC tt ct N F ops ((.ld, i) :: r) env mem nx K = (match ops[i]? with
    | some o => dstB N o.dst = true ∧ guardVC ops o.guard env (fun env => opVC tt ct env mem nx o.op (PL tt ct N F ops o.op r o.dst env mem K)) (fun env => planVC tt ct N F ops r (putE o.dst (.tup []) env) mem nx K)
    | none => False) := rfl
theorem plv_lm : planVC tt ct N F ops ((.lm, i) :: r) env mem nx K = (match ops[i]? with
    | some o => dstB N o.dst = true ∧ guardVC ops o.guard env (fun env => memVC ct env mem nx o.op (PM tt ct N F ops r o.dst env K)) (fun env => planVC tt ct N F ops r (putE o.dst (.tup []) env) mem nx K)
    | none => False) := rfl
end
variable (env : Env) (mem : Mem) (nx : Nat) (K : KE)
theorem vc_skip : vcCode tt ct N .skip env mem nx K = K .normal env mem nx := rfl
theorem vc_draw (id : Nat) (ops : Array Oper) : vcCode tt ct N (.region id ops true) env mem nx K = DrawC tt ct N ops env mem nx K := rfl
theorem vc_list (id : Nat) (l : List Oper) : vcCode tt ct N (.region id l.toArray false) env mem nx K = vcList tt ct N l.toArray l env mem nx K := rfl
theorem vc_seq (a b : Code) : vcCode tt ct N (.seq a b) env mem nx K = vcCode tt ct N a env mem nx (SeqC tt ct N b K) := rfl
theorem vc_seqn (b : Code) : SeqC tt ct N b K .normal env mem nx = vcCode tt ct N b env mem nx K := rfl
theorem vc_seqe (b : Code) (id : Nat) : SeqC tt ct N b K (.exit id) env mem nx = K (.exit id) env mem nx := rfl
theorem vc_seqr (b : Code) : SeqC tt ct N b K .ret env mem nx = K .ret env mem nx := rfl
def condVC (v : AV) (x y : Code) (env : Env) (mem : Mem) (nx : Nat) (K : KE) : Prop :=
  match v with
  | .bool b => bothP b (vcCode tt ct N x env mem nx K) (vcCode tt ct N y env mem nx K)
  | _ => False
theorem vc_cond (c : Operand) (x y : Code) : vcCode tt ct N (.cond c x y) env mem nx K = condVC tt ct N (ev env c) x y env mem nx K := rfl
theorem vc_block (id : Nat) (b : Code) : vcCode tt ct N (.block id b) env mem nx K = vcCode tt ct N b env mem nx (blockK id K) := rfl
theorem vc_blockn (id : Nat) : blockK id K .normal env mem nx = K .normal env mem nx := rfl
theorem vc_blockr (id : Nat) : blockK id K .ret env mem nx = K .ret env mem nx := rfl
theorem vc_blocke (id id' : Nat) : blockK id K (.exit id') env mem nx = if id' = id then K .normal env mem nx else K (.exit id') env mem nx := rfl
theorem vc_loop (b : Code) : vcCode tt ct N (.loop b) env mem nx K = LoopC tt ct N b env mem nx K := rfl
theorem vc_exit (id : Nat) : vcCode tt ct N (.exit id) env mem nx K = K (.exit id) env mem nx := rfl
theorem vc_ret : vcCode tt ct N .ret env mem nx K = K .ret env mem nx := rfl
theorem vc_loopn {ι : Type} (I : ι → St) (μ : ι → Nat) (i : ι) : loopK I μ i K .normal env mem nx = ∃ j, μ j < μ i ∧ leS env mem (I j) := rfl
theorem vc_loope {ι : Type} (I : ι → St) (μ : ι → Nat) (i : ι) (id : Nat) : loopK I μ i K (.exit id) env mem nx = K (.exit id) env mem nx := rfl
theorem vc_loopr {ι : Type} (I : ι → St) (μ : ι → Nat) (i : ι) : loopK I μ i K .ret env mem nx = K .ret env mem nx := rfl
theorem loop_ {b : Code} {env : Env} {mem : Mem} {nx : Nat} {K : KE} {ι : Type} (I : ι → St) (μ : ι → Nat) (i : ι) (h0 : leS env mem (I i)) (h : ∀ i, vcCode tt ct N b (I i).env (I i).mem (I i).nx (loopK I μ i K)) : LoopC tt ct N b env mem nx K := .inl ⟨ι, I, μ, ⟨i, h0⟩, h⟩
theorem vc_jn {ι : Type} (I : ι → St) (μ : ι → Nat) (i : ι) : loopJ I μ i K .normal env mem nx = LeJ env mem I (fun j => μ j < μ i) := rfl
theorem vc_je {ι : Type} (I : ι → St) (μ : ι → Nat) (i : ι) (id : Nat) : loopJ I μ i K (.exit id) env mem nx = K (.exit id) env mem nx := rfl
theorem vc_jr {ι : Type} (I : ι → St) (μ : ι → Nat) (i : ι) : loopJ I μ i K .ret env mem nx = K .ret env mem nx := rfl
/-- Such of the places as are named. -/
def pickA {α : Type} (l : List (Nat × α)) : List Nat → List (Nat × α)
  | [] => []
  | d :: r => (match getA l d with
    | some v => (d, v) :: pickA l r
    | none => pickA l r)
/-- A state that a loop comes back to: what turns, and such of the rest as is named. -/
def stU (env : Env) (mem : Mem) (ks ls : List Nat) (nx : Nat) {ι : Type} (U : ι → Env) (M : ι → Mem) (s : ι) : St := ⟨U s ++ pickA env ks, M s ++ pickA mem ls, nx⟩
theorem stU_env (env : Env) (mem : Mem) (ks ls : List Nat) (nx : Nat) {ι : Type} (U : ι → Env) (M : ι → Mem) (s : ι) : (stU env mem ks ls nx U M s).env = U s ++ pickA env ks := rfl
theorem stU_mem (env : Env) (mem : Mem) (ks ls : List Nat) (nx : Nat) {ι : Type} (U : ι → Env) (M : ι → Mem) (s : ι) : (stU env mem ks ls nx U M s).mem = M s ++ pickA mem ls := rfl
theorem loopU {b : Code} {env : Env} {mem : Mem} {nx : Nat} {K : KE} (ks ls : List Nat) (nx' : Nat) {ι : Type} (U : ι → Env) (M : ι → Mem) (μ : ι → Nat)
    (h0 : LeJ env mem (stU env mem ks ls nx' U M) (fun _ => True)) (h : ∀ i, vcCode tt ct N b (U i ++ pickA env ks) (M i ++ pickA mem ls) nx' (loopJ (stU env mem ks ls nx' U M) μ i K)) : LoopC tt ct N b env mem nx K :=
  .inr ⟨ι, _, μ, h0, h⟩
theorem draw_ {ops : Array Oper} {env : Env} {mem : Mem} {nx : Nat} {K : KE} (plan : List (PK × Nat)) (flo ks : List Nat) (hB : drawB tt N ops plan flo = true)
    (h : planVC tt ct N (keepM ks mem) ops plan (delAll env ops flo) mem nx (K .normal)) : DrawC tt ct N ops env mem nx K := ⟨plan, flo, ks, [], hB, h⟩
theorem drawF_ {ops : Array Oper} {env : Env} {mem : Mem} {nx : Nat} {K : KE} (fs : List Nat) (plan : List (PK × Nat)) (flo ks : List Nat) (hB : drawB tt N ops plan flo = true)
    (h : planVC tt ct N (keepM ks (frzs mem fs)) ops plan (delAll env ops flo) (frzs mem fs) nx (K .normal)) : DrawC tt ct N ops env mem nx K := ⟨plan, flo, ks, fs, hB, h⟩
end
theorem keepM_nil (m : Mem) : keepM [] m = [] := by
  induction m with
  | nil => rfl
  | cons p r ih => obtain ⟨l, e⟩ := p; simp [keepM, ih]
theorem setA_setA {α : Type} (m : List (Nat × α)) (k : Nat) (e e' : α) : setA (setA m k e) k e' = setA m k e' := by
  induction m with
  | nil => rfl
  | cons p r ih =>
    obtain ⟨d, v⟩ := p
    simp only [setA]
    by_cases hd : d = k
    · subst hd; simp [setA]
    · simp [hd, setA, ih]
theorem setA_same {α : Type} {m : List (Nat × α)} {k : Nat} {e : α} (h : getA m k = some e) : setA m k e = m := by
  induction m with
  | nil => rfl
  | cons p r ih =>
    obtain ⟨d, v⟩ := p
    simp only [getA] at h
    simp only [setA]
    by_cases hd : d = k
    · subst hd; simp at h; subst h; simp
    · simp only [hd, if_false] at h ⊢; rw [ih h]
theorem getA_setA_self {α : Type} {m : List (Nat × α)} {k : Nat} {e e0 : α} (h : getA m k = some e0) : getA (setA m k e) k = some e := by rw [getA_setA, if_pos rfl, h]; rfl
theorem getA_setA_ne {α : Type} {m : List (Nat × α)} {k j : Nat} {e : α} (h : j ≠ k) : getA (setA m k e) j = getA m j := by rw [getA_setA, if_neg h]
section
variable {ι : Type} {env : Env} {mem : Mem} {I : ι → St} {p : ι → Prop}
/-- The memory just as it is. -/
theorem LeJ.same (j : ι) (hp : p j) (hm : mem = (I j).mem) (h : leA env (I j).env) : LeJ env mem I p := fun _ _ _ _ _ _ hE hM => ⟨j, hp, hE.less (leA_get _ h), by rw [← hm]; exact hM⟩
theorem LeJ.mk (j : ι) (hp : p j) (h : leS env mem (I j)) : LeJ env mem I p := fun _ _ _ _ _ _ hE hM => ⟨j, hp, leS_ok h hE hM⟩
/-- A place that is read, under another number. -/
theorem LeJ.rel (d n : Nat) {l m c c' : Nat} {A A' : Option Addr} {cs : Cells} (h1 : getA env d = some (.ros l A m c)) (h2 : getA mem l = some (.ro A' c' cs)) (h : LeJ ((d, .ros n A m c) :: env) ((n, .ro A' c' cs) :: mem) I p) : LeJ env mem I p := fun ds pv w0 W a N hE hM => by
  refine h ds pv w0 W a N ⟨hE.size, hE.defers, fun d' v hd => ?_⟩ (hM.add n _ (hM.ok l _ h2) fun l' e' he' hm k hk hk' => ?_)
  · simp only [getA] at hd
    split at hd
    · rename_i hdd; subst hdd; injection hd with hd; subst hd; exact .inr ((hE.get _ _ h1).resolve_left (by simp))
    · exact hE.get d' v hd
  · have hm' : e'.mine = true := hm.resolve_left (by simp [ME.mine])
    by_cases hl : l' = l
    · subst hl; rw [h2] at he'; injection he' with he'; subst he'; cases hm'
    · exact hM.sep l' e' l _ he' h2 hl hm' k hk' hk
/-- A row that grows, under another number. -/
theorem LeJ.relG (d n : Nat) {l m : Nat} {v v' : Value} {e : TypeId} {cs : Cells} (h1 : getA env d = some (.grow l v m)) (h2 : getA mem l = some (.row v' e cs)) (h : LeJ ((d, .grow n v m) :: env) ((n, .row v' e cs) :: delA mem l) I p) : LeJ env mem I p := fun ds pv w0 W a N hE hM => by
  refine h ds pv w0 W a N ⟨hE.size, hE.defers, fun d' v hd => ?_⟩ (hM.rename h2)
  simp only [getA] at hd
  split at hd
  · rename_i hdd; subst hdd; injection hd with hd; subst hd; exact .inr ((hE.get _ _ h1).resolve_left (by simp))
  · exact hE.get d' v hd
/-- A slice of a block of the call's own is a row that grows. -/
theorem LeJ.slc (d n : Nat) {l g len cap : Nat} {e : TypeId} {cs : Cells} (h1 : getA env d = some (.slc l g 0 len cap)) (h2 : getA mem l = some (.own g e cs)) (h3 : len ≤ cap ∧ cap = cs.len ∧ cap ≤ 9223372036854775807)
    (h : ∀ v, LeJ ((d, .grow n v len) :: env) ((n, .row v e (cs.part 0 len)) :: delA mem l) I p) : LeJ env mem I p := fun ds pv w0 W a N hE hM => by
  obtain ⟨hlc, rfl, hcap⟩ := h3
  obtain ⟨ow, hgb, hones⟩ := hM.ok l _ h2
  have hpv : (cs.part 0 len).vals.length = len := by rw [Cells.vals_length, Cells.part_len]; omega
  have hO : W.ownsRow w0.heap.size e 1 (.slice (some ⟨g, 0, none⟩) len cs.len) (cs.part 0 len).len (cs.part 0 len).vals := by
    have hpl : (cs.part 0 len).len = len := by rw [Cells.part_len]; omega
    refine ⟨by simp [Cells.vals_length], .inr ⟨g, cs.len, cs.vals.toArray, by rw [hpl], hgb, ow, by omega, by unfold maxLen; omega, by simp [Cells.vals_length], ?_⟩⟩
    rw [hpl, Cells.vals_part]; simp
  have h1o : (cs.part 0 len).ones = true := by
    exact Cells.part_ones _ _ _ hones
  refine h (.slice (some ⟨g, 0, none⟩) len cs.len) ds pv w0 W a N ⟨hE.size, hE.defers, fun d' v hd => ?_⟩ ?_
  · simp only [getA] at hd
    split at hd
    · rename_i hdd; subst hdd; injection hd with hd; subst hd; exact .inr ((hE.get _ _ h1).resolve_left (by simp))
    · exact hE.get d' v hd
  · have ht := hM.turn l _ (.row (.slice (some ⟨g, 0, none⟩) len cs.len) e (cs.part 0 len)) h2 hM.below ⟨hO, h1o⟩ (.inl fun _ h => h) (fun _ => rfl) rfl (Nat.le_refl _) (fun _ _ _ => rfl)
    have hr := ht.rename (l := l) (n := n) (by rw [getA_setA, if_pos rfl, h2]; rfl)
    exact hr.less fun k x hd => by
      simp only [getA] at hd ⊢
      split
      · rw [if_pos (by assumption)] at hd; exact hd
      · rw [if_neg (by assumption)] at hd
        rw [getA_delA] at hd ⊢
        split at hd
        · cases hd
        · rename_i hne; rw [if_neg hne, getA_setA, if_neg hne]; exact hd
theorem nil_ones (z : Cells) : (z.part 0 0).ones = true := by
  cases z <;> simp [Cells.part, Cells.ones]
/-- No row at all is one that grows. -/
theorem LeJ.nils (d n e : Nat) (z : Cells) (h1 : getA env d = some .nils) (h : ∀ v, LeJ ((d, .grow n v 0) :: env) ((n, .row v e (z.part 0 0)) :: mem) I p) : LeJ env mem I p := fun ds pv w0 W a N hE hM => by
  refine h (.slice none 0 0) ds pv w0 W a N ⟨hE.size, hE.defers, fun d' v hd => ?_⟩ (hM.add n _ ⟨?_, nil_ones z⟩ fun l' e' he' hm k hk hk' => by cases hk)
  · simp only [getA] at hd
    split at hd
    · rename_i hdd; subst hdd; injection hd with hd; subst hd; exact .inr ((hE.get _ _ h1).resolve_left (by simp))
    · exact hE.get d' v hd
  · have e1 : (z.part 0 0).len = 0 := by rw [Cells.part_len]; omega
    have e2 : (z.part 0 0).vals = [] := List.eq_nil_of_length_eq_zero (by rw [Cells.vals_length, e1])
    rw [e1, e2]
    exact World.ownsRow_nil W _ e 1
end
end Go.Proofs.Ytlcaobnojbkmbaa
/- From a contract to a walk: a law that hands back true; slices that come in. For any program. -/
namespace Go.Proofs.Ytlcaobnojbkmbaa
open Go Go.RowKit
theorem sound_true {P : Program} {F : FuncId} {C : CT} (h : Sound P F C) {cas : List CA} {vals : List Value} {W : World} (ha : argsOk W cas vals) (hC : C cas (fun r => r = .one (.v (.bool true)))) :
    Calls P F vals.toArray W fun e W' => e = .returned (.bool true) ∧ Below W.heap.size W W' := by
  obtain ⟨_, hc⟩ := h cas _ W vals ha hC
  refine hc.mono fun e W' ⟨r, V, he, hr, hb, hK⟩ => ?_
  subst hK
  obtain ⟨_, rfl⟩ := hr
  exact ⟨he, hb⟩
theorem sl_id {α : Type} {f : α → Value} {W : World} {A : Option Addr} {xs : List α} (h : Sl f W A xs) : Sl id W A (xs.map f) := by
  refine ⟨by simpa using h.1, fun i x hx => ?_⟩
  rw [List.getElem?_map] at hx
  obtain ⟨y, hy, rfl⟩ := Option.map_eq_some_iff.1 hx
  exact h.2 i y hy
theorem slice_blk {P : Program} {w : World} {r : Go.Reach} {b0 : Nat} {t e : TypeId} {A : Option Addr} {len cap : Nat} (ht : P.underlying t = some (.slice e)) (hval : Value.okWide P w r b0 t (.slice A len cap)) : ∀ k, blkA A = some k → k < w.heap.size := by
  intro k hk
  cases A with
  | none => cases hk
  | some a =>
    injection hk with hk
    subst hk
    simp only [Value.okWide, ht, Cell.okWide, Cell.ok] at hval
    obtain ⟨_, _, _, _, row, cells, hs, _⟩ := hval
    unfold World.shape? at hs
    cases hg : w.heap[a.block]? with
    | none => rw [hg] at hs; cases hs
    | some o => exact (Array.getElem?_eq_some_iff.1 hg).1
/-- A slice that comes in, as it is handed on. -/
theorem argOk_sl {P : Program} {w : World} {r : Go.Reach} {b0 : Nat} {t e : TypeId} {A : Option Addr} {cs : Cells} {cap : Nat} {α : Type} {f : α → Value} {xs : List α} (hv : cs.vals = xs.map f) (ht : P.underlying t = some (.slice e)) (hval : Value.okWide P w r b0 t (.slice A xs.length cap)) (hc : xs.length ≤ cap) (h : Sl f w A xs) :
    argOk w (.s cs) (.slice A xs.length cap) := by
  have hl : cs.len = xs.length := by rw [← Cells.vals_length, hv, List.length_map]
  exact ⟨A, cap, by rw [hl], by rw [hl]; exact hc, by rw [hv]; exact sl_id h, fun k hk => slice_blk ht hval k (blkC_A hk)⟩
end Go.Proofs.Ytlcaobnojbkmbaa
/- A row of nothing is one that is read. -/
namespace Go.Proofs.Ytlcaobnojbkmbaa
open Go Go.RowKit
set_option linter.unusedVariables false
section
variable {ι : Type} {env : Env} {mem : Mem} {I : ι → St} {p : ι → Prop}
theorem LeJ.none (d n : Nat) (z : Cells) {l g cap : Nat} {e : TypeId} {cs : Cells} (h1 : getA env d = some (.slc l g 0 0 cap)) (h2 : getA mem l = some (.own g e cs)) (hz : z.vals = [] ∧ z.len = 0)
    (h : LeJ ((d, .ros n (some ⟨g, 0, none⟩) 0 cap) :: env) ((n, .ro (some ⟨g, 0, none⟩) cap z) :: delA mem l) I p) : LeJ env mem I p := fun ds pv w0 W a N hE hM => by
  obtain ⟨ow, hgb, hones⟩ := hM.ok l _ h2
  have hl : MRel pv w0 (delA mem l) W := hM.less fun k x hd => by
    rw [getA_delA] at hd
    split at hd
    · cases hd
    · exact hd
  refine h ds pv w0 W a N ⟨hE.size, hE.defers, fun d' v hd => ?_⟩ (hl.add n _ ⟨by rw [hz.1]; exact Sl.nil W _, by rw [hz.2]; exact Nat.zero_le _, fun k hk => ?_⟩ fun l' e' he' hm k hk => ?_)
  · simp only [getA] at hd
    split at hd
    · rename_i hdd; subst hdd; injection hd with hd; subst hd; exact .inr ((hE.get _ _ h1).resolve_left (by simp))
    · exact hE.get d' v hd
  · injection (blkC_A hk) with hk; subst hk; exact ⟨ow.lt, .inl hgb⟩
  · injection (blkC_A hk) with hk; subst hk
    rw [getA_delA] at he'
    split at he'
    · cases he'
    · rename_i hne
      exact hM.sep l _ l' e' h2 he' (fun hh => hne hh.symm) rfl _ rfl
end
end Go.Proofs.Ytlcaobnojbkmbaa
/- A function that writes into what it is handed, with two results. For any program. -/
namespace Go.Proofs.Ytlcaobnojbkmbaa
open Go Go.RowKit
set_option linter.unusedVariables false
set_option linter.unusedSimpArgs false
variable {ds : List Deferred}
def memR2 (rs : List ResultVar) (K : KO) (env : Env) (mem : Mem) (nx : Nat) : Prop :=
  match rs with
  | [.tmp d, .tmp f] => ((ev env (.tmp d)).good = true ∧ (ev env (.tmp f)).good = true) ∧ K (.tup [ev env (.tmp d), ev env (.tmp f)]) mem nx
  | _ => False
def memK2 (rs : List ResultVar) (K : KO) : KE := fun e env mem nx =>
  match e with
  | .exit _ => False
  | _ => memR2 rs K env mem nx
section
variable {P : Program} {tt : TT} {ct : CTab} {N : Nat}
theorem memK2_ok {fn : Func} {rs : List ResultVar} (hr : fn.results = rs.toArray) {K : KO} {ex : Ex} {env : Env} {mem : Mem} {nx : Nat} {a : Act} {W : World} (hE : ERel ds env a N) (he : ∀ id, ex ≠ .exit id) (h0 : memK2 rs K ex env mem nx) :
    ∃ v : AV, (results fn a.tmps).run P W = .ok v.conc W ∧ v.good = true ∧ K v mem nx := by
  have h : memR2 rs K env mem nx := by
    cases ex with
    | exit id => exact absurd rfl (he id)
    | normal => exact h0
    | ret => exact h0
  clear h0
  unfold memR2 at h
  split at h
  · rename_i d f
    refine ⟨.tup [ev env (.tmp d), ev env (.tmp f)], results_run (P := P) (fn := fn) (tmps := a.tmps) (W := W) hr (Vs := [(ev env (.tmp d)).conc, (ev env (.tmp f)).conc]) rfl (fun j r' V' hr' hV' => ?_), rfl, h.2⟩
    match j with
    | 0 => simp at hr' hV'; subst hr'; subst hV'; exact (ev_is hE (x := .tmp d) rfl h.1.1).symm
    | 1 => simp at hr' hV'; subst hr'; subst hV'; exact (ev_is hE (x := .tmp f) rfl h.1.2).symm
    | j + 2 => simp at hr'
  · exact h.elim
/-- A contract of a function that writes into what it is handed, out of what is owed for its body. -/
theorem msound_vc2 (hTT : TTok P tt) (hCT : CTok P ct) (hmix : P.follows .mixedOrders = true) {F : FuncId} {fn : Func} {code : Code} (hf : P.funcs[F]? = some fn) (hb : fn.body = some code) (hn : (fn.name == "runtime.NumGoroutine") = false) {rs : List ResultVar} (hr : fn.results = rs.toArray) {c : MT}
    (h : ∀ args mem nx K, c args mem nx K → (args.all AV.good = true ∧ args.length ≤ fn.ntmps) ∧ vcCode tt ct fn.ntmps code (envOf args 0) mem nx (memK2 rs K)) : MSound P F c := by
  intro pv w0 W args mem nx K hc hM
  obtain ⟨⟨hg, hlen⟩, h⟩ := h args mem nx K hc
  refine ⟨List.all_eq_true.1 hg, ⟨fn, hf, hn, by rw [hb]; rfl⟩, calls_of_wp hf hb ?_⟩
  have hvl : (args.map AV.conc).length = args.length := by simp
  have hsz : ((args.map AV.conc).toArray ++ Array.replicate (fn.ntmps - (args.map AV.conc).toArray.size) undef).size = fn.ntmps := by simp; omega
  have hE : ERel [] (envOf args 0) { tmps := (args.map AV.conc).toArray ++ Array.replicate (fn.ntmps - (args.map AV.conc).toArray.size) undef, defers := [] } fn.ntmps := by
    refine ⟨hsz, rfl, fun d v hd => ?_⟩
    obtain ⟨_, hv⟩ := envOf_get args 0 d v hd
    rw [Nat.sub_zero] at hv
    have hjl : d < args.length := (List.getElem?_eq_some_iff.1 hv).1
    have hve : args[d] = v := (List.getElem?_eq_some_iff.1 hv).2
    right
    have hd2 : d < ((args.map AV.conc).toArray ++ Array.replicate (fn.ntmps - (args.map AV.conc).toArray.size) undef).size := by rw [hsz]; omega
    simp only [Array.getD, hd2, dif_pos]
    rw [Array.getInternal_eq_getElem, Array.getElem_append_left (by simpa using hjl)]
    simp [hve]
  refine Code.wp_mono (fun e a W' hq => ?_) (code_ok hTT hCT hmix code (envOf args 0) mem nx _ _ W h hE hM)
  obtain ⟨ex, env1, mem1, nx1, rfl, hE1, hM1, hK⟩ := hq
  cases ex with
  | normal => obtain ⟨v, h1, h2, h3⟩ := memK2_ok (P := P) (W := W') hr hE1 (fun _ e => by cases e) hK; exact ⟨hE1.defers, _, h1, v, mem1, nx1, rfl, h2, hM1, h3⟩
  | exit id => exact hK.elim
  | ret => obtain ⟨v, h1, h2, h3⟩ := memK2_ok (P := P) (W := W') hr hE1 (fun _ e => by cases e) hK; exact ⟨hE1.defers, _, h1, v, mem1, nx1, rfl, h2, hM1, h3⟩
end
end Go.Proofs.Ytlcaobnojbkmbaa
/- A contract that says less. For any program. -/
namespace Go.Proofs.Ytlcaobnojbkmbaa
open Go Go.RowKit
set_option linter.unusedVariables false
/-- The first result says at least what the second one says. -/
def CR1.le (r r' : CR1) : Prop := r' = r ∨ ∃ cs, r = .s cs ∧ r' = .al cs
def CR1.les : List CR1 → List CR1 → Prop
  | [], [] => True
  | r :: rs, r' :: rs' => CR1.le r r' ∧ CR1.les rs rs'
  | _, _ => False
def CR.le : CR → CR → Prop
  | .one r, .one r' => CR1.le r r'
  | .tup rs, .tup rs' => CR1.les rs rs'
  | _, _ => False
theorem CR1.le_ok {vals : List Value} {W W' : World} {r r' : CR1} {V : Value} (h : CR1.le r r') (hr : resOk1 vals W W' r V) : resOk1 vals W W' r' V := by
  rcases h with rfl | ⟨cs, rfl, rfl⟩
  · exact hr
  · obtain ⟨A, c, h1, h2, h3, h4⟩ := hr
    exact ⟨A, c, h1, h2, h3, fun k hk => ⟨.inl (h4 k hk).1, (h4 k hk).2⟩⟩
theorem CR1.les_ok {vals : List Value} {W W' : World} : ∀ {rs rs' : List CR1} {Vs : List Value}, CR1.les rs rs' → ressOk vals W W' rs Vs → ressOk vals W W' rs' Vs
  | [], [], Vs, _, h => h
  | [], _ :: _, _, h, _ => h.elim
  | _ :: _, [], _, h, _ => h.elim
  | _ :: _, _ :: _, [], _, h => h.elim
  | r :: rs, r' :: rs', V :: Vs, h, hr => ⟨CR1.le_ok h.1 hr.1, CR1.les_ok h.2 hr.2⟩
theorem CR.le_ok {vals : List Value} {W W' : World} {r r' : CR} {V : Value} (h : CR.le r r') (hr : resOk vals W W' r V) : resOk vals W W' r' V := by
  cases r <;> cases r' <;> first | exact h.elim | skip
  · exact CR1.le_ok h hr
  · obtain ⟨Vs, rfl, hr⟩ := hr
    exact ⟨Vs, rfl, CR1.les_ok h hr⟩
theorem CR1.le_refl (r : CR1) : CR1.le r r := .inl rfl
theorem CR1.le_al (cs : Cells) : CR1.le (.s cs) (.al cs) := .inr ⟨cs, rfl, rfl⟩
theorem CR1.les_refl : ∀ rs : List CR1, CR1.les rs rs
  | [] => trivial
  | r :: rs => ⟨CR1.le_refl r, CR1.les_refl rs⟩
theorem CR.le_refl : ∀ r : CR, CR.le r r
  | .one r => CR1.le_refl r
  | .tup rs => CR1.les_refl rs
/-- What is owed, if a result may be told more weakly. -/
def wkK (K : CR → Prop) (r : CR) : Prop := ∃ r', CR.le r r' ∧ K r'
theorem wkK.one {K : CR → Prop} {r r' : CR1} (h : CR1.le r r') (hk : K (.one r')) : wkK K (.one r) := ⟨.one r', h, hk⟩
theorem wkK.tup {K : CR → Prop} {rs rs' : List CR1} (h : CR1.les rs rs') (hk : K (.tup rs')) : wkK K (.tup rs) := ⟨.tup rs', h, hk⟩
theorem wkK.same {K : CR → Prop} {r : CR} (hk : K r) : wkK K r := ⟨r, CR.le_refl r, hk⟩
theorem Sound.weak {P : Program} {F : FuncId} {C C' : CT} (h : Sound P F C) (hw : ∀ cas K, C' cas K → C cas (wkK K)) : Sound P F C' := fun cas K W vals ha hC => by
  obtain ⟨h1, h2⟩ := h cas _ W vals ha (hw cas K hC)
  refine ⟨h1, h2.mono fun e W' he => ?_⟩
  obtain ⟨r, V, h3, h4, h5, r', h6, h7⟩ := he
  exact ⟨r', V, h3, CR.le_ok h6 h4, h5, h7⟩
end Go.Proofs.Ytlcaobnojbkmbaa
/- Calls that are told in a memory of their own: objects of several blocks. For any program. -/
namespace Go.Proofs.Ytlcaobnojbkmbaa
open Go Go.RowKit
set_option linter.unusedVariables false
set_option linter.unusedSimpArgs false
variable {ds : List Deferred}
/-- The first entry says no more than the second one. -/
def ME.eqv (e e' : ME) : Prop := (∀ (pv : Nat → Prop) (w0 W : World), MEok pv w0 W e' → MEok pv w0 W e) ∧ (∀ k, e.blk = some k → e'.blk = some k) ∧ (e.mine = true → e'.mine = true)
theorem ME.eqv_refl (e : ME) : ME.eqv e e := ⟨fun _ _ _ h => h, fun _ h => h, fun h => h⟩
theorem ME.eqv_own {g : Nat} {t : TypeId} {cs cs' : Cells} (hv : cs.vals = cs'.vals) (h1 : cs.ones = true) : ME.eqv (.own g t cs) (.own g t cs') :=
  ⟨fun pv w0 W h => ⟨by rw [hv]; exact h.1, h.2.1, h1⟩, fun _ h => h, fun h => h⟩
theorem ME.eqv_ro {A : Option Addr} {c : Nat} {cs cs' : Cells} (hv : cs.vals = cs'.vals) : ME.eqv (.ro A c cs) (.ro A c cs') :=
  have hl : cs.len = cs'.len := by rw [← Cells.vals_length, hv, Cells.vals_length]
  ⟨fun pv w0 W h => ⟨by rw [hv]; exact h.1, by rw [hl]; exact h.2.1, by rw [hl]; exact h.2.2⟩, fun k h => by simp only [ME.blk] at h ⊢; rw [← hl]; exact h, fun h => h⟩
/-- A block of the call's own is only read from here on. -/
theorem ME.eqv_froz {g : Nat} {t : TypeId} {cs cs' : Cells} (hv : cs.vals = cs'.vals) (hl : cs.len ≤ 9223372036854775807) : ME.eqv (.ro (some ⟨g, 0, none⟩) cs.len cs) (.own g t cs') := by
  refine ⟨fun pv w0 W h => ?_, fun _ h => blkC_A h, fun h => by cases h⟩
  obtain ⟨ow, hg, h1⟩ := h
  refine ⟨⟨by rw [Cells.vals_length]; omega, fun i x hx => ⟨g, 0, rfl, ?_⟩⟩, Nat.le_refl _, fun k hk => ?_⟩
  · rw [ow.cell, ← hv]
    simpa using hx
  · injection (blkC_A hk) with hk
    subst hk
    exact ⟨ow.lt, .inl hg⟩
section
variable {pv : Nat → Prop} {w0 W : World} {m m2 : Mem}
theorem MRel.map (h : MRel pv w0 m W) (f : Nat → Option Nat)
    (h1 : ∀ l e, getA m2 l = some e → (∃ s e', f l = some s ∧ getA m s = some e' ∧ ME.eqv e e') ∨ ∃ c cs, e = .ro none c cs ∧ cs.len = 0)
    (h2 : ∀ l e l' e', getA m2 l = some e → getA m2 l' = some e' → l ≠ l' → f l = f l' → f l ≠ none → e.mine = false ∧ e'.mine = false) : MRel pv w0 m2 W where
  below := h.below
  ok := fun l e he => by
    rcases h1 l e he with ⟨s, e', _, hs, hq⟩ | ⟨c, cs, rfl, hl⟩
    · exact hq.1 _ _ _ (h.ok s e' hs)
    · have hv : cs.vals = [] := List.eq_nil_of_length_eq_zero (by rw [Cells.vals_length, hl])
      refine ⟨?_, by omega, fun k hk => by cases blkC_A hk⟩
      rw [hv]; exact Sl.nil W none
  sep := fun l e l' e' he he' hne hm k hk hk' => by
    rcases h1 l e he with ⟨s, d, hf, hs, hq⟩ | ⟨c, cs, rfl, hl⟩
    · rcases h1 l' e' he' with ⟨s', d', hf', hs', hq'⟩ | ⟨c, cs, rfl, hl⟩
      · by_cases hss : s = s'
        · subst hss
          have := (h2 l e l' e' he he' hne (hf.trans hf'.symm) (by rw [hf]; simp)).1
          rw [this] at hm; cases hm
        · exact h.sep s d s' d' hs hs' hss (hq.2.2 hm) k (hq.2.1 k hk) (hq'.2.1 k hk')
      · cases blkC_A hk'
    · cases hm
end
/-- Where the entries come from. -/
def srcOk (m : Mem) : List (Option Nat) → Mem → Prop
  | [], [] => True
  | none :: ss, (l, e) :: r => (∃ c cs, e = .ro none c cs ∧ cs.len = 0) ∧ srcOk m ss r
  | some s :: ss, (l, e) :: r => (∃ e', getA m s = some e' ∧ ME.eqv e e') ∧ srcOk m ss r
  | _, _ => False
theorem srcOk.nil {m : Mem} : srcOk m [] [] := trivial
theorem srcOk.cons {m : Mem} {s l : Nat} {e : ME} {ss : List (Option Nat)} {r : Mem} (e' : ME) (h : getA m s = some e') (hq : ME.eqv e e') (h2 : srcOk m ss r) : srcOk m (some s :: ss) ((l, e) :: r) := ⟨⟨e', h, hq⟩, h2⟩
theorem srcOk.void {m : Mem} {l c : Nat} {cs : Cells} {ss : List (Option Nat)} {r : Mem} (h : cs.len = 0) (h2 : srcOk m ss r) : srcOk m (none :: ss) ((l, .ro none c cs) :: r) := ⟨⟨c, cs, rfl, h⟩, h2⟩
def pairOk1 (s : Option Nat) (e : ME) : List (Option Nat) → Mem → Prop
  | s' :: ss, (l, e') :: r => (s = s' → s = none ∨ (e.mine = false ∧ e'.mine = false)) ∧ pairOk1 s e ss r
  | _, _ => True
/-- None is taken twice, but what is only read. -/
def pairOk : List (Option Nat) → Mem → Prop
  | s :: ss, (l, e) :: r => pairOk1 s e ss r ∧ pairOk ss r
  | _, _ => True
def srcF : List (Option Nat) → Mem → Nat → Option Nat
  | s :: ss, (l, _) :: r, k => if l = k then s else srcF ss r k
  | _, _, _ => none
theorem src_get {m : Mem} : ∀ {ss : List (Option Nat)} {b : Mem}, srcOk m ss b → ∀ {l e}, getA b l = some e → (∃ s e', srcF ss b l = some s ∧ getA m s = some e' ∧ ME.eqv e e') ∨ (srcF ss b l = none ∧ ∃ c cs, e = .ro none c cs ∧ cs.len = 0)
  | [], [], _, l, e, h => by cases h
  | [], _ :: _, h, _, _, _ => h.elim
  | none :: _, [], h, _, _, _ => h.elim
  | some _ :: _, [], h, _, _, _ => h.elim
  | none :: ss, (l', e') :: r, h, l, e, hg => by
    simp only [getA, srcF] at hg ⊢
    split at hg
    · rename_i hl; injection hg with hg; subst hg; rw [if_pos hl]; exact .inr ⟨rfl, h.1⟩
    · rename_i hl; rw [if_neg hl]; exact src_get h.2 hg
  | some s :: ss, (l', e') :: r, h, l, e, hg => by
    simp only [getA, srcF] at hg ⊢
    split at hg
    · rename_i hl; injection hg with hg; subst hg; rw [if_pos hl]; obtain ⟨e2, h1, h2⟩ := h.1; exact .inl ⟨s, e2, rfl, h1, h2⟩
    · rename_i hl; rw [if_neg hl]; exact src_get h.2 hg
theorem pair1_get {s : Option Nat} {e : ME} : ∀ {ss : List (Option Nat)} {b : Mem}, pairOk1 s e ss b → ∀ {l e'}, getA b l = some e' → s = srcF ss b l → s ≠ none → ss.length = b.length → e.mine = false ∧ e'.mine = false
  | _, [], _, _, _, h, _, _, _ => by cases h
  | [], _ :: _, _, _, _, _, _, _, h => by cases h
  | s' :: ss, (l', e2) :: r, h, l, e', hg, hs, hn, hl => by
    simp only [getA, srcF] at hg hs
    split at hg
    · rename_i hll; injection hg with hg; subst hg; rw [if_pos hll] at hs; exact (h.1 hs).resolve_left hn
    · rename_i hll; rw [if_neg hll] at hs; exact pair1_get h.2 hg hs hn (by simpa using hl)
theorem pair_get : ∀ {ss : List (Option Nat)} {b : Mem}, pairOk ss b → ss.length = b.length → ∀ {l e l' e'}, getA b l = some e → getA b l' = some e' → l ≠ l' → srcF ss b l = srcF ss b l' → srcF ss b l ≠ none → e.mine = false ∧ e'.mine = false
  | _, [], _, _, _, _, _, _, h, _, _, _, _ => by cases h
  | [], _ :: _, _, h, _, _, _, _, _, _, _, _, _ => by cases h
  | s :: ss, (k, d) :: r, h, hl, l, e, l', e', hg, hg', hne, hs, hn => by
    have hl' : ss.length = r.length := by simpa using hl
    simp only [getA, srcF] at hg hg' hs hn
    split at hg
    · rename_i h1
      injection hg with hg; subst hg
      have h2 : ¬ k = l' := fun h2 => hne (h1.symm.trans h2)
      rw [if_neg h2] at hg'
      rw [if_pos h1, if_neg h2] at hs
      rw [if_pos h1] at hn
      exact pair1_get h.1 hg' hs hn hl'
    · rename_i h1
      rw [if_neg h1] at hs hn
      split at hg'
      · rename_i h2
        injection hg' with hg'; subst hg'
        rw [if_pos h2] at hs
        exact (pair1_get h.1 hg hs.symm (fun e => hn (hs.trans e)) hl').symm
      · rename_i h2
        rw [if_neg h2] at hs
        exact pair_get h.2 hl' hg hg' hne hs hn
theorem src_len {m : Mem} : ∀ {ss : List (Option Nat)} {b : Mem}, srcOk m ss b → ss.length = b.length
  | [], [], _ => rfl
  | [], _ :: _, h => h.elim
  | none :: _, [], h => h.elim
  | some _ :: _, [], h => h.elim
  | none :: ss, (_, _) :: r, h => by simp [src_len h.2]
  | some _ :: ss, (_, _) :: r, h => by simp [src_len h.2]
theorem getA_app (a b : Mem) (l : Nat) : getA (a ++ b) l = (match getA a l with | some e => some e | none => getA b l) := by
  induction a with
  | nil => rfl
  | cons p r ih =>
    obtain ⟨d, v⟩ := p
    simp only [List.cons_append, getA]
    split
    · rfl
    · exact ih
/-- The rest of a memory. -/
structure RestOk (R : Mem) : Prop where
  big : ∀ l e, getA R l = some e → 1000 ≤ l
  del : ∀ l, l < 1000 → delA R l = R
  get : ∀ l, l < 1000 → getA R l = none
  set : ∀ l e, l < 1000 → setA R l e = R
  keep : ∀ ks, (ks.all fun x => decide (x < 1000)) = true → keepM ks R = []
  ext : extM R R
  exts : ∀ l e m, l < 1000 → extM ((l, e) :: m) R = extM m R
theorem restOk_of {R : Mem} (hb : ∀ p ∈ R, 1000 ≤ p.1) (hn : ∀ p ∈ R, getA R p.1 = some p.2) : RestOk R := by
  have hx : ∀ (m R' : Mem), (∀ p ∈ R', getA m p.1 = some p.2) → extM m R' := fun m R' => by
    induction R' with
    | nil => intro _; trivial
    | cons p r ih => intro h; obtain ⟨l, e⟩ := p; exact ⟨h (l, e) (by simp), ih fun p hp => h p (List.mem_cons_of_mem _ hp)⟩
  have hg : ∀ (R' : Mem), (∀ p ∈ R', 1000 ≤ p.1) → ∀ l, l < 1000 → getA R' l = none ∧ delA R' l = R' ∧ ∀ e, setA R' l e = R' := fun R' => by
    induction R' with
    | nil => intro _ l _; exact ⟨rfl, rfl, fun _ => rfl⟩
    | cons p r ih =>
      intro h l hl
      obtain ⟨d, v⟩ := p
      have hd : 1000 ≤ d := h (d, v) (by simp)
      have hne : ¬ d = l := by omega
      obtain ⟨h1, h2, h3⟩ := ih (fun p hp => h p (List.mem_cons_of_mem _ hp)) l hl
      exact ⟨by simp only [getA, if_neg hne, h1], by simp only [delA, if_neg hne, h2], fun e => by simp only [setA, if_neg hne, h3]⟩
  refine ⟨fun l e h => ?_, fun l hl => (hg R hb l hl).2.1, fun l hl => (hg R hb l hl).1, fun l e hl => (hg R hb l hl).2.2 e, fun ks hks => ?_, hx R R hn, fun l e m hl => ?_⟩
  · rcases Nat.lt_or_ge l 1000 with hl | hl
    · rw [(hg R hb l hl).1] at h; cases h
    · exact hl
  · clear hn hg hx
    induction R with
    | nil => rfl
    | cons p r ih =>
      obtain ⟨d, v⟩ := p
      have hd : 1000 ≤ d := hb (d, v) (by simp)
      have : (ks.any fun x => x == d) = false := by
        simp only [List.any_eq_false, beq_iff_eq]
        intro x hx hxd
        have := List.all_eq_true.1 hks x hx
        simp only [decide_eq_true_eq] at this
        omega
      simp only [keepM, this]
      exact ih fun p hp => hb p (List.mem_cons_of_mem _ hp)
  · clear hn hg hx
    apply propext
    induction R with
    | nil => exact Iff.rfl
    | cons p r ih =>
      obtain ⟨d, v⟩ := p
      have hd : 1000 ≤ d := hb (d, v) (by simp)
      have hne : ¬ l = d := by omega
      simp only [extM, getA, if_neg hne, ih fun p hp => hb p (List.mem_cons_of_mem _ hp)]
/-- What is seen of a memory, each once. -/
def visM : Mem → Mem
  | [] => []
  | (l, e) :: r => (l, e) :: delA (visM r) l
def shiftM (m : Mem) : Mem := m.map fun p => (p.1 + 1000, p.2)
def delL (m : Mem) : List Nat → Mem
  | [] => m
  | l :: r => delL (delA m l) r
theorem vis_get : ∀ (m : Mem) (l : Nat), getA (visM m) l = getA m l
  | [], _ => rfl
  | (d, v) :: r, l => by
    simp only [visM, getA]
    by_cases h : d = l
    · rw [if_pos h, if_pos h]
    · rw [if_neg h, if_neg h, getA_delA, if_neg (Ne.symm h), vis_get r l]
theorem mem_delA {m : Mem} {l : Nat} {p : Nat × ME} (h : p ∈ delA m l) : p ∈ m ∧ p.1 ≠ l := by
  induction m with
  | nil => cases h
  | cons q r ih =>
    obtain ⟨d, v⟩ := q
    simp only [delA] at h
    split at h
    · obtain ⟨h1, h2⟩ := ih h; exact ⟨List.mem_cons_of_mem _ h1, h2⟩
    · rename_i hne
      rcases List.mem_cons.1 h with rfl | h
      · exact ⟨List.mem_cons_self .., hne⟩
      · obtain ⟨h1, h2⟩ := ih h; exact ⟨List.mem_cons_of_mem _ h1, h2⟩
theorem vis_nodup : ∀ (m : Mem) (p : Nat × ME), p ∈ visM m → getA (visM m) p.1 = some p.2
  | [], _, h => by cases h
  | (d, v) :: r, p, h => by
    simp only [visM] at h ⊢
    simp only [getA]
    rcases List.mem_cons.1 h with rfl | h
    · rw [if_pos rfl]
    · obtain ⟨h1, h2⟩ := mem_delA h
      rw [if_neg (Ne.symm h2), getA_delA, if_neg h2]
      exact vis_nodup r p h1
theorem shift_get (m : Mem) (l : Nat) : getA (shiftM m) (l + 1000) = getA m l := by
  induction m with
  | nil => rfl
  | cons p r ih =>
    obtain ⟨d, v⟩ := p
    simp only [shiftM, List.map_cons, getA, Nat.add_right_cancel_iff]
    split
    · rfl
    · exact ih
theorem shift_big (m : Mem) : ∀ p ∈ shiftM m, 1000 ≤ p.1 := fun p hp => by
  obtain ⟨q, _, rfl⟩ := List.mem_map.1 hp; simp
theorem restOk_shift (m : Mem) : RestOk (shiftM (visM m)) := restOk_of (shift_big _) fun p hp => by
  obtain ⟨q, hq, rfl⟩ := List.mem_map.1 hp
  simp only [shift_get]
  exact vis_nodup m q hq
theorem delL_get : ∀ (ls : List Nat) (m : Mem) (l : Nat), getA (delL m ls) l = if l ∈ ls then none else getA m l
  | [], m, l => by simp [delL]
  | k :: r, m, l => by
    simp only [delL, delL_get r, getA_delA, List.mem_cons]
    by_cases h1 : l ∈ r
    · simp [h1]
    · by_cases h2 : l = k <;> simp [h1, h2]
/-- A contract that is told in a memory of its own. -/
abbrev LT := List AV → Mem → (AV → Mem → Prop) → Prop
def LSound (P : Program) (F : FuncId) (c : LT) : Prop :=
  ∀ (args : List AV) (m : Mem) (K : AV → Mem → Prop), c args m K → ∀ (R : Mem), RestOk R → ∀ (pv : Nat → Prop) (w0 W : World), MRel pv w0 (m ++ R) W →
    (∀ v ∈ args, v.good = true) ∧ Callable P F ∧ Calls P F (args.map AV.conc).toArray W fun e W' => ∃ v m1, e = .returned v.conc ∧ v.good = true ∧ (∀ p ∈ m1, p.1 < 1000) ∧ MRel pv w0 (m1 ++ R) W' ∧ K v m1
/-- What is owed in the end. -/
def FinK (K : AV → Mem → Prop) (R : Mem) (v : AV) (m : Mem) : Prop :=
  ∀ (pv : Nat → Prop) (w0 W : World), MRel pv w0 m W → ∃ v1 m1, v1.conc = v.conc ∧ v1.good = true ∧ (∀ p ∈ m1, p.1 < 1000) ∧ MRel pv w0 (m1 ++ R) W ∧ K v1 m1
/-- Such entries as are wanted, out of those that are there; the rest stays. -/
theorem MRel.fin {R : Mem} {m : Mem} (m1 : Mem) (ss : List (Option Nat)) (hR : RestOk R) (hx : extM m R) (hl : (m1.all fun p => decide (p.1 < 1000)) = true)
    (hsl : (ss.all fun s => decide (∀ k, s = some k → k < 1000)) = true) (hs : srcOk m ss m1) (hp : pairOk ss m1) {pv : Nat → Prop} {w0 W : World} (hM : MRel pv w0 m W) : MRel pv w0 (m1 ++ R) W := by
  have hl1 : ∀ p ∈ m1, p.1 < 1000 := fun p hp => by simpa using List.all_eq_true.1 hl p hp
  have hl2 : ∀ (b : Mem) (l : Nat) (e : ME), (∀ p ∈ b, p.1 < 1000) → getA b l = some e → l < 1000 := fun b l e hb he => by
    induction b with
    | nil => cases he
    | cons p r ih =>
      obtain ⟨d, u⟩ := p
      simp only [getA] at he
      split at he
      · rename_i hd; subst hd; exact hb (d, u) (by simp)
      · exact ih (fun p hp => hb p (List.mem_cons_of_mem _ hp)) he
  have hsf : ∀ (ss : List (Option Nat)) (b : Mem) (l k : Nat), (∀ s ∈ ss, ∀ k, s = some k → k < 1000) → srcF ss b l = some k → k < 1000 := fun ss => by
    induction ss with
    | nil => intro b l k _ h; cases b <;> cases h
    | cons s r ih =>
      intro b l k hss h
      cases b with
      | nil => cases h
      | cons p b =>
        obtain ⟨d, u⟩ := p
        simp only [srcF] at h
        split at h
        · exact hss s (by simp) k h
        · exact ih b l k (fun s hs => hss s (List.mem_cons_of_mem _ hs)) h
  have hss : ∀ s ∈ ss, ∀ k, s = some k → k < 1000 := fun s hs => by simpa using List.all_eq_true.1 hsl s hs
  refine hM.map (fun l => if l < 1000 then srcF ss m1 l else some l) (fun l e he => ?_) fun l e l' e' he he' hne hf hn => ?_
  · rw [getA_app] at he
    cases h1 : getA m1 l with
    | some d =>
      rw [h1] at he
      injection he with he; subst he
      rw [if_pos (hl2 m1 l d hl1 h1)]
      rcases src_get hs h1 with h | ⟨_, h⟩
      · exact .inl h
      · exact .inr h
    | none =>
      rw [h1] at he
      have hb := hR.big l e he
      rw [if_neg (by omega)]
      exact .inl ⟨l, e, rfl, extM_get R hx l e he, ME.eqv_refl e⟩
  · rw [getA_app] at he he'
    cases h1 : getA m1 l with
    | some d =>
      rw [h1] at he
      injection he with he; subst he
      have hl := hl2 m1 l d hl1 h1
      rw [if_pos hl] at hf hn
      cases h2 : getA m1 l' with
      | some d' =>
        rw [h2] at he'
        injection he' with he'; subst he'
        rw [if_pos (hl2 m1 l' d' hl1 h2)] at hf
        exact pair_get hp (src_len hs) h1 h2 hne hf hn
      | none =>
        rw [h2] at he'
        have hb := hR.big l' e' he'
        rw [if_neg (by omega)] at hf
        have := hsf ss m1 l l' hss hf
        omega
    | none =>
      rw [h1] at he
      have hb := hR.big l e he
      rw [if_neg (by omega)] at hf
      cases h2 : getA m1 l' with
      | some d' =>
        rw [if_pos (hl2 m1 l' d' hl1 h2)] at hf
        have := hsf ss m1 l' l hss hf.symm
        omega
      | none =>
        rw [h2] at he'
        have hb' := hR.big l' e' he'
        rw [if_neg (by omega)] at hf
        injection hf with hf
        exact absurd hf hne
theorem FinK.mk {K : AV → Mem → Prop} {R : Mem} {v : AV} {m : Mem} (v1 : AV) (m1 : Mem) (ss : List (Option Nat)) (hc : v1.conc = v.conc) (hg : v1.good = true) (hR : RestOk R) (hx : extM m R) (hl : (m1.all fun p => decide (p.1 < 1000)) = true)
    (hsl : (ss.all fun s => decide (∀ k, s = some k → k < 1000)) = true) (hs : srcOk m ss m1) (hp : pairOk ss m1) (hK : K v1 m1) : FinK K R v m := fun pv w0 W hM =>
  ⟨v1, m1, hc, hg, fun p hp => by simpa using List.all_eq_true.1 hl p hp, hM.fin m1 ss hR hx hl hsl hs hp, hK⟩
/-- A state that is come back to, with other labels. -/
theorem LeJ.fin {ι : Type} {env : Env} {mem R : Mem} {I : ι → St} {p : ι → Prop} (j : ι) (hp : p j) (m1 : Mem) (ss : List (Option Nat)) (hR : RestOk R) (hx : extM mem R) (hl : (m1.all fun p => decide (p.1 < 1000)) = true)
    (hsl : (ss.all fun s => decide (∀ k, s = some k → k < 1000)) = true) (hs : srcOk mem ss m1) (hpr : pairOk ss m1) (hm : m1 ++ R = (I j).mem) (he : leA env (I j).env) : LeJ env mem I p := fun ds pv w0 W a N hE hM =>
  ⟨j, hp, hE.less (leA_get _ he), by rw [← hm]; exact hM.fin m1 ss hR hx hl hsl hs hpr⟩
section
variable {P : Program} {tt : TT} {ct : CTab}
theorem lsound_of {F : FuncId} {c : LT} (h : MSound P F fun args mem nx K' => ∃ m R K, mem = m ++ R ∧ nx = 100 ∧ RestOk R ∧ c args m K ∧ K' = fun v m' n => FinK K R v m') : LSound P F c := by
  intro args m K hc R hR pv w0 W hM
  obtain ⟨h1, h2, h3⟩ := h pv w0 W args (m ++ R) 100 _ ⟨m, R, K, rfl, rfl, hR, hc, rfl⟩ hM
  refine ⟨h1, h2, h3.mono fun e W' he => ?_⟩
  obtain ⟨v, m', n, rfl, hg, hM', hK⟩ := he
  obtain ⟨v1, m1, h4, h5, h6, h7, h8⟩ := hK pv w0 W' hM'
  exact ⟨v1, m1, by rw [h4], h5, h6, h7, h8⟩
/-- Such a contract, in the caller's memory. -/
def Loc (c : LT) : MT := fun args mem nx K => ∃ (ls : List Nat) (args' : List AV) (m : Mem), (args'.map AV.conc = args.map AV.conc ∧ (args.all AV.good) = true ∧ (m.all fun p => decide (p.1 < 1000)) = true) ∧ srcOk mem (ls.map some) m ∧ pairOk (ls.map some) m ∧
  c args' m fun v m1 => ∃ v2 m2 ss n, (v2.conc = v.conc ∧ v2.good = true) ∧ srcOk m1 ss m2 ∧ pairOk ss m2 ∧ K v2 (m2 ++ delL mem ls) n
theorem Loc_ok {F : FuncId} {c : LT} (h : LSound P F c) : MSound P F (Loc c) := by
  intro pv w0 W args mem nx K hc hM
  obtain ⟨ls, args', m, ⟨ha, hg, hl⟩, hs, hp, hK⟩ := hc
  have hl1 : ∀ p ∈ m, p.1 < 1000 := fun p hp => by simpa using List.all_eq_true.1 hl p hp
  have hl2 : ∀ (b : Mem) (l : Nat) (e : ME), (∀ p ∈ b, p.1 < 1000) → getA b l = some e → l < 1000 := fun b l e hb he => by
    induction b with
    | nil => cases he
    | cons p r ih =>
      obtain ⟨d, u⟩ := p
      simp only [getA] at he
      split at he
      · rename_i hd; subst hd; exact hb (d, u) (by simp)
      · exact ih (fun p hp => hb p (List.mem_cons_of_mem _ hp)) he
  have hin : ∀ (ss : List (Option Nat)) (b : Mem) (l k : Nat), srcF ss b l = some k → some k ∈ ss := fun ss => by
    induction ss with
    | nil => intro b l k h; cases b <;> cases h
    | cons s r ih =>
      intro b l k h
      cases b with
      | nil => cases h
      | cons p b =>
        obtain ⟨d, u⟩ := p
        simp only [srcF] at h
        split at h
        · rw [h]; simp
        · exact List.mem_cons_of_mem _ (ih b l k h)
  have hR := restOk_shift (delL mem ls)
  have hRg : ∀ l e, getA (shiftM (visM (delL mem ls))) l = some e → 1000 ≤ l ∧ l - 1000 ∉ ls ∧ getA mem (l - 1000) = some e := fun l e he => by
    have hb := hR.big l e he
    obtain ⟨k, rfl⟩ : ∃ k, l = k + 1000 := ⟨l - 1000, by omega⟩
    rw [shift_get, vis_get, delL_get] at he
    split at he
    · cases he
    · rename_i hk; exact ⟨hb, by simpa using hk, by simpa using he⟩
  have hM1 : MRel pv w0 (m ++ shiftM (visM (delL mem ls))) W := by
    refine hM.map (fun l => if l < 1000 then srcF (ls.map some) m l else some (l - 1000)) (fun l e he => ?_) fun l e l' e' he he' hne hf hn => ?_
    · rw [getA_app] at he
      cases h1 : getA m l with
      | some d =>
        rw [h1] at he
        injection he with he; subst he
        rw [if_pos (hl2 m l d hl1 h1)]
        rcases src_get hs h1 with h | ⟨_, h⟩
        · exact .inl h
        · exact .inr h
      | none =>
        rw [h1] at he
        obtain ⟨h2, h3, h4⟩ := hRg l e he
        rw [if_neg (by omega)]
        exact .inl ⟨_, e, rfl, h4, ME.eqv_refl e⟩
    · rw [getA_app] at he he'
      cases h1 : getA m l with
      | some d =>
        rw [h1] at he
        injection he with he; subst he
        rw [if_pos (hl2 m l d hl1 h1)] at hf hn
        cases h2 : getA m l' with
        | some d' =>
          rw [h2] at he'
          injection he' with he'; subst he'
          rw [if_pos (hl2 m l' d' hl1 h2)] at hf
          exact pair_get hp (src_len hs) h1 h2 hne hf hn
        | none =>
          rw [h2] at he'
          obtain ⟨h3, h4, _⟩ := hRg l' e' he'
          rw [if_neg (by omega)] at hf
          have := hin _ _ _ _ hf
          simp only [List.mem_map, Option.some.injEq, exists_eq_right] at this
          exact absurd this h4
      | none =>
        rw [h1] at he
        obtain ⟨h3, h4, _⟩ := hRg l e he
        rw [if_neg (by omega)] at hf
        cases h2 : getA m l' with
        | some d' =>
          rw [if_pos (hl2 m l' d' hl1 h2)] at hf
          have := hin _ _ _ _ hf.symm
          simp only [List.mem_map, Option.some.injEq, exists_eq_right] at this
          exact absurd this h4
        | none =>
          rw [h2] at he'
          obtain ⟨h5, h6, _⟩ := hRg l' e' he'
          rw [if_neg (by omega)] at hf
          injection hf with hf
          omega
  obtain ⟨_, hcl, hcall⟩ := h args' m _ hK _ hR pv w0 W hM1
  rw [ha] at hcall
  refine ⟨List.all_eq_true.1 hg, hcl, hcall.mono fun e W' he => ?_⟩
  obtain ⟨v, m1, rfl, _, hm1, hM', v2, m2, ss, n, ⟨h4, h5⟩, h6, h7, h8⟩ := he
  refine ⟨v2, _, n, by rw [h4], h5, ?_, h8⟩
  have hlr : ∀ (ss : List (Option Nat)) (b : Mem) (l k : Nat), srcOk m1 ss b → srcF ss b l = some k → k < 1000 := fun ss => by
    induction ss with
    | nil => intro b l k _ h; cases b <;> cases h
    | cons s r ih =>
      intro b l k hso h
      cases b with
      | nil => cases h
      | cons p b =>
        obtain ⟨d, u⟩ := p
        simp only [srcF] at h
        split at h
        · subst h
          obtain ⟨⟨e', he', _⟩, _⟩ := hso
          exact hl2 m1 k e' hm1 he'
        · refine ih b l k ?_ h
          cases s <;> exact hso.2
  refine hM'.map (fun l => match getA m2 l with | some _ => srcF ss m2 l | none => some (l + 1000)) (fun l e he => ?_) fun l e l' e' he he' hne hf hn => ?_
  · rw [getA_app] at he
    cases h1 : getA m2 l with
    | some d =>
      rw [h1] at he
      injection he with he; subst he
      rcases src_get h6 h1 with ⟨s, e', g1, g2, g3⟩ | ⟨_, h⟩
      · exact .inl ⟨s, e', g1, by rw [getA_app, g2], g3⟩
      · exact .inr h
    | none =>
      rw [h1] at he
      refine .inl ⟨_, e, rfl, ?_, ME.eqv_refl e⟩
      rw [getA_app]
      have hno : getA m1 (l + 1000) = none := by
        cases hh : getA m1 (l + 1000) with
        | none => rfl
        | some d => have := hl2 m1 _ d hm1 hh; omega
      rw [hno]
      dsimp only
      rw [shift_get, vis_get]
      exact he
  · rw [getA_app] at he he'
    cases h1 : getA m2 l with
    | some d =>
      rw [h1] at he hf hn
      injection he with he; subst he
      cases h2 : getA m2 l' with
      | some d' =>
        rw [h2] at he' hf
        injection he' with he'; subst he'
        exact pair_get h7 (src_len h6) h1 h2 hne hf hn
      | none =>
        rw [h2] at hf
        have := hlr ss m2 l _ h6 hf
        omega
    | none =>
      rw [h1] at hf
      cases h2 : getA m2 l' with
      | some d' =>
        rw [h2] at hf
        have := hlr ss m2 l' _ h6 hf.symm
        omega
      | none =>
        rw [h2] at hf
        injection hf with hf
        omega
end
end Go.Proofs.Ytlcaobnojbkmbaa
/- A row that grows is one that is read, in a loop's state. For any program. -/
namespace Go.Proofs.Ytlcaobnojbkmbaa
open Go Go.RowKit
theorem LeJ.froz {ι : Type} {env : Env} {mem : Mem} {I : ι → St} {p : ι → Prop} (d n : Nat) {l m : Nat} {v v' : Value} {e : TypeId} {cs : Cells} (h1 : getA env d = some (.grow l v m)) (h2 : getA mem l = some (.row v' e cs)) (hv : v' = v) (hm : cs.len = m)
    (h : ∀ A c, m ≤ c → LeJ ((d, .ros n A m c) :: env) ((n, .ro A c cs) :: delA mem l) I p) : LeJ env mem I p := fun ds pv w0 W a N hE hM => by
  obtain ⟨A, c, h3, h4, h5⟩ := hM.frozen h2
  subst hv
  subst hm
  subst h3
  have h6 := h5.rename (l := l) (n := n) (e := .ro A c cs) (by simp [getA])
  refine h A c h4 ds pv w0 W a N (hE.again h1 (by simp) rfl) (h6.less fun k x hd => ?_)
  simp only [getA] at hd ⊢
  split
  · rw [if_pos (by assumption)] at hd; exact hd
  · rename_i hne
    rw [if_neg hne] at hd
    rw [getA_delA] at hd
    split at hd
    · cases hd
    · rename_i hkl
      rw [getA_delA, if_neg hkl]
      simp only [getA, if_neg (Ne.symm hkl)]
      rw [getA_delA, if_neg hkl]
      exact hd
end Go.Proofs.Ytlcaobnojbkmbaa
