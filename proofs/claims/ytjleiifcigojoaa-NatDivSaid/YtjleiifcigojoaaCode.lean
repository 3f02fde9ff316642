/- What is owed for code, told without a world. For any program. -/
import Derived.Test.YtjleiifcigojoaaOps4
import Derived.Test.YtjleiifcigojoaaDraw
namespace Go.Proofs.Ytjleiifcigojoaa
open Go Go.RowKit
set_option linter.unusedVariables false
set_option linter.unusedSimpArgs false
variable {ds : List Deferred}

inductive Ex where
  | normal | exit (id : Nat) | ret
abbrev KE := Ex → Env → Mem → Nat → Prop
def putE (dst : Option Tmp) (v : AV) (env : Env) : Env :=
  match dst with
  | some d => (d, v) :: env
  | none => env
def dstB (N : Nat) (dst : Option Tmp) : Bool :=
  match dst with
  | some d => decide (d < N)
  | none => true
section
variable (tt : TT) (ct : CTab) (N : Nat)
/-- An operation's question whether it is carried out: 'yes' and 'no' are what is owed in each case. -/
def guardVC (ops : Array Oper) (g : Option (Nat × Bool)) (env : Env) (yes no : Env → Prop) : Prop :=
  match g with
  | none => yes env
  | some (j, want) => (match (ops[j]?).bind (·.dst) with
    | some d => (match getA env d with
      | some (.bool b) => (match want with
        | true => bothP b (yes ((d, .bool true) :: env)) (no ((d, .bool false) :: env))
        | false => bothP (!b) (yes ((d, .bool false) :: env)) (no ((d, .bool true) :: env)))
      | some (.tup _) => no env
      | _ => False)
    | none => False)
/-- An operation of a list. -/
def listVC (env : Env) (mem : Mem) (nx : Nat) (op : Op) (K : KO) : Prop :=
  match op with
  | .call c => (match c.callee with
    | .value (.func F) => (match ct F with
      | .mem m => m (c.args.toList.map (ev env)) mem nx K
      | _ => opVC tt ct env mem nx (.call c) K)
    | _ => opVC tt ct env mem nx (.call c) K)
  | op => opVC tt ct env mem nx op K
def vcList (ops : Array Oper) : List Oper → Env → Mem → Nat → KE → Prop
  | [], env, mem, nx, K => K .normal env mem nx
  | o :: rest, env, mem, nx, K => dstB N o.dst = true ∧ guardVC ops o.guard env
      (fun env => listVC tt ct env mem nx o.op fun v mem nx => vcList ops rest (putE o.dst v env) mem nx K)
      (fun env => vcList ops rest (putE o.dst (.tup []) env) mem nx K)
def extM (m' : Mem) : Mem → Prop
  | [] => True
  | (l, e) :: r => getA m' l = some e ∧ extM m' r
/-- The same, or more. -/
def extE (m' m : Mem) : Prop := m' = m ∨ extM m' m
/-- Does its value hang on the temporaries alone? -/
def slotOp : Op → Bool
  | .move _ | .assign _ | .pick .. | .extract .. | .binOp .. | .unOp .. | .index .. | .field .. => true
  | _ => false
/-- How a plan has an operation: carried out where it alone may come up, taken, taken on the strength of what no operation of the region writes. -/
inductive PK where
  | ld | tk | fz
/-- What of the memory is named so. -/
def keepM (ks : List Nat) : Mem → Mem
  | [] => []
  | (l, e) :: r => if ks.any (· == l) then (l, e) :: keepM ks r else keepM ks r
def leA {α : Type} (l : List (Nat × α)) : List (Nat × α) → Prop
  | [] => True
  | (d, v) :: r => getA l d = some v ∧ leA l r
/-- A drawing region's operations, along its plan. 'F': what no operation of it writes. -/
def planVC (F : Mem) (ops : Array Oper) : List (PK × Nat) → Env → Mem → Nat → (Env → Mem → Nat → Prop) → Prop
  | [], env, mem, nx, K => K env mem nx
  | (k, i) :: r, env, mem, nx, K => (match ops[i]? with
    | some o => dstB N o.dst = true ∧ guardVC ops o.guard env
      (fun env => (match k with
        | .tk => pureVC tt env mem nx o.op fun v m nx => extE m mem ∧ planVC F ops r (putE o.dst v env) m nx K
        | .fz => pureVC tt env F nx o.op fun v _ _ => planVC F ops r (putE o.dst v env) mem nx K
        | .ld => opVC tt ct env mem nx o.op fun v m nx => (if quietOp o.op then extE m mem else leA m F) ∧ planVC F ops r (putE o.dst v env) m nx K))
      (fun env => planVC F ops r (putE o.dst (.tup []) env) mem nx K)
    | none => False)
def isAlloc : Op → Bool
  | .alloc e => (tt e).isSome
  | _ => false
def marks (L : Array Bool) (l : List Nat) : Array Bool := l.foldl (fun L i => L.setIfInBounds i true) L
def wrB (ops : Array Oper) (i : Nat) : Bool := match ops[i]? with
  | some o => !quietOp o.op
  | none => false
/-- Does j come behind i whatever order is picked? -/
def waitB (md : Region.Mode) (ops : Array Oper) (L : Array Bool) (flo : List Nat) (i : Nat) : Nat → Nat → Bool
  | 0, _ => false
  | f + 1, j => match ops[j]? with
    | some o => (o.after.any fun e => Region.binds md e && e.on == i) || o.after.any fun e => Region.binds md e && !L.getD e.on true && !flo.contains e.on && waitB md ops L flo i f e.on
    | none => false
/-- May the plan be carried out? 'flo': variables that are made at any time ahead of their place in the plan. -/
def planX (md : Region.Mode) (ops : Array Oper) (flo : List Nat) : List (PK × Nat) → Array Bool → Bool
  | [], L => (List.range ops.size).all fun j => L.getD j false
  | (k, i) :: r, L => ((Region.ready md ops L).contains i && (match k with
    | .ld => (Region.ready md ops (marks L (flo.filter (· != i)))).all (· == i)
    | .tk => Region.free md ops L i && !flo.contains i && (List.range ops.size).all fun j => L.getD j true || !wrB ops j || waitB md ops L flo i ops.size j
    | .fz => Region.free md ops L i && !flo.contains i)) && planX md ops flo r (L.setIfInBounds i true)
def floX (ops : Array Oper) (flo : List Nat) : Bool := flo.all fun i => match ops[i]? with
  | some o => isAlloc tt o.op && o.guard.isNone && o.dst.isSome && dstB N o.dst && (List.range ops.size).all fun j => j == i || (match ops[j]? with
    | some oj => oj.dst != o.dst
    | none => true)
  | none => false
def drawB (ops : Array Oper) (plan : List (PK × Nat)) (flo : List Nat) : Bool :=
  Region.noSelect ops && floX tt N ops flo && decide (plan.length = ops.size) && planX .any ops flo plan (Array.replicate ops.size false)
def delAll (env : Env) (ops : Array Oper) : List Nat → Env
  | [] => env
  | i :: r => (match (ops[i]?).bind (·.dst) with
    | some d => delAll (delA env d) ops r
    | none => delAll env ops r)
def DrawVC (ops : Array Oper) (env : Env) (mem : Mem) (nx : Nat) (K : KE) : Prop :=
  ∃ plan flo ks, drawB tt N ops plan flo = true ∧ planVC tt ct N (keepM ks mem) ops plan (delAll env ops flo) mem nx (K .normal)
structure St where
  env : Env
  mem : Mem
  nx : Nat
def leS (env : Env) (mem : Mem) (s : St) : Prop := leA env s.env ∧ leA mem s.mem
def loopK {ι : Type} (I : ι → St) (μ : ι → Nat) (i : ι) (K : KE) : KE := fun e env mem nx =>
  match e with
  | .normal => ∃ j, μ j < μ i ∧ leS env mem (I j)
  | e => K e env mem nx
/-- Wherever these stand, one of those states does. -/
def LeJ {ι : Type} (env : Env) (mem : Mem) (I : ι → St) (p : ι → Prop) : Prop :=
  ∀ (ds : List Deferred) (pv : Nat → Prop) (w0 W : World) (a : Act) (N : Nat), ERel ds env a N → MRel pv w0 mem W → ∃ j, p j ∧ ERel ds (I j).env a N ∧ MRel pv w0 (I j).mem W
def loopJ {ι : Type} (I : ι → St) (μ : ι → Nat) (i : ι) (K : KE) : KE := fun e env mem nx =>
  match e with
  | .normal => LeJ env mem I (fun j => μ j < μ i)
  | e => K e env mem nx
def LoopVC (V : Env → Mem → Nat → KE → Prop) (env : Env) (mem : Mem) (nx : Nat) (K : KE) : Prop :=
  (∃ (ι : Type) (I : ι → St) (μ : ι → Nat), (∃ i, leS env mem (I i)) ∧ ∀ i, V (I i).env (I i).mem (I i).nx (loopK I μ i K)) ∨
  ∃ (ι : Type) (I : ι → St) (μ : ι → Nat), LeJ env mem I (fun _ => True) ∧ ∀ i, V (I i).env (I i).mem (I i).nx (loopJ I μ i K)
def seqK (V : Env → Mem → Nat → KE → Prop) (K : KE) : KE := fun e env mem nx =>
  match e with
  | .normal => V env mem nx K
  | e => K e env mem nx
def blockK (id : Nat) (K : KE) : KE := fun e env mem nx =>
  match e with
  | .exit id' => if id' = id then K .normal env mem nx else K (.exit id') env mem nx
  | e => K e env mem nx
def vcCode : Code → Env → Mem → Nat → KE → Prop
  | .skip, env, mem, nx, K => K .normal env mem nx
  | .region _ ops true, env, mem, nx, K => DrawVC tt ct N ops env mem nx K
  | .region _ ops false, env, mem, nx, K => vcList tt ct N ops ops.toList env mem nx K
  | .seq a b, env, mem, nx, K => vcCode a env mem nx (seqK (vcCode b) K)
  | .cond c x y, env, mem, nx, K => (match ev env c with
    | .bool b => bothP b (vcCode x env mem nx K) (vcCode y env mem nx K)
    | _ => False)
  | .block id b, env, mem, nx, K => vcCode b env mem nx (blockK id K)
  | .loop b, env, mem, nx, K => LoopVC (vcCode b) env mem nx K
  | .exit id, env, mem, nx, K => K (.exit id) env mem nx
  | .ret, env, mem, nx, K => K .ret env mem nx
  | _, _, _, _, _ => False
end

/-! ### What it is worth -/
section
variable {P : Program} {tt : TT} {ct : CTab} {pv : Nat → Prop} {w0 : World} {N : Nat}
def Ex.conv : Ex → Exit
  | .normal => .normal
  | .exit id => .exit id
  | .ret => .ret
/-- What is known behind code. -/
def QK (ds : List Deferred) (pv : Nat → Prop) (w0 : World) (N : Nat) (K : KE) (e : Exit) (a : Act) (W : World) : Prop := ∃ x env mem nx, e = Ex.conv x ∧ ERel ds env a N ∧ MRel pv w0 mem W ∧ K x env mem nx
theorem QK.no_panic {K : KE} {c : List PanicEntry} {a : Act} {W : World} (h : QK ds pv w0 N K (.panic c) a W) : False := by
  obtain ⟨x, _, _, _, h, _⟩ := h
  cases x <;> cases h
theorem ERel.alias {env : Env} {a : Act} (h : ERel ds env a N) (d : Nat) (v : AV) (hv : v.is (a.tmps.getD d undef)) : ERel ds ((d, v) :: env) a N where
  size := h.size
  defers := h.defers
  get := fun k u hu => by
    simp only [getA] at hu
    split at hu
    · rename_i hk; injection hu with hu; subst hu; subst hk; exact hv
    · exact h.get k u hu
theorem ERel.putE {env : Env} {a : Act} (h : ERel ds env a N) {dst : Option Tmp} (hd : dstB N dst = true) (v : AV) (V : Value) (hv : v.is V) : ERel ds (putE dst v env) (a.put dst V) N := by
  cases dst with
  | none => exact h
  | some d => exact h.put d (by simpa [dstB] using hd) v V hv
/-- What a guard's answer is worth. -/
theorem guard_ok {ops : Array Oper} {g : Option (Nat × Bool)} {env : Env} {yes no : Env → Prop} {a : Act} (hE : ERel ds env a N) (h : guardVC ops g env yes no) {o : Oper} (ho : o.guard = g) :
    ∃ env', ERel ds env' a N ∧ ((Region.wanted o (yielded ops a.tmps) = true ∧ yes env') ∨ (Region.wanted o (yielded ops a.tmps) = false ∧ no env')) := by
  unfold guardVC at h
  cases g with
  | none => exact ⟨env, hE, .inl ⟨by simp [Region.wanted, ho], h⟩⟩
  | some q =>
    obtain ⟨j, want⟩ := q
    simp only at h
    cases hd : (ops[j]?).bind (·.dst) with
    | none => simp [hd] at h
    | some d =>
      simp only [hd] at h
      cases hg : getA env d with
      | none => simp [hg] at h
      | some v =>
        cases v <;> simp only [hg] at h <;> try exact h.elim
        case tup xs =>
          have hv := AV.is_good (hE.get d _ hg) rfl
          have hnw : Region.wanted o (yielded ops a.tmps) = false := by
            have : yielded ops a.tmps j = none := by
              unfold yielded
              simp only [hd, Option.bind_some]
              cases ht : a.tmps[d]? with
              | none => rfl
              | some V =>
                have : a.tmps.getD d undef = V := by simp [Array.getD_eq_getD_getElem?, ht]
                rw [this] at hv
                subst hv; rfl
            simp [Region.wanted, ho, this]
          exact ⟨env, hE, .inr ⟨hnw, h⟩⟩
        rename_i b
        have hv := AV.is_good (hE.get d _ hg) rfl
        have hy : yielded ops a.tmps j = some b := by
          unfold yielded
          simp only [hd, Option.bind_some]
          have hsz : d < a.tmps.size := by
            rcases Nat.lt_or_ge d a.tmps.size with h | h
            · exact h
            · simp [Array.getD, Nat.not_lt.2 h, undef, AV.conc] at hv
          have : a.tmps[d]? = some (.bool b) := by
            rw [Array.getElem?_eq_getElem hsz]
            simp [Array.getD, hsz] at hv
            rw [hv]; rfl
          rw [this]
        have hal : ERel ds ((d, .bool b) :: env) a N := hE.alias d (.bool b) (.inr hv)
        by_cases hb : b = want
        · subst hb
          exact ⟨_, hal, .inl ⟨by simp [Region.wanted, ho, hy], by cases b <;> exact h⟩⟩
        · have hb2 : b = !want := by cases b <;> cases want <;> simp_all
          subst hb2
          exact ⟨_, hal, .inr ⟨by simp [Region.wanted, ho, hy], by cases want <;> exact h⟩⟩
theorem listop_ok (hTT : TTok P tt) (hCT : CTok P ct) {env : Env} {mem : Mem} {nx : Nat} {K : KO} {a : Act} {W : World} (hE : ERel ds env a N) {o : Oper} {Q : Exit → Act → World → Prop} (h : listVC tt ct env mem nx o.op K) (hM : MRel pv w0 mem W) :
    o.wp P a W (fun a' W' => ∃ v m n V, v.is V ∧ a' = a.put o.dst V ∧ MRel pv w0 m W' ∧ K v m n) Q := by
  have gen : opVC tt ct env mem nx o.op K → o.wp P a W (fun a' W' => ∃ v m n V, v.is V ∧ a' = a.put o.dst V ∧ MRel pv w0 m W' ∧ K v m n) Q := fun h =>
    Oper.wp_mono (fun a' W' hp => by
      obtain ⟨v, m, n, V, hv, rfl, hm, _, _, _, hK⟩ := hp
      exact ⟨v, m, n, V, hv, rfl, hm, hK⟩) (op_ok (P := P) (pv := pv) (w0 := w0) hTT hCT hE (o := o) rfl (Q := Q) h hM)
  unfold listVC at h
  split at h
  · rename_i c hop
    split at h
    · rename_i F hF
      split at h
      · rename_i m hct
        exact mem_ok hCT hE hop hF hct h hM
      · exact gen (by rw [hop]; exact h)
    · exact gen (by rw [hop]; exact h)
  · exact gen h
theorem list_ok (hTT : TTok P tt) (hCT : CTok P ct) {ops : Array Oper} {K : KE} : ∀ (l : List Oper) (env : Env) (mem : Mem) (nx : Nat) (a : Act) (W : World), vcList tt ct N ops l env mem nx K → ERel ds env a N → MRel pv w0 mem W → wpList P ops (QK ds pv w0 N K) l a W
  | [], env, mem, nx, a, W, h, hE, hM => ⟨.normal, env, mem, nx, rfl, hE, hM, h⟩
  | o :: rest, env, mem, nx, a, W, h, hE, hM => by
    obtain ⟨hd, h⟩ := h
    obtain ⟨env', hE', h⟩ := guard_ok hE h rfl
    unfold wpList
    rcases h with ⟨hw, h⟩ | ⟨hw, h⟩
    · rw [if_pos hw]
      left
      have := listop_ok (P := P) (pv := pv) (w0 := w0) hTT hCT hE' (o := o) (Q := QK ds pv w0 N K) h hM
      refine Oper.wp_mono (fun a' W' hp => ?_) this
      obtain ⟨v, m, n, V, hv, rfl, hm, hK⟩ := hp
      exact list_ok hTT hCT rest _ m n _ W' hK (hE'.putE hd v V hv) hm
    · rw [if_neg (by simp [hw])]
      exact list_ok hTT hCT rest _ mem nx _ W h (hE'.putE hd (.tup []) undef (.inr rfl)) hM
theorem extM_get {m' : Mem} : ∀ (m : Mem), extM m' m → ∀ l e, getA m l = some e → getA m' l = some e
  | [], _, _, _, h => by cases h
  | (k, d) :: r, h, l, e, hl => by
    simp only [getA] at hl
    split at hl
    · rename_i hk; injection hl with hl; subst hl; subst hk; exact h.1
    · exact extM_get r h.2 l e hl
theorem extE_get {m' m : Mem} (h : extE m' m) : ∀ l e, getA m l = some e → getA m' l = some e := by
  rcases h with rfl | h
  · exact fun _ _ h => h
  · exact extM_get m h
theorem mrel_stable (mem : Mem) : Stable (MRel pv w0 mem) := fun W W' h hb => h.down hb
theorem ERel.put_other {env : Env} {a : Act} (h : ERel ds env a N) {d : Nat} (hd : getA env d = none) (V : Value) : ERel ds env (a.put (some d) V) N where
  size := by simp [Act.put, h.size]
  defers := h.defers
  get := fun k u hu => by
    have hne : d ≠ k := fun e => by rw [e, hu] at hd; cases hd
    have := h.get k u hu
    simp only [Act.put]
    rw [show (a.tmps.setIfInBounds d V).getD k undef = a.tmps.getD k undef from by simp [Array.getD_eq_getD_getElem?, Array.getElem?_setIfInBounds, hne]]
    exact this
/-- A plan's item: taken, carried out where it alone may come up, made (perhaps already, in that block). -/
inductive PI where
  | tk (i : Nat) | fz (i : Nat) | ld (i : Nat) | mk (i : Nat) (g : Option Nat)
def PI.ex : PI → PK × Nat
  | .tk i => (.tk, i)
  | .fz i => (.fz, i)
  | .ld i => (.ld, i)
  | .mk i _ => (.ld, i)
def PI.cost : PI → Nat
  | .mk _ (some _) => 0
  | _ => 1
def PI.msr : PI → Nat
  | .mk _ (some _) => 1
  | _ => 2
def costs (l : List PI) : Nat := (l.map PI.cost).sum
def msrs (l : List PI) : Nat := (l.map PI.msr).sum
def PI.early : PI → Option (Nat × Nat)
  | .mk i (some g) => some (i, g)
  | _ => none
def earlys (l : List PI) : List (Nat × Nat) := l.filterMap PI.early
/-- Items tell apart what is made. -/
def PI.fits (flo : List Nat) : PI → Prop
  | .mk i _ => i ∈ flo
  | .tk i | .fz i | .ld i => i ∉ flo
theorem getD_marks (d : Bool) : ∀ (l : List Nat) (L : Array Bool) (k : Nat), k < L.size → (marks L l).getD k d = (L.getD k d || decide (k ∈ l))
  | [], L, k, hk => by simp [marks]
  | i :: l, L, k, hk => by
    show (marks (L.setIfInBounds i true) l).getD k d = _
    rw [getD_marks d l _ k (by simpa using hk)]
    by_cases h : i = k
    · subst h; simp [hk]
    · rw [getD_set_ne d h]
      simp [Ne.symm h]
theorem size_marks : ∀ (l : List Nat) (L : Array Bool), (marks L l).size = L.size
  | [], _ => rfl
  | i :: l, L => by show (marks (L.setIfInBounds i true) l).size = _; rw [size_marks l]; simp
theorem marks_ext {L L' : Array Bool} (hs : L.size = L'.size) (h : ∀ k, k < L.size → L.getD k false = L'.getD k false) : L = L' := by
  apply Array.ext hs
  intro k h1 h2
  have := h k h1
  simpa [h1, h2] using this
theorem unlisted_of {L : Array Bool} {k : Nat} (h : L.getD k true = false) : k < L.size := by
  rcases Nat.lt_or_ge k L.size with h' | h'
  · exact h'
  · simp [Array.getElem?_eq_none h'] at h
theorem ready_more {ops : Array Oper} {md : Region.Mode} {L L' : Array Bool} {j : Nat} (h : j ∈ Region.ready md ops L) (hun : L'.getD j true = false) (hle : ∀ k, L.getD k false = true → L'.getD k false = true) : j ∈ Region.ready md ops L' := by
  obtain ⟨_, o, ho, hall⟩ := mem_ready.1 h
  exact mem_ready.2 ⟨hun, o, ho, fun e he hb => hle _ (hall e he hb)⟩
theorem plan_covers {md : Region.Mode} {ops : Array Oper} {flo : List Nat} : ∀ (plan : List (PK × Nat)) (L : Array Bool) (j : Nat), planX md ops flo plan L = true → j < ops.size → L.size = ops.size → L.getD j true = false → ∃ b, (b, j) ∈ plan
  | [], L, j, h, hj, hs, hun => by
    simp only [planX, List.all_eq_true, List.mem_range] at h
    have := h j hj
    rw [getD_both hun] at this; cases this
  | (b, i) :: r, L, j, h, hj, hs, hun => by
    by_cases hij : i = j
    · subst hij; exact ⟨b, List.mem_cons_self ..⟩
    · have h' : planX md ops flo r (L.setIfInBounds i true) = true := by cases b <;> simp only [planX, Bool.and_eq_true] at h <;> exact h.2
      obtain ⟨b', hb⟩ := plan_covers r _ j h' hj (by simpa using hs) (by rw [getD_set_ne true hij]; exact hun)
      exact ⟨b', List.mem_cons_of_mem _ hb⟩
/-- One more is made. -/
def updPI (x g : Nat) : List PI → List PI
  | [] => []
  | .mk i none :: r => if i = x then .mk i (some g) :: r else .mk i none :: updPI x g r
  | p :: r => p :: updPI x g r
theorem upd_ex (x g : Nat) : ∀ l : List PI, (updPI x g l).map PI.ex = l.map PI.ex
  | [] => rfl
  | .mk i none :: r => by
    unfold updPI
    split
    · rfl
    · rw [List.map_cons, upd_ex x g r]; rfl
  | .mk i (some h) :: r => by unfold updPI; rw [List.map_cons, upd_ex x g r]; rfl
  | .tk i :: r => by unfold updPI; rw [List.map_cons, upd_ex x g r]; rfl
  | .fz i :: r => by unfold updPI; rw [List.map_cons, upd_ex x g r]; rfl
  | .ld i :: r => by unfold updPI; rw [List.map_cons, upd_ex x g r]; rfl
theorem upd_fits {flo : List Nat} (x g : Nat) : ∀ l : List PI, (∀ p ∈ l, p.fits flo) → ∀ p ∈ updPI x g l, p.fits flo
  | [], _, _, hp => by cases hp
  | .mk i none :: r, h, p, hp => by
    unfold updPI at hp
    split at hp
    · rcases List.mem_cons.1 hp with rfl | hp
      · exact h (.mk i none) (List.mem_cons_self ..)
      · exact h p (List.mem_cons_of_mem _ hp)
    · rcases List.mem_cons.1 hp with rfl | hp
      · exact h _ (List.mem_cons_self ..)
      · exact upd_fits x g r (fun q hq => h q (List.mem_cons_of_mem _ hq)) p hp
  | .mk i (some k) :: r, h, p, hp => by
    unfold updPI at hp
    rcases List.mem_cons.1 hp with rfl | hp
    · exact h _ (List.mem_cons_self ..)
    · exact upd_fits x g r (fun q hq => h q (List.mem_cons_of_mem _ hq)) p hp
  | .tk i :: r, h, p, hp => by
    unfold updPI at hp
    rcases List.mem_cons.1 hp with rfl | hp
    · exact h _ (List.mem_cons_self ..)
    · exact upd_fits x g r (fun q hq => h q (List.mem_cons_of_mem _ hq)) p hp
  | .fz i :: r, h, p, hp => by
    unfold updPI at hp
    rcases List.mem_cons.1 hp with rfl | hp
    · exact h _ (List.mem_cons_self ..)
    · exact upd_fits x g r (fun q hq => h q (List.mem_cons_of_mem _ hq)) p hp
  | .ld i :: r, h, p, hp => by
    unfold updPI at hp
    rcases List.mem_cons.1 hp with rfl | hp
    · exact h _ (List.mem_cons_self ..)
    · exact upd_fits x g r (fun q hq => h q (List.mem_cons_of_mem _ hq)) p hp
theorem upd_nums (x g : Nat) : ∀ l : List PI, .mk x none ∈ l → costs (updPI x g l) + 1 = costs l ∧ msrs (updPI x g l) + 1 = msrs l ∧ ∀ p, p ∈ earlys (updPI x g l) ↔ p = (x, g) ∨ p ∈ earlys l
  | [], h => by cases h
  | .mk i none :: r, h => by
    unfold updPI
    split
    · rename_i hi; subst hi
      refine ⟨by simp [costs, PI.cost]; omega, by simp [msrs, PI.msr]; omega, fun p => by simp [earlys, PI.early]⟩
    · rename_i hi
      have h' : PI.mk x none ∈ r := by
        rcases List.mem_cons.1 h with h | h
        · injection h with h; exact absurd h.symm hi
        · exact h
      obtain ⟨h1, h2, h3⟩ := upd_nums x g r h'
      refine ⟨?_, ?_, fun p => ?_⟩
      · simp only [costs, List.map_cons, List.sum_cons] at h1 ⊢; omega
      · simp only [msrs, List.map_cons, List.sum_cons] at h2 ⊢; omega
      · simpa [earlys, PI.early] using h3 p
  | .mk i (some k) :: r, h => by
    unfold updPI
    obtain ⟨h1, h2, h3⟩ := upd_nums x g r (by simpa using h)
    refine ⟨?_, ?_, fun p => ?_⟩
    · simp only [costs, List.map_cons, List.sum_cons] at h1 ⊢; omega
    · simp only [msrs, List.map_cons, List.sum_cons] at h2 ⊢; omega
    · have := h3 p
      simp only [earlys, List.filterMap_cons, PI.early, List.mem_cons] at this ⊢
      rw [this]
      constructor
      · rintro (h | h | h)
        · exact .inr (.inl h)
        · exact .inl h
        · exact .inr (.inr h)
      · rintro (h | h | h)
        · exact .inr (.inl h)
        · exact .inl h
        · exact .inr (.inr h)
  | .tk i :: r, h => by
    unfold updPI
    obtain ⟨h1, h2, h3⟩ := upd_nums x g r (by simpa using h)
    refine ⟨?_, ?_, fun p => by simpa [earlys, PI.early] using h3 p⟩
    · simp only [costs, List.map_cons, List.sum_cons] at h1 ⊢; omega
    · simp only [msrs, List.map_cons, List.sum_cons] at h2 ⊢; omega
  | .fz i :: r, h => by
    unfold updPI
    obtain ⟨h1, h2, h3⟩ := upd_nums x g r (by simpa using h)
    refine ⟨?_, ?_, fun p => by simpa [earlys, PI.early] using h3 p⟩
    · simp only [costs, List.map_cons, List.sum_cons] at h1 ⊢; omega
    · simp only [msrs, List.map_cons, List.sum_cons] at h2 ⊢; omega
  | .ld i :: r, h => by
    unfold updPI
    obtain ⟨h1, h2, h3⟩ := upd_nums x g r (by simpa using h)
    refine ⟨?_, ?_, fun p => by simpa [earlys, PI.early] using h3 p⟩
    · simp only [costs, List.map_cons, List.sum_cons] at h1 ⊢; omega
    · simp only [msrs, List.map_cons, List.sum_cons] at h2 ⊢; omega
/-- What is known of the world: the entries, and what was made already. -/
def SE (tt : TT) (pv : Nat → Prop) (w0 : World) (ops : Array Oper) (pl : List PI) (mem : Mem) (W : World) : Prop :=
  MRel pv w0 mem W ∧ ∀ p ∈ earlys pl, ∃ o e ti, ops[p.1]? = some o ∧ o.op = .alloc e ∧ tt e = some ti ∧ Own W p.2 e ti.zero.vals.toArray
theorem leA_get {α : Type} {l : List (Nat × α)} : ∀ (r : List (Nat × α)), leA l r → ∀ d v, getA r d = some v → getA l d = some v
  | [], _, _, _, h => by cases h
  | (k, u) :: r, h, d, v, hd => by
    simp only [getA] at hd
    split at hd
    · rename_i hk; injection hd with hd; subst hd; subst hk; exact h.1
    · exact leA_get r h.2 d v hd
/-- Memory that says at least as much. -/
def Sup (m F : Mem) : Prop := ∀ l e, getA F l = some e → getA m l = some e
theorem keepM_sup (ks : List Nat) : ∀ m : Mem, Sup m (keepM ks m)
  | [], l, e, h => by cases h
  | (k, d) :: r, l, e, h => by
    unfold keepM at h
    by_cases hk : ks.any (· == k) = true
    · rw [if_pos hk] at h
      simp only [getA] at h ⊢
      split at h
      · rename_i e0; rw [if_pos e0]; exact h
      · rename_i e0; rw [if_neg e0]; exact keepM_sup ks r l e h
    · rw [if_neg hk] at h
      simp only [getA]
      rw [if_neg (fun e0 => hk ?_)]
      · exact keepM_sup ks r l e h
      · subst e0
        have : ∀ (m : Mem), getA (keepM ks m) k = some e → ks.any (· == k) = true := by
          intro m
          induction m with
          | nil => intro h; cases h
          | cons p q ih =>
            obtain ⟨x, y⟩ := p
            intro h
            unfold keepM at h
            by_cases hx : ks.any (· == x) = true
            · rw [if_pos hx] at h
              simp only [getA] at h
              split at h
              · rename_i e1; rw [← e1]; exact hx
              · exact ih h
            · rw [if_neg hx] at h; exact ih h
        exact this r h
theorem SE.good (ops : Array Oper) (pl : List PI) {mem F : Mem} (hF : Sup mem F) : Stable (SE tt pv w0 ops pl mem) ∧ ∀ W, SE tt pv w0 ops pl mem W → MRel pv w0 F W :=
  ⟨fun W W' h hb => ⟨h.1.down hb, fun p hp => by obtain ⟨o, e, ti, h1, h2, h3, h4⟩ := h.2 p hp; exact ⟨o, e, ti, h1, h2, h3, h4.below hb⟩⟩, fun W h => h.1.less hF⟩
/-- What of the frame is known of what was made already. -/
def EA (w0 : World) (ops : Array Oper) (pl : List PI) (mem : Mem) (a : Act) : Prop :=
  (∀ p ∈ earlys pl, w0.heap.size ≤ p.2 ∧ ¬ blkOf mem p.2 ∧ ∀ o d, ops[p.1]? = some o → o.dst = some d → a.tmps.getD d undef = .pointer (some ⟨p.2, 0, none⟩)) ∧ ∀ p ∈ earlys pl, ∀ q ∈ earlys pl, p.2 = q.2 → p.1 = q.1
theorem getA_putE {dst : Option Tmp} {v : AV} {env : Env} {d : Nat} (h : getA env d = none) (hd : dst ≠ some d) : getA (putE dst v env) d = none := by
  cases dst with
  | none => exact h
  | some k => simp only [putE, getA]; rw [if_neg (fun e => hd (by rw [e]))]; exact h
theorem guard_env {ops : Array Oper} {g : Option (Nat × Bool)} {env : Env} {yes no : Env → Prop} {a : Act} (hE : ERel ds env a N) (h : guardVC ops g env yes no) {o : Oper} (ho : o.guard = g) :
    ∃ env', ERel ds env' a N ∧ (∀ d, getA env d = none → getA env' d = none) ∧ ((Region.wanted o (yielded ops a.tmps) = true ∧ yes env') ∨ (Region.wanted o (yielded ops a.tmps) = false ∧ no env')) := by
  have hno : ∀ (d k : Nat) (v u : AV), getA env k = some u → getA env d = none → getA ((k, v) :: env) d = none := fun d k v u hk hd => by
    simp only [getA]; rw [if_neg (fun e => by rw [e, hd] at hk; cases hk)]; exact hd
  unfold guardVC at h
  cases g with
  | none => exact ⟨env, hE, fun _ h => h, .inl ⟨by simp [Region.wanted, ho], h⟩⟩
  | some q =>
    obtain ⟨j, want⟩ := q
    simp only at h
    cases hd : (ops[j]?).bind (·.dst) with
    | none => simp [hd] at h
    | some d =>
      simp only [hd] at h
      cases hg : getA env d with
      | none => simp [hg] at h
      | some v =>
        cases v <;> simp only [hg] at h <;> try exact h.elim
        case tup xs =>
          have hv := AV.is_good (hE.get d _ hg) rfl
          have hnw : Region.wanted o (yielded ops a.tmps) = false := by
            have : yielded ops a.tmps j = none := by
              unfold yielded
              simp only [hd, Option.bind_some]
              cases ht : a.tmps[d]? with
              | none => rfl
              | some V =>
                have : a.tmps.getD d undef = V := by simp [Array.getD_eq_getD_getElem?, ht]
                rw [this] at hv
                subst hv; rfl
            simp [Region.wanted, ho, this]
          exact ⟨env, hE, fun _ h => h, .inr ⟨hnw, h⟩⟩
        rename_i b
        have hv := AV.is_good (hE.get d _ hg) rfl
        have hy : yielded ops a.tmps j = some b := by
          unfold yielded
          simp only [hd, Option.bind_some]
          have hsz : d < a.tmps.size := by
            rcases Nat.lt_or_ge d a.tmps.size with h | h
            · exact h
            · simp [Array.getD, Nat.not_lt.2 h, undef, AV.conc] at hv
          have : a.tmps[d]? = some (.bool b) := by
            rw [Array.getElem?_eq_getElem hsz]
            simp [Array.getD, hsz] at hv
            rw [hv]; rfl
          rw [this]
        have hal : ERel ds ((d, .bool b) :: env) a N := hE.alias d (.bool b) (.inr hv)
        by_cases hb : b = want
        · subst hb
          exact ⟨_, hal, fun k hk => hno k d _ _ hg hk, .inl ⟨by simp [Region.wanted, ho, hy], by cases b <;> exact h⟩⟩
        · have hb2 : b = !want := by cases b <;> cases want <;> simp_all
          subst hb2
          exact ⟨_, hal, fun k hk => hno k d _ _ hg hk, .inr ⟨by simp [Region.wanted, ho, hy], by cases want <;> exact h⟩⟩
theorem getD_set_self (L : Array Bool) (i : Nat) : (L.setIfInBounds i true).getD i true = true := by
  by_cases h : i < L.size <;> simp [Array.getD_eq_getD_getElem?, Array.getElem?_setIfInBounds, h]
theorem plan_unl {md : Region.Mode} {ops : Array Oper} {flo : List Nat} : ∀ (plan : List (PK × Nat)) (L : Array Bool) (b : PK) (j : Nat), planX md ops flo plan L = true → (b, j) ∈ plan → L.getD j true = false
  | [], _, _, _, _, h => by cases h
  | (b', i) :: r, L, b, j, h, hm => by
    have h' : i ∈ Region.ready md ops L ∧ planX md ops flo r (L.setIfInBounds i true) = true := by
      simp only [planX, Bool.and_eq_true] at h
      exact ⟨by simpa using h.1.1, h.2⟩
    rcases List.mem_cons.1 hm with hm | hm
    · injection hm with _ hm; subst hm; exact (mem_ready.1 h'.1).1
    · have h2 := plan_unl r _ b j h'.2 hm
      by_cases hij : i = j
      · subst hij; rw [getD_set_self] at h2; cases h2
      · rwa [getD_set_ne true hij] at h2
theorem marks_un {l : List Nat} {L : Array Bool} {k : Nat} (h : (marks L l).getD k true = false) : L.getD k true = false ∧ k ∉ l := by
  have hk := unlisted_of h
  rw [size_marks] at hk
  rw [getD_marks true l L k hk] at h
  simpa using h
theorem marks_un' {l : List Nat} {L : Array Bool} {k : Nat} (h1 : L.getD k true = false) (h2 : k ∉ l) : (marks L l).getD k true = false := by
  rw [getD_marks true l L k (unlisted_of h1), h1]
  simpa using h2
theorem listed_lt {L : Array Bool} {k : Nat} (h : L.getD k false = true) : k < L.size := by
  rcases Nat.lt_or_ge k L.size with h' | h'
  · exact h'
  · simp [Array.getElem?_eq_none h'] at h
theorem marks_le {l l' : List Nat} {L : Array Bool} {k : Nat} (hs : ∀ x ∈ l, x ∈ l') (h : (marks L l).getD k false = true) : (marks L l').getD k false = true := by
  have hk := listed_lt h
  rw [size_marks] at hk
  rw [getD_marks false l L k hk] at h
  rw [getD_marks false l' L k hk]
  simp only [Bool.or_eq_true, decide_eq_true_eq] at h ⊢
  exact h.imp id (hs k)
theorem marks_base {l : List Nat} {L : Array Bool} {k : Nat} (h : L.getD k false = true) : (marks L l).getD k false = true := by
  rw [getD_marks false l L k (listed_lt h), h]; rfl
theorem marks_set (i : Nat) : ∀ (l : List Nat) (L : Array Bool), (marks L l).setIfInBounds i true = marks (L.setIfInBounds i true) l
  | [], _ => rfl
  | x :: l, L => by
    show (marks (L.setIfInBounds x true) l).setIfInBounds i true = marks ((L.setIfInBounds i true).setIfInBounds x true) l
    rw [marks_set i l]
    by_cases h : x = i
    · subst h; rfl
    · rw [Array.setIfInBounds_comm _ _ h]
theorem mem_earlys {i g : Nat} : ∀ {l : List PI}, (i, g) ∈ earlys l ↔ .mk i (some g) ∈ l := by
  intro l
  simp only [earlys, List.mem_filterMap]
  constructor
  · rintro ⟨p, hp, he⟩
    cases p with
    | mk j h =>
      cases h with
      | none => cases he
      | some h => simp only [PI.early, Option.some.injEq, Prod.mk.injEq] at he; obtain ⟨rfl, rfl⟩ := he; exact hp
    | _ => cases he
  · exact fun h => ⟨_, h, rfl⟩
/-- What is known of a making that may come at any time. -/
def FloI (tt : TT) (N : Nat) (ops : Array Oper) (i : Nat) : Prop :=
  ∃ o e ti d, ops[i]? = some o ∧ o.op = .alloc e ∧ tt e = some ti ∧ o.guard = none ∧ o.dst = some d ∧ d < N ∧ ∀ j oj, ops[j]? = some oj → j ≠ i → oj.dst ≠ some d
theorem floX_spec {ops : Array Oper} {flo : List Nat} (h : floX tt N ops flo = true) : ∀ i ∈ flo, FloI tt N ops i := by
  intro i hi
  have h1 := (List.all_eq_true.1 h) i hi
  cases ho : ops[i]? with
  | none => simp [ho] at h1
  | some o =>
    simp only [ho, Bool.and_eq_true] at h1
    obtain ⟨⟨⟨⟨h1, h2⟩, h3⟩, h4⟩, h5⟩ := h1
    obtain ⟨d, hd⟩ := Option.isSome_iff_exists.1 h3
    cases hop : o.op <;> rw [hop] at h1 <;> try (cases h1; done)
    rename_i e
    obtain ⟨ti, hti⟩ := Option.isSome_iff_exists.1 h1
    refine ⟨o, e, ti, d, ho, hop, hti, by simpa using h2, hd, by simpa [dstB, hd] using h4, fun j oj hj hne hdj => ?_⟩
    have := (List.all_eq_true.1 h5) j (List.mem_range.2 (Array.getElem?_eq_some_iff.1 hj).1)
    simp [hj, hne, hdj, hd] at this
theorem put_getD_ne {a : Act} {dst : Option Tmp} {V : Value} {d : Nat} (h : dst ≠ some d) : (a.put dst V).tmps.getD d undef = a.tmps.getD d undef := by
  cases dst with
  | none => rfl
  | some k =>
    have hne : k ≠ d := fun e => h (by rw [e])
    simp only [Act.put]
    simp [Array.getD_eq_getD_getElem?, Array.getElem?_setIfInBounds, hne]
theorem put_getD_eq {a : Act} {V : Value} {d : Nat} (h : d < a.tmps.size) : (a.put (some d) V).tmps.getD d undef = V := by
  simp only [Act.put]
  simp [Array.getD_eq_getD_getElem?, Array.getElem?_setIfInBounds, h]
theorem Frm.own {mem : Mem} {W W' : World} (h : Frm mem W W') {g : Nat} {t : TypeId} {cs : Array Value} (hg : ¬ blkOf mem g) (ho : Own W g t cs) : Own W' g t cs :=
  (h.2 g ho.lt hg).trans ho
theorem waitB_ok {md : Region.Mode} {ops : Array Oper} {L : Array Bool} {flo l : List Nat} {i : Nat} (hl : ∀ x ∈ l, x ∈ flo) : ∀ (f j : Nat), waitB md ops L flo i f j = true → Waits md ops (marks L l) i j
  | 0, j, h => by cases h
  | f + 1, j, h => by
    unfold waitB at h
    cases hj : ops[j]? with
    | none => simp [hj] at h
    | some o =>
      simp only [hj, Bool.or_eq_true] at h
      rcases h with h | h
      · obtain ⟨e, he, hb⟩ := Array.any_eq_true'.1 h
        simp only [Bool.and_eq_true, beq_iff_eq] at hb
        exact .at hj he hb.1 hb.2
      · obtain ⟨e, he, hb⟩ := Array.any_eq_true'.1 h
        simp only [Bool.and_eq_true, Bool.not_eq_true'] at hb
        obtain ⟨⟨⟨h1, h2⟩, h3⟩, h4⟩ := hb
        refine .by hj he h1 (marks_un' h2 fun hx => ?_) (waitB_ok hl f e.on h4)
        have := hl _ hx
        simp [this] at h3
/-- A drawing region, carried out along its plan, whatever order is picked. -/
theorem plan_ok (hTT : TTok P tt) (hCT : CTok P ct) {ops : Array Oper} {flo : List Nat} {K : Env → Mem → Nat → Prop} {F : Mem} {Q : Exit → Act → World → Prop} (hsel : Region.noSelect ops = true) (hflo : floX tt N ops flo = true) (hQp : ∀ c a w, ¬ Q (.panic c) a w)
    (hQ : ∀ env mem nx a W, K env mem nx → ERel ds env a N → MRel pv w0 mem W → Q .normal a W) :
    ∀ (n : Nat) (pl : List PI), msrs pl = n → ∀ (env : Env) (mem : Mem) (nx : Nat) (L : Array Bool) (a : Act), L.size = ops.size → (∀ p ∈ pl, p.fits flo) → planX .any ops flo (pl.map PI.ex) L = true → EA w0 ops pl mem a → Sup mem F → ERel ds env a N →
      (∀ i ∈ flo, ∀ b, (b, i) ∈ pl.map PI.ex → ∀ o d, ops[i]? = some o → o.dst = some d → getA env d = none) → planVC tt ct N F ops (pl.map PI.ex) env mem nx K →
      wpAnyE P .any ops Q (wrB ops) (MRel pv w0 F) (costs pl) (SE tt pv w0 ops pl mem) (marks L ((earlys pl).map (·.1))) a := by
  intro n
  induction n using Nat.strongRecOn with
  | _ n ih =>
  intro pl hn env mem nx L a hs hfit hX hEA hF hE hno hV
  have hspec := floX_spec hflo
  -- an operation that the plan has now, and what is behind it
  have step : ∀ (i : Nat) (r : List PI), (∀ p ∈ r, p.fits flo) → planX .any ops flo (r.map PI.ex) (L.setIfInBounds i true) = true → ∀ (o : Oper), ops[i]? = some o → (∀ x ∈ flo, ∀ b, (b, x) ∈ r.map PI.ex → x ≠ i) ∧ (∀ x ∈ flo, ∀ b, (b, x) ∈ r.map PI.ex → ∀ o' d, ops[x]? = some o' → o'.dst = some d → o.dst ≠ some d) := by
    intro i r hf hXr o ho
    have h1 : ∀ x ∈ flo, ∀ b, (b, x) ∈ r.map PI.ex → x ≠ i := fun x _ b hx e => by
      have := plan_unl _ _ b x hXr hx
      rw [e, getD_set_self] at this; cases this
    refine ⟨h1, fun x hx b hb o' d ho' hd => ?_⟩
    obtain ⟨o2, _, _, d2, ho2, _, _, _, hd2, _, hu⟩ := hspec x hx
    rw [ho'] at ho2; injection ho2 with ho2; subst ho2
    rw [hd] at hd2; injection hd2 with hd2; subst hd2
    exact hu i o ho (Ne.symm (h1 x hx b hb))
  have efl : ∀ (l : List PI), (∀ p ∈ l, p.fits flo) → ∀ p ∈ earlys l, p.1 ∈ flo ∧ (PK.ld, p.1) ∈ l.map PI.ex := fun l hl p hp => by
    obtain ⟨i, g⟩ := p
    have hm := mem_earlys.1 hp
    exact ⟨hl _ hm, List.mem_map.2 ⟨_, hm, rfl⟩⟩
  have early_put : ∀ (r : List PI) (i : Nat) (o : Oper) (m : Mem) (V : Value), (∀ p ∈ r, p.fits flo) → planX .any ops flo (r.map PI.ex) (L.setIfInBounds i true) = true → ops[i]? = some o → (∀ p ∈ earlys r, p ∈ earlys pl) → (∀ p ∈ earlys r, ¬ blkOf m p.2) → EA w0 ops r m (a.put o.dst V) := by
    intro r i o m V hf hXr ho hsub hb
    refine ⟨fun p hp => ⟨(hEA.1 p (hsub p hp)).1, hb p hp, fun o' d ho' hd => ?_⟩, fun p hp q hq => hEA.2 p (hsub p hp) q (hsub q hq)⟩
    obtain ⟨h1, h2⟩ := efl r hf p hp
    rw [put_getD_ne ((step i r hf hXr o ho).2 p.1 h1 .ld h2 o' d ho' hd)]
    exact (hEA.1 p (hsub p hp)).2.2 o' d ho' hd
  have loud : ∀ (p : PI) (i : Nat) (r : List PI), p.early = none → p.cost = 1 → p.msr = 2 → p.ex = (.ld, i) → pl = p :: r →
      wpAnyE P .any ops Q (wrB ops) (MRel pv w0 F) (costs pl) (SE tt pv w0 ops pl mem) (marks L ((earlys pl).map (·.1))) a := by
    intro p i r hpe hpc hpm hpx hpl
    subst hpl
    have hX0 := hX
    have hV0 := hV
    simp only [List.map_cons, hpx] at hX hV
    simp only [planX, Bool.and_eq_true] at hX
    obtain ⟨⟨hr, hal⟩, hX'⟩ := hX
    have hri : i ∈ Region.ready .any ops L := by simpa using hr
    have he : earlys (p :: r) = earlys r := by simp [earlys, hpe]
    have hc : costs (p :: r) = costs r + 1 := by simp [costs, hpc]; omega
    have hms : msrs (p :: r) = msrs r + 2 := by simp [msrs, hpm]; omega
    have hfr : ∀ p ∈ r, p.fits flo := fun q hq => hfit q (List.mem_cons_of_mem _ hq)
    have hie : ∀ q ∈ earlys r, q.1 ≠ i := fun q hq e => by
      have := plan_unl _ _ .ld q.1 hX' (efl r hfr q hq).2
      rw [e, getD_set_self] at this; cases this
    have hnotin : i ∉ (earlys r).map (·.1) := fun h => by
      obtain ⟨q, hq, e⟩ := List.mem_map.1 h
      exact hie q hq e
    have hri' : i ∈ Region.ready .any ops (marks L ((earlys r).map (·.1))) := ready_more hri (marks_un' (mem_ready.1 hri).1 hnotin) fun k hk => marks_base hk
    rw [hc, he]
    intro w hw
    refine ⟨List.ne_nil_of_mem hri', fun j hj => ?_⟩
    by_cases hji : j = i
    · subst hji
      simp only [planVC] at hV
      cases hoi : ops[j]? with
      | none => simp [hoi] at hV
      | some o =>
        simp only [hoi] at hV
        obtain ⟨hd, h⟩ := hV
        obtain ⟨env', hE', hnone, h⟩ := guard_env hE h rfl
        have hno' : ∀ (V : AV), ∀ x ∈ flo, ∀ b, (b, x) ∈ r.map PI.ex → ∀ o' d, ops[x]? = some o' → o'.dst = some d → getA (putE o.dst V env') d = none := fun V x hx b hb o' d ho' hd' =>
          getA_putE (hnone d (hno x hx b (by rw [List.map_cons]; exact List.mem_cons_of_mem _ hb) o' d ho' hd')) ((step j r hfr hX' o hoi).2 x hx b hb o' d ho' hd')
        unfold wpOp
        simp only [hoi]
        rcases h with ⟨hw1, h⟩ | ⟨hw1, h⟩
        · rw [if_pos hw1]
          left
          have := op_ok (P := P) (pv := pv) (w0 := w0) hTT hCT hE' (o := o) rfl (Q := Q) h hw.1
          refine Oper.wp_mono (fun a' W' hp => ?_) this
          obtain ⟨v, m, n1, V, hv, rfl, hm, hqq, hfrm, hnear, hext, hK⟩ := hp
          have hnb : ∀ q ∈ earlys r, ¬ blkOf m q.2 := fun q hq ⟨l, e, hl, hk⟩ => by
            have hq' : q ∈ earlys (p :: r) := by rw [he]; exact hq
            rcases hnear l e q.2 hl hk with hb | hb
            · exact (hEA.1 q hq').2.1 hb
            · obtain ⟨_, _, _, _, _, _, ho⟩ := hw.2 q hq'
              have := ho.lt
              omega
          have hFm : Sup m F := by
            by_cases hqt : quietOp o.op = true
            · rw [if_pos hqt] at hext; exact fun l e h => extE_get hext l e (hF l e h)
            · rw [if_neg hqt] at hext; exact leA_get F hext
          refine ⟨SE tt pv w0 ops r m, ⟨hm, fun q hq => ?_⟩, SE.good ops r hFm, fun hwq => ?_, ?_⟩
          · have hq' : q ∈ earlys (p :: r) := by rw [he]; exact hq
            obtain ⟨o1, e1, t1, h1, h2, h3, h4⟩ := hw.2 q hq'
            exact ⟨o1, e1, t1, h1, h2, h3, hfrm.own (hEA.1 q hq').2.1 h4⟩
          · have hqt : quietOp o.op = true := by simpa [wrB, hoi] using hwq
            rw [if_pos hqt] at hext
            exact ⟨hqq hqt, fun W h => ⟨h.1.less (extE_get hext), by rw [he]; exact h.2⟩⟩
          · rw [marks_set]
            exact ih (msrs r) (by omega) r rfl _ m n1 _ _ (by simpa using hs) hfr hX' (early_put r j o m V hfr hX' hoi (fun q hq => by rw [he]; exact hq) hnb) hFm (hE'.putE hd v V hv) (hno' v) hK
        · rw [if_neg (by simp [hw1])]
          refine ⟨SE tt pv w0 ops r mem, ⟨hw.1, fun q hq => hw.2 q (by rw [he]; exact hq)⟩, SE.good ops r hF, fun _ => ⟨Below.refl _ _, fun W h => ⟨h.1, by rw [he]; exact h.2⟩⟩, ?_⟩
          rw [marks_set]
          exact ih (msrs r) (by omega) r rfl _ mem nx _ _ (by simpa using hs) hfr hX' (early_put r j o mem undef hfr hX' hoi (fun q hq => by rw [he]; exact hq) fun q hq => (hEA.1 q (by rw [he]; exact hq)).2.1) hF (hE'.putE hd (.tup []) undef (.inr rfl)) (hno' (.tup [])) h
    · obtain ⟨hjun, hje⟩ := marks_un (mem_ready.1 hj).1
      have hjf : j ∈ flo := Classical.byContradiction fun hjf => by
        have : j ∈ Region.ready .any ops (marks L (flo.filter (· != i))) := ready_more hj (marks_un' hjun fun h => hjf (List.mem_filter.1 h).1) fun k hk => marks_le (fun x hx => by
          obtain ⟨q, hq, e⟩ := List.mem_map.1 hx
          subst e
          exact List.mem_filter.2 ⟨(efl r hfr q hq).1, by simpa using hie q hq⟩) hk
        have := (List.all_eq_true.1 hal) j this
        exact hji (by simpa using this)
      have hjlt : j < ops.size := by have := unlisted_of hjun; omega
      obtain ⟨b, hb⟩ := plan_covers _ L j hX0 hjlt hs hjun
      obtain ⟨q, hq, hqx⟩ := List.mem_map.1 hb
      have hmk : PI.mk j none ∈ p :: r := by
        cases q with
        | tk x => injection hqx with _ hqx; subst hqx; exact absurd hjf (hfit _ hq)
        | fz x => injection hqx with _ hqx; subst hqx; exact absurd hjf (hfit _ hq)
        | ld x => injection hqx with _ hqx; subst hqx; exact absurd hjf (hfit _ hq)
        | mk x g =>
          injection hqx with _ hqx; subst hqx
          cases g with
          | none => exact hq
          | some g => exact absurd (List.mem_map.2 ⟨(x, g), by rw [← he]; exact mem_earlys.2 hq, rfl⟩) hje
      obtain ⟨o, e, ti, d, hoj, hop, hte, hgd, hdst, hdN, huniq⟩ := hspec j hjf
      obtain ⟨hc1, hm1, he1⟩ := upd_nums j w.heap.size (p :: r) hmk
      have hi := hTT e ti hte
      have hrun : (Instr.alloc e true (.tuple #[])).run P w = .ok ((.pointer (some ⟨w.heap.size, 0, none⟩))) (w.alloc (.cells ti.zero.vals.toArray e)) := by
        unfold Instr.alloc
        simp only [Sem.run_bind, hi.rzero, Result.andThen_ok, run_newVar', hi.zcells, Sem.run_pure]
      have hBl : Below w.heap.size w (w.alloc (.cells ti.zero.vals.toArray e)) := (Below.refl _ w).alloc (Nat.le_refl _) _
      unfold wpOp
      simp only [hoj]
      rw [if_pos (by simp [Region.wanted, hgd])]
      left
      refine wp_of_value (exec_value' (by simp only [execOp, hop]) hrun) ⟨SE tt pv w0 ops (updPI j w.heap.size (p :: r)) mem, ⟨hw.1.down hBl, fun q hq => ?_⟩, SE.good ops _ hF, fun _ => ⟨hBl, fun W h => ⟨h.1, fun q hq => h.2 q ((he1 q).2 (.inr hq))⟩⟩, ?_⟩
      · rcases (he1 q).1 hq with rfl | hq
        · exact ⟨o, e, ti, hoj, hop, hte, Own.new w e _⟩
        · obtain ⟨o1, e1, t1, h1, h2, h3, h4⟩ := hw.2 q hq
          exact ⟨o1, e1, t1, h1, h2, h3, h4.below hBl⟩
      · have hEA' : EA w0 ops (updPI j w.heap.size (p :: r)) mem (a.put o.dst (.pointer (some ⟨w.heap.size, 0, none⟩))) := by
          refine ⟨fun q hq => ?_, fun q1 hq1 q2 hq2 h12 => ?_⟩
          · rcases (he1 q).1 hq with rfl | hq
            · refine ⟨hw.1.size, fun ⟨l, e', hl, hk⟩ => ?_, fun o' d' ho' hd' => ?_⟩
              · have := (hw.1.ok l e' hl).blk_lt _ hk; simp at this
              · rw [hoj] at ho'; injection ho' with ho'; subst ho'
                rw [hdst] at hd'; injection hd' with hd'; subst hd'
                rw [hdst]
                exact put_getD_eq (by rw [hE.size]; exact hdN)
            · refine ⟨(hEA.1 q hq).1, (hEA.1 q hq).2.1, fun o' d' ho' hd' => ?_⟩
              have hqj : q.1 ≠ j := fun e => hje (List.mem_map.2 ⟨q, by rw [← he]; exact hq, e⟩)
              rw [put_getD_ne (by rw [hdst]; exact fun e => huniq q.1 o' ho' hqj (by rw [hd']; exact e.symm))]
              exact (hEA.1 q hq).2.2 o' d' ho' hd'
          · have hlt : ∀ q ∈ earlys (p :: r), q.2 < w.heap.size := fun q hq => by obtain ⟨_, _, _, _, _, _, h4⟩ := hw.2 q hq; exact h4.lt
            rcases (he1 q1).1 hq1 with rfl | hq1 <;> rcases (he1 q2).1 hq2 with rfl | hq2
            · rfl
            · have := hlt q2 hq2; simp only at h12; omega
            · have := hlt q1 hq1; simp only at h12; omega
            · exact hEA.2 q1 hq1 q2 hq2 h12
        have hcc : costs r = costs (updPI j w.heap.size (p :: r)) := by omega
        have hmark : (marks L ((earlys r).map (·.1))).setIfInBounds j true = marks L ((earlys (updPI j w.heap.size (p :: r))).map (·.1)) := by
          have hsz : ((marks L ((earlys r).map (·.1))).setIfInBounds j true).size = L.size := by simp [size_marks]
          refine marks_ext (by rw [hsz, size_marks]) fun k hk => ?_
          rw [hsz] at hk
          rw [marks_set, getD_marks false _ _ k (by simpa using hk), getD_marks false _ _ k hk]
          have hmem : k ∈ (earlys (updPI j w.heap.size (p :: r))).map (·.1) ↔ k = j ∨ k ∈ (earlys r).map (·.1) := by
            simp only [List.mem_map]
            constructor
            · rintro ⟨q, hq, rfl⟩
              rcases (he1 q).1 hq with rfl | hq
              · exact .inl rfl
              · exact .inr ⟨q, by rw [← he]; exact hq, rfl⟩
            · rintro (rfl | ⟨q, hq, rfl⟩)
              · exact ⟨_, (he1 _).2 (.inl rfl), rfl⟩
              · exact ⟨q, (he1 _).2 (.inr (by rw [he]; exact hq)), rfl⟩
          by_cases hkj : k = j
          · subst hkj
            have : (L.setIfInBounds k true).getD k false = true := by simp [Array.getD_eq_getD_getElem?, Array.getElem?_setIfInBounds, hk]
            rw [this]
            simp [hmem]
          · rw [getD_set_ne false (Ne.symm hkj)]
            congr 1
            simp only [hmem, hkj, false_or]
        rw [hcc, hmark]
        refine ih (msrs (updPI j w.heap.size (p :: r))) (by omega) _ rfl env mem nx L _ hs (upd_fits _ _ _ hfit) (by rw [upd_ex]; exact hX0) hEA' hF ?_ (by rw [upd_ex]; exact hno) (by rw [upd_ex]; exact hV0)
        rw [hdst]
        exact hE.put_other (hno j hjf b hb o d hoj hdst) _
  -- an operation that is taken
  have take : ∀ (p : PI) (i : Nat) (r : List PI), p.early = none → p.cost = 1 → p.msr = 2 → pl = p :: r → (Region.ready .any ops L).contains i = true → Region.free .any ops L i = true → planX .any ops flo (r.map PI.ex) (L.setIfInBounds i true) = true →
      (∃ o, ops[i]? = some o ∧ ∃ (v : AV) (env' : Env) (m : Mem) (n1 : Nat) (Sx : World → Prop), ERel ds env' a N ∧ (∀ d, getA env d = none → getA env' d = none) ∧ dstB N o.dst = true ∧ (∀ W, SE tt pv w0 ops pl mem W → SE tt pv w0 ops pl m W) ∧
        ((∀ W, MRel pv w0 F W → Sx W) ∨ ((∀ W, SE tt pv w0 ops pl mem W → Sx W) ∧ ((List.range ops.size).all fun j => L.getD j true || !wrB ops j || waitB .any ops L flo i ops.size j) = true)) ∧
        ∃ V : Value, v.is V ∧ YieldsIf P ops Sx o V a ∧ Sup m F ∧ NoNew mem m ∧ planVC tt ct N F ops (r.map PI.ex) (putE o.dst v env') m n1 K) →
      wpAnyE P .any ops Q (wrB ops) (MRel pv w0 F) (costs pl) (SE tt pv w0 ops pl mem) (marks L ((earlys pl).map (·.1))) a := by
    intro p i r hpe hpc hpm hpl hr hf hX' h
    subst hpl
    obtain ⟨o, hoi, v, env', m, n1, Sx, hE', hnone, hd, hSm, hx, V, hv, hy, hFm, hnn, hK⟩ := h
    have hfr : ∀ p ∈ r, p.fits flo := fun q hq => hfit q (List.mem_cons_of_mem _ hq)
    have hri : i ∈ Region.ready .any ops L := by simpa using hr
    have he : earlys (p :: r) = earlys r := by simp [earlys, hpe]
    have hc : costs (p :: r) = costs r + 1 := by simp [costs, hpc]; omega
    have hms : msrs (p :: r) = msrs r + 2 := by simp [msrs, hpm]; omega
    have hSE : ∀ m W, SE tt pv w0 ops (p :: r) m W → SE tt pv w0 ops r m W := fun m W h => ⟨h.1, fun q hq => h.2 q (by rw [he]; exact hq)⟩
    have hnotin : i ∉ (earlys r).map (·.1) := fun h => by
      obtain ⟨q, hq, e⟩ := List.mem_map.1 h
      have := plan_unl _ _ .ld q.1 hX' (efl r hfr q hq).2
      rw [e, getD_set_self] at this; cases this
    have hri' : i ∈ Region.ready .any ops (marks L ((earlys r).map (·.1))) := ready_more hri (marks_un' (mem_ready.1 hri).1 hnotin) fun k hk => marks_base hk
    have hno' : ∀ x ∈ flo, ∀ b, (b, x) ∈ r.map PI.ex → ∀ o' d, ops[x]? = some o' → o'.dst = some d → getA (putE o.dst v env') d = none := fun x hx b hb o' d ho' hd' =>
      getA_putE (hnone d (hno x hx b (by rw [List.map_cons]; exact List.mem_cons_of_mem _ hb) o' d ho' hd')) ((step i r hfr hX' o hoi).2 x hx b hb o' d ho' hd')
    have hfree : ∀ j oj, ops[j]? = some oj → j ≠ i → (marks L ((earlys r).map (·.1))).getD j true = false → (∀ e ∈ oj.after, Region.binds .any e = true → e.on ≠ i) → o.apart ops oj = true :=
      fun j oj hj hne hun => Region.free_spec hoi hf j oj hj hne (marks_un hun).1
    have hEAm : EA w0 ops r m (a.put o.dst V) := early_put r i o m _ hfr hX' hoi (fun q hq => by rw [he]; exact hq) fun q hq ⟨l, e, hl, hk⟩ => (hEA.1 q (by rw [he]; exact hq)).2.1 (hnn l e q.2 hl hk)
    have H := ih (msrs r) (by omega) r rfl _ m n1 _ _ (by simpa using hs) hfr hX' hEAm hFm (hE'.putE hd v V hv) hno' hK
    rw [hc, he]
    rw [← marks_set] at H
    refine wpAnyE_first hoi (Region.noSelect_spec hsel) (fun c a w h => absurd h (hQp _ _ _)) (costs r) _ _ _ a (SE.good ops _ hF) (fun W hW => hSE m W (hSm W hW)) (by rw [size_marks]; exact hs) ?_ hfree hri' hy H
    refine hx.imp id fun ⟨h1, hwt⟩ => ⟨h1, fun j oj hj hun hw => ?_⟩
    have := (List.all_eq_true.1 hwt) j (List.mem_range.2 (Array.getElem?_eq_some_iff.1 hj).1)
    rw [(marks_un hun).1, hw] at this
    simp only [Bool.not_true, Bool.or_false, Bool.false_or] at this
    exact waitB_ok (fun x hx => by obtain ⟨q, hq, e⟩ := List.mem_map.1 hx; subst e; exact (efl r hfr q hq).1) _ j this
  cases pl with
  | nil =>
    refine ⟨fun j hj => ?_, fun w hw => hQ env mem nx a w hV hE hw.1⟩
    simp only [List.map_nil, planX, List.all_eq_true, List.mem_range] at hX
    exact hX j hj
  | cons p r =>
    cases p with
    | ld i => exact loud _ i r rfl rfl rfl rfl rfl
    | mk i g =>
      cases g with
      | none => exact loud _ i r rfl rfl rfl rfl rfl
      | some g =>
        have hif : i ∈ flo := hfit _ (List.mem_cons_self ..)
        obtain ⟨o, e, ti, d, hoi, hop, hte, hgd, hdst, hdN, huniq⟩ := hspec i hif
        have hfr : ∀ p ∈ r, p.fits flo := fun q hq => hfit q (List.mem_cons_of_mem _ hq)
        have hX' : planX .any ops flo (r.map PI.ex) (L.setIfInBounds i true) = true := by
          simp only [List.map_cons, PI.ex, planX, Bool.and_eq_true] at hX; exact hX.2
        simp only [List.map_cons, PI.ex, planVC, hoi, hgd, guardVC, hop, opVC, hte] at hV
        obtain ⟨_, hV⟩ := hV
        have hVg := (hV g).2
        have hig : (i, g) ∈ earlys (.mk i (some g) :: r) := List.mem_cons_self ..
        have hsubr : ∀ q ∈ earlys r, q ∈ earlys (.mk i (some g) :: r) := fun q hq => List.mem_cons_of_mem (i, g) hq
        obtain ⟨hg1, hg2, hg3⟩ := hEA.1 _ hig
        have hie : ∀ q ∈ earlys r, q.1 ≠ i := fun q hq e => by
          have := plan_unl _ _ .ld q.1 hX' (efl r hfr q hq).2
          rw [e, getD_set_self] at this; cases this
        have hc0 : costs (.mk i (some g) :: r) = costs r := by simp [costs, PI.cost]
        rw [hc0]
        have hext := (hV g).1
        rw [if_pos (show quietOp (.alloc e) = true from rfl)] at hext
        have hFg : Sup ((nx, .own g e ti.zero) :: mem) F := fun l e h => extE_get hext l e (hF l e h)
        refine wpAnyE_weak (costs r) (SE tt pv w0 ops r ((nx, .own g e ti.zero) :: mem)) _ (marks (L.setIfInBounds i true) ((earlys r).map (·.1))) a (SE.good ops _ hF) (fun W hW => ⟨?_, fun q hq => hW.2 q (hsubr q hq)⟩) ?_
        · obtain ⟨o1, e1, t1, h1, h2, h3, h4⟩ := hW.2 _ hig
          rw [hoi] at h1; injection h1 with h1; subst h1
          rw [hop] at h2; injection h2 with h2; subst h2
          rw [hte] at h3; injection h3 with h3; subst h3
          exact hW.1.add nx _ ⟨h4, hg1, (hTT e ti hte).ones⟩ fun l' e' he' _ k hk hk' => hg2 ⟨l', e', he', by injection hk with hk; rw [hk]; exact hk'⟩
        · refine ih (msrs r) (by simp [msrs, PI.msr] at hn ⊢; omega) r rfl _ _ _ _ a (by simpa using hs) hfr hX' ⟨fun q hq => ⟨(hEA.1 q (hsubr q hq)).1, ?_, (hEA.1 q (hsubr q hq)).2.2⟩, fun q1 h1 q2 h2 => hEA.2 q1 (hsubr q1 h1) q2 (hsubr q2 h2)⟩ hFg (by
            rw [hdst]
            exact hE.alias d (.ptr nx g 0) (.inr (hg3 o d hoi hdst))) (fun x hx b hb o' d' ho' hd' => ?_) hVg
          · rintro ⟨l, e', hl, hk⟩
            simp only [getA] at hl
            split at hl
            · injection hl with hl; subst hl
              injection hk with hk
              exact hie q hq (hEA.2 q (hsubr q hq) _ hig hk.symm)
            · exact (hEA.1 q (hsubr q hq)).2.1 ⟨l, e', hl, hk⟩
          · have hxi := (step i r hfr hX' o hoi).1 x hx b hb
            rw [hdst]
            simp only [putE, getA]
            rw [if_neg (fun e2 => huniq x o' ho' hxi (by rw [hd', e2]))]
            exact hno x hx b (by rw [List.map_cons]; exact List.mem_cons_of_mem _ hb) o' d' ho' hd'
    | tk i =>
      simp only [List.map_cons, PI.ex] at hX hV
      simp only [planX, Bool.and_eq_true] at hX
      obtain ⟨⟨hr, ⟨hf, hnf⟩, hwt⟩, hX'⟩ := hX
      refine take (.tk i) i r rfl rfl rfl rfl hr hf hX' ?_
      simp only [planVC] at hV
      cases hoi : ops[i]? with
      | none => simp [hoi] at hV
      | some o =>
        simp only [hoi] at hV
        obtain ⟨hd, h⟩ := hV
        obtain ⟨env', hE', hnone, h⟩ := guard_env hE h rfl
        refine ⟨o, rfl, ?_⟩
        rcases h with ⟨hw1, h⟩ | ⟨hw1, h⟩
        · obtain ⟨v, m, n1, hg, ⟨hext, hK⟩, hnn, hrun⟩ := pure_ok (P := P) (pv := pv) (w0 := w0) hTT hE' h (o := o) rfl
          exact ⟨v, env', m, n1, MRel pv w0 mem, hE', hnone, hd, fun W hW => ⟨(hrun W hW.1).1, hW.2⟩, .inr ⟨fun W hW => hW.1, hwt⟩, v.conc, AV.is_refl v, .inl ⟨hw1, fun W hW => (hrun W hW).2⟩, fun l e h => extE_get hext l e (hF l e h), hnn, hK⟩
        · exact ⟨.tup [], env', mem, nx, fun _ => True, hE', hnone, hd, fun W hW => hW, .inl fun _ _ => trivial, undef, .inr rfl, .inr ⟨hw1, rfl⟩, hF, NoNew.refl mem, h⟩
    | fz i =>
      simp only [List.map_cons, PI.ex] at hX hV
      simp only [planX, Bool.and_eq_true] at hX
      obtain ⟨⟨hr, hf, hnf⟩, hX'⟩ := hX
      refine take (.fz i) i r rfl rfl rfl rfl hr hf hX' ?_
      simp only [planVC] at hV
      cases hoi : ops[i]? with
      | none => simp [hoi] at hV
      | some o =>
        simp only [hoi] at hV
        obtain ⟨hd, h⟩ := hV
        obtain ⟨env', hE', hnone, h⟩ := guard_env hE h rfl
        refine ⟨o, rfl, ?_⟩
        rcases h with ⟨hw1, h⟩ | ⟨hw1, h⟩
        · obtain ⟨v, m, n1, hg, hK, hnn, hrun⟩ := pure_ok (P := P) (pv := pv) (w0 := w0) hTT hE' h (o := o) rfl
          exact ⟨v, env', mem, nx, MRel pv w0 F, hE', hnone, hd, fun W hW => hW, .inl fun W h => h, v.conc, AV.is_refl v, .inl ⟨hw1, fun W hW => (hrun W hW).2⟩, hF, NoNew.refl mem, hK⟩
        · exact ⟨.tup [], env', mem, nx, fun _ => True, hE', hnone, hd, fun W hW => hW, .inl fun _ _ => trivial, undef, .inr rfl, .inr ⟨hw1, rfl⟩, hF, NoNew.refl mem, h⟩
/-- A plan's items, none of them made as yet. -/
def itemOf (flo : List Nat) : PK × Nat → PI
  | (.tk, i) => .tk i
  | (.fz, i) => .fz i
  | (.ld, i) => if i ∈ flo then .mk i none else .ld i
theorem items_ex (flo : List Nat) : ∀ plan : List (PK × Nat), (plan.map (itemOf flo)).map PI.ex = plan
  | [] => rfl
  | (b, i) :: r => by
    rw [List.map_cons, List.map_cons, items_ex flo r]
    congr 1
    cases b <;> simp only [itemOf] <;> (try split) <;> rfl
theorem items_early (flo : List Nat) : ∀ plan : List (PK × Nat), earlys (plan.map (itemOf flo)) = []
  | [] => rfl
  | (b, i) :: r => by
    have := items_early flo r
    simp only [earlys, List.map_cons, List.filterMap_cons] at this ⊢
    cases b
    · by_cases h : i ∈ flo <;> simp [itemOf, h, PI.early, this]
    · simp [itemOf, PI.early, this]
    · simp [itemOf, PI.early, this]
theorem items_cost (flo : List Nat) : ∀ plan : List (PK × Nat), costs (plan.map (itemOf flo)) = plan.length
  | [] => rfl
  | (b, i) :: r => by
    have := items_cost flo r
    simp only [costs, List.map_cons, List.sum_cons, List.length_cons] at this ⊢
    rw [this]
    cases b
    · by_cases h : i ∈ flo <;> simp [itemOf, h, PI.cost] <;> omega
    · simp [itemOf, PI.cost]; omega
    · simp [itemOf, PI.cost]; omega
theorem plan_tk {md : Region.Mode} {ops : Array Oper} {flo : List Nat} : ∀ (plan : List (PK × Nat)) (L : Array Bool) (b : PK) (i : Nat), planX md ops flo plan L = true → (b, i) ∈ plan → b ≠ .ld → i ∉ flo
  | [], _, _, _, _, h, _ => by cases h
  | (b, j) :: r, L, b', i, h, hm, hb => by
    have h' : planX md ops flo r (L.setIfInBounds j true) = true := by simp only [planX, Bool.and_eq_true] at h; exact h.2
    rcases List.mem_cons.1 hm with hm | hm
    · injection hm with h1 h2; subst h1; subst h2
      cases b' <;> simp only [planX, Bool.and_eq_true] at h
      · exact absurd rfl hb
      · simpa using h.1.2.1.2
      · simpa using h.1.2.2
    · exact plan_tk r _ b' i h' hm hb
theorem delAll_get {ops : Array Oper} : ∀ (flo : List Nat) (env : Env) (d : Nat) (v : AV), getA (delAll env ops flo) d = some v → getA env d = some v ∧ ∀ i ∈ flo, (ops[i]?).bind (·.dst) ≠ some d
  | [], env, d, v, h => ⟨h, fun _ h => by cases h⟩
  | i :: r, env, d, v, h => by
    unfold delAll at h
    cases hb : (ops[i]?).bind (·.dst) with
    | none =>
      simp only [hb] at h
      obtain ⟨h1, h2⟩ := delAll_get r env d v h
      refine ⟨h1, fun x hx => ?_⟩
      rcases List.mem_cons.1 hx with rfl | hx
      · rw [hb]; exact fun e => by cases e
      · exact h2 x hx
    | some k =>
      simp only [hb] at h
      obtain ⟨h1, h2⟩ := delAll_get r _ d v h
      rw [getA_delA] at h1
      split at h1
      · cases h1
      · rename_i hne
        refine ⟨h1, fun x hx => ?_⟩
        rcases List.mem_cons.1 hx with rfl | hx
        · rw [hb]; exact fun e => hne (by injection e with e; exact e.symm)
        · exact h2 x hx
theorem draw_ok (hTT : TTok P tt) (hCT : CTok P ct) (hmix : P.follows .mixedOrders = true) {id : Nat} {ops : Array Oper} {env : Env} {mem : Mem} {nx : Nat} {K : KE} {a : Act} {W : World} (h : DrawVC tt ct N ops env mem nx K) (hE : ERel ds env a N) (hM : MRel pv w0 mem W) :
    (Code.region id ops true).wp P (QK ds pv w0 N K) a W := by
  obtain ⟨plan, flo, ks, hB, h⟩ := h
  simp only [drawB, Bool.and_eq_true, decide_eq_true_eq] at hB
  obtain ⟨⟨⟨hsel, hflo⟩, hlen⟩, hX⟩ := hB
  have hex := items_ex flo plan
  have hearly := items_early flo plan
  have H := plan_ok (P := P) (pv := pv) (w0 := w0) (N := N) (K := K .normal) (F := keepM ks mem) (Q := QK ds pv w0 N K) hTT hCT hsel hflo (fun c a w h => h.no_panic) (fun env mem nx a W hK hE hM => ⟨.normal, env, mem, nx, rfl, hE, hM, hK⟩)
    _ (plan.map (itemOf flo)) rfl (delAll env ops flo) mem nx (Array.replicate ops.size false) a (by simp) (fun p hp => by
      obtain ⟨⟨b, i⟩, hm, rfl⟩ := List.mem_map.1 hp
      cases b
      · simp only [itemOf]
        by_cases h : i ∈ flo
        · rw [if_pos h]; exact h
        · rw [if_neg h]; exact h
      · exact plan_tk plan _ _ i hX hm (by simp)
      · exact plan_tk plan _ _ i hX hm (by simp)) (by rw [hex]; exact hX) ⟨by rw [hearly]; exact fun _ h => (by cases h), by rw [hearly]; exact fun _ h => (by cases h)⟩ (keepM_sup ks mem) (hE.less fun d v h => (delAll_get flo env d v h).1)
    (fun i hi b _ o d ho hd => by
      cases hg : getA (delAll env ops flo) d with
      | none => rfl
      | some v => exact absurd (by rw [ho]; exact hd) ((delAll_get flo env d v hg).2 i hi)) (by rw [hex]; exact h)
  rw [hearly, items_cost, hlen] at H
  exact wp_region_any hmix (wpAny_of_E _ _ _ _ _ H ⟨hM.drew, by rw [hearly]; exact fun _ h => (by cases h)⟩)
theorem QK.mono {K K' : KE} (h : ∀ x env mem nx, K x env mem nx → K' x env mem nx) {e : Exit} {a : Act} {W : World} : QK ds pv w0 N K e a W → QK ds pv w0 N K' e a W :=
  fun ⟨x, env, mem, nx, h1, h2, h3, h4⟩ => ⟨x, env, mem, nx, h1, h2, h3, h x env mem nx h4⟩
theorem leS_ok {env : Env} {mem : Mem} {s : St} {a : Act} {W : World} (h : leS env mem s) (hE : ERel ds env a N) (hM : MRel pv w0 mem W) : ERel ds s.env a N ∧ MRel pv w0 s.mem W :=
  ⟨hE.less (leA_get _ h.1), hM.less (leA_get _ h.2)⟩
theorem wp_loop_ghost' {c : Code} {Q : Exit → Act → World → Prop} {ι : Type} (I : ι → Act → World → Prop) (μ : ι → Nat)
    (round : ∀ i a w, I i a w → c.wp P (Exit.then (fun a' w' => ∃ j, μ j < μ i ∧ I j a' w') Q) a w) : ∀ i a w, I i a w → (Code.loop c).wp P Q a w := by
  intro i a w h₀ b k cs
  have key : ∀ n i a w, μ i = n → I i a w →
      ∃ e a' w', Q e a' w' ∧ Arrives P (lone (b.at a (.code c :: .inLoop c :: k)) cs w) b k cs e a' w' := by
    intro n
    induction n using Nat.strongRecOn with
    | _ n ih =>
      intro i a w hn hI
      obtain ⟨e, a₁, w₁, hq, harr⟩ := round i a w hI b (.inLoop c :: k) cs
      cases e with
      | normal =>
        obtain ⟨j, hlt, hI₁⟩ := hq
        obtain ⟨e₂, a₂, w₂, hq₂, harr₂⟩ := ih (μ j) (hn ▸ hlt) j a₁ w₁ rfl hI₁
        exact ⟨e₂, a₂, w₂, hq₂, .of_steps (Steps.trans harr (.one step_inLoop)) harr₂⟩
      | exit id => exact ⟨_, a₁, w₁, hq, .pass (x := .inLoop c) rfl (fun _ _ => .inl (by simp)) harr⟩
      | goto l => exact ⟨_, a₁, w₁, hq, .pass (x := .inLoop c) rfl (fun _ _ => .inl (by simp)) harr⟩
      | ret => exact ⟨_, a₁, w₁, hq, .pass (x := .inLoop c) rfl (fun _ _ => .inl (by simp)) harr⟩
      | panic ch => exact ⟨_, a₁, w₁, hq, .pass (x := .inLoop c) rfl (fun _ _ => .inl (by simp)) harr⟩
      | outgrown => exact ⟨_, a₁, w₁, hq, .pass (x := .inLoop c) rfl (fun _ _ => .inl (by simp)) harr⟩
  obtain ⟨e, a', w', hq, harr⟩ := key _ i a w rfl h₀
  exact ⟨e, a', w', hq, .of_steps (.one step_loop) harr⟩
theorem code_ok (hTT : TTok P tt) (hCT : CTok P ct) (hmix : P.follows .mixedOrders = true) : ∀ (c : Code) (env : Env) (mem : Mem) (nx : Nat) (K : KE) (a : Act) (W : World), vcCode tt ct N c env mem nx K → ERel ds env a N → MRel pv w0 mem W → c.wp P (QK ds pv w0 N K) a W
  | .skip, env, mem, nx, K, a, W, h, hE, hM => wp_skip ⟨.normal, env, mem, nx, rfl, hE, hM, h⟩
  | .region _ ops true, env, mem, nx, K, a, W, h, hE, hM => draw_ok hTT hCT hmix h hE hM
  | .region _ ops false, env, mem, nx, K, a, W, h, hE, hM => wp_region_list (list_ok hTT hCT _ env mem nx a W h hE hM)
  | .seq x y, env, mem, nx, K, a, W, h, hE, hM => wp_seq (Code.wp_mono (fun e a' W' hq => by
      obtain ⟨ex, env1, mem1, nx1, rfl, hE1, hM1, hK⟩ := hq
      cases ex with
      | normal => exact code_ok hTT hCT hmix y env1 mem1 nx1 K a' W' hK hE1 hM1
      | exit id => exact ⟨.exit id, env1, mem1, nx1, rfl, hE1, hM1, hK⟩
      | ret => exact ⟨.ret, env1, mem1, nx1, rfl, hE1, hM1, hK⟩) (code_ok hTT hCT hmix x env mem nx _ a W h hE hM))
  | .cond c x y, env, mem, nx, K, a, W, h, hE, hM => by
    simp only [vcCode] at h
    cases hc : ev env c <;> simp only [hc] at h <;> try exact h.elim
    rename_i b
    have e0 := ev_is hE hc rfl
    cases b
    · exact wp_cond_false e0 (code_ok hTT hCT hmix y env mem nx K a W h hE hM)
    · exact wp_cond_true e0 (code_ok hTT hCT hmix x env mem nx K a W h hE hM)
  | .block id b, env, mem, nx, K, a, W, h, hE, hM => wp_block (Code.wp_mono (fun e a' W' hq => by
      obtain ⟨ex, env1, mem1, nx1, rfl, hE1, hM1, hK⟩ := hq
      cases ex with
      | normal => exact ⟨.normal, env1, mem1, nx1, rfl, hE1, hM1, hK⟩
      | exit id' =>
        simp only [Ex.conv, Exit.inBlock, blockK] at hK ⊢
        split
        · rw [if_pos (by assumption)] at hK; exact ⟨.normal, env1, mem1, nx1, rfl, hE1, hM1, hK⟩
        · rw [if_neg (by assumption)] at hK; exact ⟨.exit id', env1, mem1, nx1, rfl, hE1, hM1, hK⟩
      | ret => exact ⟨.ret, env1, mem1, nx1, rfl, hE1, hM1, hK⟩) (code_ok hTT hCT hmix b env mem nx _ a W h hE hM))
  | .loop b, env, mem, nx, K, a, W, h, hE, hM => by
    rcases h with ⟨ι, I, μ, ⟨i, h0⟩, h⟩ | ⟨ι, I, μ, h0, h⟩
    · obtain ⟨hE0, hM0⟩ := leS_ok h0 hE hM
      refine wp_loop_ghost' (ι := ι) (fun i a w => ERel ds (I i).env a N ∧ MRel pv w0 (I i).mem w) μ (fun i a w hI => ?_) i a W ⟨hE0, hM0⟩
      refine Code.wp_mono (fun e a' W' hq => ?_) (code_ok hTT hCT hmix b _ _ _ _ a w (h i) hI.1 hI.2)
      obtain ⟨ex, env1, mem1, nx1, rfl, hE1, hM1, hK⟩ := hq
      cases ex with
      | normal =>
        obtain ⟨j, hj, hle⟩ := hK
        exact ⟨j, hj, leS_ok hle hE1 hM1⟩
      | exit id => exact ⟨.exit id, env1, mem1, nx1, rfl, hE1, hM1, hK⟩
      | ret => exact ⟨.ret, env1, mem1, nx1, rfl, hE1, hM1, hK⟩
    · obtain ⟨i, _, hE0, hM0⟩ := h0 ds pv w0 W a N hE hM
      refine wp_loop_ghost' (ι := ι) (fun i a w => ERel ds (I i).env a N ∧ MRel pv w0 (I i).mem w) μ (fun i a w hI => ?_) i a W ⟨hE0, hM0⟩
      refine Code.wp_mono (fun e a' W' hq => ?_) (code_ok hTT hCT hmix b _ _ _ _ a w (h i) hI.1 hI.2)
      obtain ⟨ex, env1, mem1, nx1, rfl, hE1, hM1, hK⟩ := hq
      cases ex with
      | normal =>
        obtain ⟨j, hj, hle⟩ := hK ds pv w0 W' a' N hE1 hM1
        exact ⟨j, hj, hle⟩
      | exit id => exact ⟨.exit id, env1, mem1, nx1, rfl, hE1, hM1, hK⟩
      | ret => exact ⟨.ret, env1, mem1, nx1, rfl, hE1, hM1, hK⟩
  | .exit id, env, mem, nx, K, a, W, h, hE, hM => wp_exit ⟨.exit id, env, mem, nx, rfl, hE, hM, h⟩
  | .ret, env, mem, nx, K, a, W, h, hE, hM => wp_ret ⟨.ret, env, mem, nx, rfl, hE, hM, h⟩
  | .rangeFunc .., _, _, _, _, _, _, h, _, _ => h.elim
  | .scope _, _, _, _, _, _, _, h, _, _ => h.elim
  | .label _, _, _, _, _, _, _, h, _, _ => h.elim
  | .goto _, _, _, _, _, _, _, h, _, _ => h.elim
  | .refuse _, _, _, _, _, _, _, h, _, _ => h.elim
end
end Go.Proofs.Ytjleiifcigojoaa
