/- What is owed for a function, told without a world. For any program. -/
import Derived.Test.YtjleiifcigojoaaCode
namespace Go.Proofs.Ytjleiifcigojoaa
open Go Go.RowKit
set_option linter.unusedVariables false
set_option linter.unusedSimpArgs false
variable {ds : List Deferred}
/-- A result as a contract tells it. -/
def resV1 (tt : TT) (mem : Mem) (t : TypeId) (v : AV) (K : CR1 → Prop) : Prop :=
  match v with
  | .ros l A n c => (match getA mem l with
    | some (.ro A' c' cs) => (A' = A ∧ c' = c ∧ cs.len = n) ∧ K (.al cs)
    | _ => False)
  | .slc l g off len cap => (match getA mem l with
    | some (.own g' t cs) => (g' = g ∧ off + len ≤ cs.len ∧ len ≤ cap ∧ cs.len ≤ 9223372036854775807) ∧ K (.s (cs.part off len))
    | _ => False)
  | .grow l v n => (match getA mem l with
    | some (.row v' e cs) => (v' = v ∧ cs.len = n) ∧ K (.s cs)
    | _ => False)
  | .nils => K (.s ((zOf tt t).part 0 0))
  | v => v.plain = true ∧ K (.v v)
def resVC (tt : TT) (env : Env) (mem : Mem) (r : ResultVar) (t : TypeId) (K : CR1 → Prop) : Prop :=
  match r with
  | .tmp d => resV1 tt mem t (ev env (.tmp d)) K
  | .cell p ty => (match tt ty with
    | some i => loadVC mem i (ev env (.tmp p)) fun v => resV1 tt mem t v K
    | none => False)
def ressVC (tt : TT) (env : Env) (mem : Mem) : List ResultVar → List TypeId → (List CR1 → Prop) → Prop
  | [], [], K => K []
  | r :: rs, t :: ts, K => resVC tt env mem r t fun x => ressVC tt env mem rs ts fun xs => K (x :: xs)
  | _, _, _ => False
def retR (tt : TT) (rs : List ResultVar) (ts : List TypeId) (env : Env) (mem : Mem) (K : CR → Prop) : Prop :=
  match rs with
  | [r] => (match ts with
    | [t] => resVC tt env mem r t fun x => K (.one x)
    | _ => False)
  | rs => ressVC tt env mem rs ts fun xs => K (.tup xs)
def retVC (tt : TT) (rs : List ResultVar) (ts : List TypeId) (K : CR → Prop) : KE := fun e env mem nx =>
  match e with
  | .exit _ => False
  | _ => retR tt rs ts env mem K
/-- What comes in, in its slots. -/
def entryVC : List CA → Nat → Env → Mem → (Env → Mem → Nat → Prop) → Prop
  | [], i, env, mem, K => K env mem i
  | .v a :: r, i, env, mem, K => entryVC r (i + 1) ((i, a) :: env) mem K
  | .s cs :: r, i, env, mem, K => ∀ A c, cs.len ≤ c → entryVC r (i + 1) ((i, .ros i A cs.len c) :: env) ((i, .ro A c cs) :: mem) K
section
variable {P : Program} {tt : TT} {ct : CTab} {w0 : World} {N : Nat}
def pvOf (vals : List Value) (k : Nat) : Prop := ∃ u ∈ vals, blkV u = some k
theorem resV1_ok {mem : Mem} {t : TypeId} {v : AV} {K : CR1 → Prop} {vals : List Value} {W : World} (hM : MRel (pvOf vals) w0 mem W) (h : resV1 tt mem t v K) : ∃ r, K r ∧ v.good = true ∧ resOk1 vals w0 W r v.conc := by
  cases v with
  | ros l A n c =>
    simp only [resV1] at h
    cases hg : getA mem l with
    | none => simp [hg] at h
    | some e =>
      rw [hg] at h
      cases e with
      | ro A' c' cs =>
        obtain ⟨⟨rfl, rfl, rfl⟩, hK⟩ := h
        obtain ⟨h1, h2, h3⟩ := hM.ok _ _ hg
        exact ⟨.al cs, hK, rfl, A', c', rfl, h2, h1, fun k hk => ⟨(h3 k hk).2, (h3 k hk).1⟩⟩
      | _ => exact h.elim
  | slc l g off len cap =>
    simp only [resV1] at h
    cases hg : getA mem l with
    | none => simp [hg] at h
    | some e =>
      rw [hg] at h
      cases e with
      | own g' t cs =>
        obtain ⟨⟨rfl, h1, h2, h4⟩, hK⟩ := h
        obtain ⟨ho, hb, h3⟩ := hM.ok _ _ hg
        have hl : (cs.part off len).len = len := by rw [Cells.part_len]; omega
        refine ⟨.s (cs.part off len), hK, rfl, some ⟨g', off, none⟩, cap, by rw [hl]; rfl, by omega, ⟨by rw [Cells.vals_length, hl]; omega, fun i x hx => ⟨g', off, rfl, ?_⟩⟩, fun k hk => ?_⟩
        · rw [ho.cell]
          rw [Cells.vals_part, List.getElem?_take] at hx
          split at hx
          · rw [List.getElem?_drop] at hx; simpa using hx
          · cases hx
        · injection hk with hk; subst hk; exact ⟨hb, ho.lt⟩
      | _ => exact h.elim
  | grow l v n =>
    simp only [resV1] at h
    cases hg : getA mem l with
    | none => simp [hg] at h
    | some e =>
      rw [hg] at h
      cases e with
      | row v' e cs =>
        obtain ⟨⟨rfl, rfl⟩, hK⟩ := h
        have hme := hM.ok _ _ hg
        obtain ⟨ho, h3⟩ := hme
        have ho' : W.ownsRow w0.heap.size e 1 v' cs.len (cs.vals.map id) := by rw [List.map_id]; exact ho
        obtain ⟨A, c, h1, h2, h4, h5⟩ := owns_sl ho'
        refine ⟨.s cs, hK, rfl, A, c, h1, h2, h5, fun k hk => ?_⟩
        have hlt := MEok.blk_lt (pv := pvOf vals) (w0 := w0) (e := .row v' e cs) ⟨ho, h3⟩ k (by
          subst h1
          cases A with
          | none => cases hk
          | some a => exact hk)
        refine ⟨?_, hlt⟩
        rcases ho.2 with ⟨rfl, _⟩ | ⟨g, cap, cur, rfl, hg0, _⟩
        · injection h1 with h1 _ _; subst h1; cases hk
        · injection h1 with h1 _ _; subst h1; injection hk with hk; subst hk; exact hg0
      | _ => exact h.elim
  | nils =>
    simp only [resV1] at h
    refine ⟨_, h, rfl, none, 0, ?_, ?_, ?_, fun k hk => by cases hk⟩
    · have : ((zOf tt t).part 0 0).len = 0 := by rw [Cells.part_len]; omega
      rw [this]; rfl
    · rw [Cells.part_len]; omega
    · have : ((zOf tt t).part 0 0).vals = [] := by rw [Cells.vals_part]; simp
      rw [this]; exact Sl.nil W none
  | bad => exact absurd h.1 (by simp [AV.plain])
  | raw v => exact absurd h.1 (by simp [AV.plain])
  | _ => exact ⟨.v _, h.2, rfl, rfl, rfl⟩
/-- One result, out of the frame. -/
def Res1 (P : Program) (tmps : Array Value) (W : World) (r : ResultVar) (V : Value) : Prop :=
  match r with
  | .tmp d => V = tmps.getD d undef
  | .cell p ty => ∃ ad, tmps.getD p undef = .pointer (some ad) ∧ (loadVar ty ad).run P W = .ok V W
theorem resVC_ok (hTT : TTok P tt) {env : Env} {mem : Mem} {r : ResultVar} {t : TypeId} {K : CR1 → Prop} {vals : List Value} {W : World} {a : Act} (hE : ERel ds env a N) (hM : MRel (pvOf vals) w0 mem W) (h : resVC tt env mem r t K) :
    ∃ x V, K x ∧ resOk1 vals w0 W x V ∧ Res1 P a.tmps W r V := by
  cases r with
  | tmp d =>
    obtain ⟨x, hK, hg, hr⟩ := resV1_ok (tt := tt) hM h
    exact ⟨x, _, hK, hr, (ev_is hE (x := .tmp d) rfl hg).symm⟩
  | cell p ty =>
    simp only [resVC] at h
    cases ht : tt ty with
    | none => simp [ht] at h
    | some i =>
      simp only [ht] at h
      have hg : (ev env (.tmp p)).good = true := by
        cases hx : ev env (.tmp p) <;> first | rfl | (rw [hx] at h; exact h.elim)
      obtain ⟨u, h1, h2, h3⟩ := load_ok (P := P) (pv := pvOf vals) (w0 := w0) hTT ht h
      obtain ⟨x, hK, _, hr⟩ := resV1_ok (tt := tt) hM h2
      refine ⟨x, _, hK, hr, ?_⟩
      have := h3 W hM
      have he : a.tmps.getD p undef = (ev env (.tmp p)).conc := ev_is hE (x := .tmp p) rfl hg
      rw [← he] at this
      unfold Instr.loadAt Instr.sureAddr at this
      unfold Res1
      cases hq : a.tmps.getD p undef with
      | pointer A =>
        rw [hq] at this
        cases A with
        | none => simp [stuck, Sem.run] at this
        | some ad => exact ⟨ad, hq, by simpa using this⟩
      | _ => rw [hq] at this; simp [stuck, Sem.run] at this
theorem ressVC_ok (hTT : TTok P tt) {env : Env} {mem : Mem} {vals : List Value} {W : World} {a : Act} (hE : ERel ds env a N) (hM : MRel (pvOf vals) w0 mem W) : ∀ (rs : List ResultVar) (ts : List TypeId) (K : List CR1 → Prop), ressVC tt env mem rs ts K →
    ∃ xs Vs, K xs ∧ ressOk vals w0 W xs Vs ∧ Vs.length = rs.length ∧ ∀ (j : Nat) (r : ResultVar) (V : Value), rs[j]? = some r → Vs[j]? = some V → Res1 P a.tmps W r V
  | [], [], K, h => ⟨[], [], h, trivial, rfl, fun j r V h => by simp at h⟩
  | [], _ :: _, K, h => h.elim
  | _ :: _, [], K, h => h.elim
  | r :: rs, t :: ts, K, h => by
    obtain ⟨x, V, h, h1, h2⟩ := resVC_ok (P := P) hTT hE hM h
    obtain ⟨xs, Vs, h, h3, h4, h5⟩ := ressVC_ok hTT hE hM rs ts _ h
    refine ⟨x :: xs, V :: Vs, h, ⟨h1, h3⟩, by simp [h4], fun j r' V' hr hV => ?_⟩
    cases j with
    | zero => simp at hr hV; subst hr; subst hV; exact h2
    | succ j => exact h5 j r' V' (by simpa using hr) (by simpa using hV)
/-- A function's results, out of its frame. -/
theorem results_run {fn : Func} {tmps : Array Value} {W : World} {rs : List ResultVar} (h : fn.results = rs.toArray) {Vs : List Value} (hl : Vs.length = rs.length)
    (hv : ∀ (j : Nat) (r : ResultVar) (V : Value), rs[j]? = some r → Vs[j]? = some V → Res1 P tmps W r V) :
    (results fn tmps).run P W = .ok (match Vs with | [v] => v | vs => .tuple vs.toArray) W := by
  have key : ∀ (rs : List ResultVar) (Vs : List Value), Vs.length = rs.length → (∀ (j : Nat) (r : ResultVar) (V : Value), rs[j]? = some r → Vs[j]? = some V → Res1 P tmps W r V) →
      (rs.mapM fun r => (match r with | .tmp t => pure (tmps.getD t undef) | .cell a t => do loadVar t (← asAddr (tmps.getD a undef)) : Sem Value)).run P W = .ok Vs W := by
    intro rs
    induction rs with
    | nil => intro Vs hl _; obtain rfl := List.eq_nil_of_length_eq_zero hl; rfl
    | cons r rs ih =>
      intro Vs hl hv
      match Vs, hl with
      | V :: Vs, hl =>
        have h1 := hv 0 r V rfl rfl
        have h2 := ih Vs (by simpa using hl) fun j r' V' hr hV => hv (j + 1) r' V' (by simpa using hr) (by simpa using hV)
        rw [List.mapM_cons]
        cases r with
        | tmp d =>
          simp only [Res1] at h1
          simp only [Sem.run_bind, Sem.run_pure, Result.andThen_ok, h2, h1]
        | cell p ty =>
          obtain ⟨ad, ha, hr⟩ := h1
          have hq : (asAddr (tmps.getD p undef)).run P W = .ok ad W := by rw [ha]; rfl
          simp only [Sem.run_bind, hq, Sem.run_pure, Result.andThen_ok, hr, h2]
  have hk := key rs Vs hl hv
  unfold results
  rw [h, Array.mapM_eq_mapM_toList]
  simp only [map_eq_pure_bind, bind_assoc, pure_bind, Sem.run_bind]
  refine (congrArg (fun r => Result.andThen r _) hk).trans ?_
  simp only [Result.andThen_ok, Sem.run_pure]
  match Vs with
  | [] => rfl
  | [v] => rfl
  | v :: u :: r => simp
theorem entry_ok {vals0 : List Value} {K : Env → Mem → Nat → Prop} {W : World} : ∀ (cas : List CA) (vals : List Value) (i : Nat) (env : Env) (mem : Mem) (a : Act), entryVC cas i env mem K → argsOk W cas vals → (∀ u ∈ vals, u ∈ vals0) → ERel ds env a N → MRel (pvOf vals0) W mem W →
    (∀ l e, getA mem l = some e → e.mine = false) → (∀ j v, vals[j]? = some v → a.tmps.getD (i + j) undef = v) → ∃ env mem nx, ERel ds env a N ∧ MRel (pvOf vals0) W mem W ∧ K env mem nx
  | [], [], i, env, mem, a, h, _, _, hE, hM, _, _ => ⟨env, mem, i, hE, hM, h⟩
  | [], _ :: _, _, _, _, _, _, ha, _, _, _, _, _ => ha.elim
  | _ :: _, [], _, _, _, _, _, ha, _, _, _, _, _ => ha.elim
  | .v x :: cas, V :: vals, i, env, mem, a, h, ha, hsub, hE, hM, hro, hg => by
    have hV := hg 0 V rfl
    refine entry_ok cas vals (i + 1) _ mem a h ha.2 (fun u hu => hsub u (List.mem_cons_of_mem _ hu)) (hE.alias i x (.inr (by rw [Nat.add_zero] at hV; rw [hV]; exact ha.1.2))) hM hro fun j v hj => ?_
    have := hg (j + 1) v (by simpa using hj)
    rwa [show i + 1 + j = i + (j + 1) by omega]
  | .s cs :: cas, V :: vals, i, env, mem, a, h, ha, hsub, hE, hM, hro, hg => by
    obtain ⟨⟨A, c, rfl, hlc, hs, hk⟩, ha2⟩ := ha
    have hV := hg 0 _ rfl
    refine entry_ok cas vals (i + 1) _ ((i, .ro A c cs) :: mem) a (h A c hlc) ha2 (fun u hu => hsub u (List.mem_cons_of_mem _ hu)) (hE.alias i (.ros i A cs.len c) (.inr (by rw [Nat.add_zero] at hV; rw [hV]; rfl)))
      (hM.add i (.ro A c cs) ⟨hs, hlc, fun k hk2 => ⟨hk k hk2, .inr ⟨_, hsub _ (List.mem_cons_self ..), ?_⟩⟩⟩ fun l' e' he' hm => ?_) (fun l e he => ?_) fun j v hj => ?_
    · cases A with
      | none => cases hk2
      | some ad => exact hk2
    · rcases hm with hm | hm
      · cases hm
      · rw [hro l' e' he'] at hm; cases hm
    · simp only [getA] at he
      split at he
      · injection he with he; subst he; rfl
      · exact hro l e he
    · have := hg (j + 1) v (by simpa using hj)
      rwa [show i + 1 + j = i + (j + 1) by omega]
theorem ret_ok (hTT : TTok P tt) {fn : Func} {rs : List ResultVar} (hr : fn.results = rs.toArray) {ts : List TypeId} {env : Env} {mem : Mem} {vals : List Value} {W : World} {a : Act} {K : CR → Prop} (hE : ERel ds env a N) (hM : MRel (pvOf vals) w0 mem W) (h : retR tt rs ts env mem K) :
    ∃ v, (results fn a.tmps).run P W = .ok v W ∧ ∃ r, resOk vals w0 W r v ∧ K r := by
  match rs, hr, h with
  | [r], hr, h =>
    match ts, h with
    | [t], h =>
      obtain ⟨x, V, hK, h1, h2⟩ := resVC_ok (P := P) hTT hE hM h
      have := results_run (P := P) (fn := fn) (tmps := a.tmps) (W := W) hr (Vs := [V]) rfl (fun j r' V' hr' hV' => by
        cases j with
        | zero => simp at hr' hV'; subst hr'; subst hV'; exact h2
        | succ j => simp at hr')
      exact ⟨V, this, .one x, h1, hK⟩
    | [], h => exact h.elim
    | _ :: _ :: _, h => exact h.elim
  | [], hr, h =>
    obtain ⟨xs, Vs, hK, h1, h2, h3⟩ := ressVC_ok (P := P) hTT hE hM [] ts _ h
    obtain rfl := List.eq_nil_of_length_eq_zero h2
    exact ⟨.tuple #[], results_run (P := P) (fn := fn) (tmps := a.tmps) (W := W) hr (Vs := []) rfl h3, .tup xs, ⟨[], rfl, h1⟩, hK⟩
  | r1 :: r2 :: rs, hr, h =>
    obtain ⟨xs, Vs, hK, h1, h2, h3⟩ := ressVC_ok (P := P) hTT hE hM (r1 :: r2 :: rs) ts _ h
    match Vs, h1, h2, h3 with
    | v :: u :: r, h1, h2, h3 => exact ⟨_, results_run (P := P) (fn := fn) (tmps := a.tmps) (W := W) hr h2 h3, .tup xs, ⟨v :: u :: r, rfl, h1⟩, hK⟩
/-- A function's contract, out of what is owed for its body. -/
theorem sound_vc (hTT : TTok P tt) (hCT : CTok P ct) (hmix : P.follows .mixedOrders = true) {F : FuncId} {fn : Func} {code : Code} (hf : P.funcs[F]? = some fn) (hb : fn.body = some code) (hn : (fn.name == "runtime.NumGoroutine") = false) {rs : List ResultVar} (hr : fn.results = rs.toArray) {ts : List TypeId} {C : CT} {k : Nat}
    (h : ∀ cas K, C cas K → cas.length ≤ fn.ntmps ∧ entryVC cas 0 [] [] fun env mem nx => vcCode tt ct fn.ntmps code env mem nx (retVC tt rs ts K)) : Sound P F C := by
  intro cas K W vals ha hC
  obtain ⟨hlen, h⟩ := h cas K hC
  refine ⟨⟨fn, hf, hn, by rw [hb]; rfl⟩, calls_of_wp hf hb ?_⟩
  have hvl : vals.length = cas.length := by
    have : ∀ (cas : List CA) (vals : List Value), argsOk W cas vals → vals.length = cas.length := by
      intro cas
      induction cas with
      | nil => intro vals h; cases vals with
        | nil => rfl
        | cons _ _ => exact h.elim
      | cons c cs ih => intro vals h; cases vals with
        | nil => exact h.elim
        | cons v vs => simp [ih vs h.2]
    exact this cas vals ha
  have hsz : (vals.toArray ++ Array.replicate (fn.ntmps - vals.toArray.size) undef).size = fn.ntmps := by simp; omega
  obtain ⟨env, mem, nx, hE, hM, h⟩ := entry_ok (N := fn.ntmps) (vals0 := vals) (W := W) cas vals 0 [] [] { tmps := vals.toArray ++ Array.replicate (fn.ntmps - vals.toArray.size) undef, defers := [] } h ha (fun _ h => h)
    ⟨hsz, rfl, fun _ _ h => by cases h⟩ (MRel.fresh _ W) (fun _ _ h => by cases h) (fun j v hj => by
      have hjl : j < vals.length := (List.getElem?_eq_some_iff.1 hj).1
      have hv : vals[j] = v := (List.getElem?_eq_some_iff.1 hj).2
      have : j < (vals.toArray ++ Array.replicate (fn.ntmps - vals.toArray.size) undef).size := by rw [hsz]; omega
      simp only [Nat.zero_add, Array.getD, this, dif_pos]
      rw [Array.getInternal_eq_getElem, Array.getElem_append_left (by simpa using hjl)]
      simpa using hv)
  refine Code.wp_mono (fun e a W' hq => ?_) (code_ok hTT hCT hmix code env mem nx _ _ W h hE hM)
  obtain ⟨ex, env1, mem1, nx1, rfl, hE1, hM1, hK⟩ := hq
  have fin : retR tt rs ts env1 mem1 K → ∃ v, (results fn a.tmps).run P W' = .ok v W' ∧ ∃ r V, Ending.returned v = .returned V ∧ resOk vals W W' r V ∧ Below W.heap.size W W' ∧ K r := fun hK => by
    obtain ⟨v, h1, r, h2, h3⟩ := ret_ok (P := P) hTT hr hE1 hM1 hK
    exact ⟨v, h1, r, v, rfl, h2, hM1.below, h3⟩
  cases ex with
  | normal => obtain ⟨v, h1, h2⟩ := fin hK; exact ⟨hE1.defers, v, h1, h2⟩
  | exit id => exact hK.elim
  | ret => obtain ⟨v, h1, h2⟩ := fin hK; exact ⟨hE1.defers, v, h1, h2⟩
/-- Slots that hold what came in. -/
def envOf : List AV → Nat → Env
  | [], _ => []
  | v :: r, i => (i, v) :: envOf r (i + 1)
theorem envOf_get : ∀ (args : List AV) (i d : Nat) (v : AV), getA (envOf args i) d = some v → i ≤ d ∧ args[d - i]? = some v
  | [], _, _, _, h => by cases h
  | u :: r, i, d, v, h => by
    simp only [envOf, getA] at h
    split at h
    · rename_i hd; subst hd; injection h with h; subst h; exact ⟨Nat.le_refl _, by simp⟩
    · obtain ⟨h1, h2⟩ := envOf_get r (i + 1) d v h
      refine ⟨by omega, ?_⟩
      rw [show d - i = (d - (i + 1)) + 1 by omega]
      simpa using h2
def memR (rs : List ResultVar) (K : KO) (env : Env) (mem : Mem) (nx : Nat) : Prop :=
  match rs with
  | [] => K (.tup []) mem nx
  | [.tmp d] => (ev env (.tmp d)).good = true ∧ K (ev env (.tmp d)) mem nx
  | _ => False
def memK (rs : List ResultVar) (K : KO) : KE := fun e env mem nx =>
  match e with
  | .exit _ => False
  | _ => memR rs K env mem nx
theorem memK_ok {fn : Func} {rs : List ResultVar} (hr : fn.results = rs.toArray) {K : KO} {ex : Ex} {env : Env} {mem : Mem} {nx : Nat} {a : Act} {W : World} (hE : ERel ds env a N) (he : ∀ id, ex ≠ .exit id) (h0 : memK rs K ex env mem nx) :
    ∃ v : AV, (results fn a.tmps).run P W = .ok v.conc W ∧ v.good = true ∧ K v mem nx := by
  have h : memR rs K env mem nx := by
    cases ex with
    | exit id => exact absurd rfl (he id)
    | normal => exact h0
    | ret => exact h0
  clear h0
  unfold memR at h
  split at h
  · exact ⟨.tup [], results_run (P := P) (fn := fn) (tmps := a.tmps) (W := W) hr (Vs := []) rfl (fun j r' V' hr' => by simp at hr'), rfl, h⟩
  · rename_i d
    refine ⟨_, results_run (P := P) (fn := fn) (tmps := a.tmps) (W := W) hr (Vs := [(ev env (.tmp d)).conc]) rfl (fun j r' V' hr' hV' => ?_), h.1, h.2⟩
    cases j with
    | zero => simp at hr' hV'; subst hr'; subst hV'; exact (ev_is hE (x := .tmp d) rfl h.1).symm
    | succ j => simp at hr'
  · exact h.elim
/-- A contract of a function that writes into what it is handed, out of what is owed for its body. -/
theorem msound_vc (hTT : TTok P tt) (hCT : CTok P ct) (hmix : P.follows .mixedOrders = true) {F : FuncId} {fn : Func} {code : Code} (hf : P.funcs[F]? = some fn) (hb : fn.body = some code) (hn : (fn.name == "runtime.NumGoroutine") = false) {rs : List ResultVar} (hr : fn.results = rs.toArray) {c : MT}
    (h : ∀ args mem nx K, c args mem nx K → (args.all AV.good = true ∧ args.length ≤ fn.ntmps) ∧ vcCode tt ct fn.ntmps code (envOf args 0) mem nx (memK rs K)) : MSound P F c := by
  intro pv w0 W args mem nx K hc hM
  obtain ⟨⟨hg, hlen⟩, h⟩ := h args mem nx K hc
  refine ⟨List.all_eq_true.1 hg, ⟨fn, hf, hn, by rw [hb]; rfl⟩, calls_of_wp hf hb ?_⟩
  have hvl : (args.map AV.conc).length = args.length := by simp
  have hsz : ((args.map AV.conc).toArray ++ Array.replicate (fn.ntmps - (args.map AV.conc).toArray.size) undef).size = fn.ntmps := by simp; omega
  have hE : ERel [] (envOf args 0) { tmps := (args.map AV.conc).toArray ++ Array.replicate (fn.ntmps - (args.map AV.conc).toArray.size) undef, defers := [] } fn.ntmps := by
    refine ⟨hsz, rfl, fun d v hd => ?_⟩
    obtain ⟨_, hv⟩ := envOf_get args 0 d v hd
    rw [Nat.sub_zero] at hv
    have hjl : d < args.length := (List.getElem?_eq_some_iff.1 hv).1
    have hve : args[d] = v := (List.getElem?_eq_some_iff.1 hv).2
    right
    have hd2 : d < ((args.map AV.conc).toArray ++ Array.replicate (fn.ntmps - (args.map AV.conc).toArray.size) undef).size := by rw [hsz]; omega
    simp only [Array.getD, hd2, dif_pos]
    rw [Array.getInternal_eq_getElem, Array.getElem_append_left (by simpa using hjl)]
    simp [hve]
  refine Code.wp_mono (fun e a W' hq => ?_) (code_ok hTT hCT hmix code (envOf args 0) mem nx _ _ W h hE hM)
  obtain ⟨ex, env1, mem1, nx1, rfl, hE1, hM1, hK⟩ := hq
  cases ex with
  | normal => obtain ⟨v, h1, h2, h3⟩ := memK_ok (P := P) (W := W') hr hE1 (fun _ e => by cases e) hK; exact ⟨hE1.defers, _, h1, v, mem1, nx1, rfl, h2, hM1, h3⟩
  | exit id => exact hK.elim
  | ret => obtain ⟨v, h1, h2, h3⟩ := memK_ok (P := P) (W := W') hr hE1 (fun _ e => by cases e) hK; exact ⟨hE1.defers, _, h1, v, mem1, nx1, rfl, h2, hM1, h3⟩
theorem run_extern {F : FuncId} {fn : Func} {e : Array Value → Sem Value} (hf : P.funcs[F]? = some fn) (hname : (fn.name == "runtime.NumGoroutine") = false) (hb : fn.body.isNone = true) (hn : Extern.findNext fn = none) (he : Extern.find fn = some e) (args : Array Value) (W : World) {v : Value} (hr : (e args).run P W = .ok v W) :
    (callFunc F args).run P W = .ok (.value v) W := by
  unfold callFunc
  simp only [Sem.run_bind, run_program, Result.andThen_ok, hf, hname, Bool.false_eq_true, if_false, hb, if_true, mark, Sem.run, hn, he, Sem.run_pure, hr]
end
theorem three_run {P : Program} (name : String) (x y c : Nat) (hc : c ≤ 1) (W : World) : (Extern.MathBitsCarry.three name #[.int .u64 x, .int .u64 y, .int .u64 c]).run P W = .ok (x, y, c) W := by
  have e : Extern.MathBitsCarry.three name #[.int .u64 x, .int .u64 y, .int .u64 c] = (do
    let c := (← asInt (.int .u64 c)).toNat
    if c > 1 then unsupported (.noEntry ("extern/math/bits." ++ name ++ ": a carry that is neither 0 nor 1"))
    pure ((← asInt (.int .u64 x)).toNat, (← asInt (.int .u64 y)).toNat, c)) := rfl
  rw [e]
  simp [asInt, asIntOf]
  omega
/-- A carry as it comes in: 0 or 1. -/
def xAdd64 : XF := fun vs K => match vs with
  | [.u64 x, .u64 y, .u64 c] => c.toNat ≤ 1 ∧ K (.tup [.u64 (x + y + c), .u64 (BitVec.ofNat 64 ((x.toNat + y.toNat + c.toNat) / 2 ^ 64))])
  | _ => False
def xSub64 : XF := fun vs K => match vs with
  | [.u64 x, .u64 y, .u64 c] => c.toNat ≤ 1 ∧ K (.tup [.u64 (x - y - c), .u64 (if x.toNat < y.toNat + c.toNat then 1 else 0)])
  | _ => False
theorem xAdd64_ok {P : Program} {F : FuncId} {fn : Func} (hf : P.funcs[F]? = some fn) (hname : (fn.name == "runtime.NumGoroutine") = false) (hb : fn.body.isNone = true) (hn : Extern.findNext fn = none)
    (he : Extern.find fn = some (fun args => do
      let (x, y, c) ← Extern.MathBitsCarry.three "Add64" args
      pure (Extern.MathBitsCarry.pair ((x + y + c) % Extern.MathBitsCarry.m64) ((x + y + c) / Extern.MathBitsCarry.m64)))) : XSound P F xAdd64 := by
  intro vs K h
  unfold xAdd64 at h
  split at h
  · rename_i x y c
    refine ⟨_, rfl, h.2, fun u hu => ?_, fun W => run_extern hf hname hb hn he _ W ?_⟩
    · simp only [List.mem_cons, List.not_mem_nil, or_false] at hu
      rcases hu with rfl | rfl | rfl <;> rfl
    · have h3 : (Extern.MathBitsCarry.three "Add64" (List.map AV.conc [.u64 x, .u64 y, .u64 c]).toArray).run P W = .ok (x.toNat, y.toNat, c.toNat) W := three_run "Add64" _ _ _ h.1 W
      simp only [Sem.run_bind, h3, Result.andThen_ok, Sem.run_pure, Extern.MathBitsCarry.pair, Extern.MathBitsCarry.m64, AV.conc, AV.concs, i64]
      have h1 := x.isLt
      have h2 := y.isLt
      have e1 : (x + y + c).toNat = (x.toNat + y.toNat + c.toNat) % 2 ^ 64 := by simp [BitVec.toNat_add]
      have e2 : (BitVec.ofNat 64 ((x.toNat + y.toNat + c.toNat) / 2 ^ 64)).toNat = (x.toNat + y.toNat + c.toNat) / 2 ^ 64 := by
        rw [BitVec.toNat_ofNat]; omega
      rw [e1, e2]; rfl
  · exact h.elim
theorem xSub64_ok {P : Program} {F : FuncId} {fn : Func} (hf : P.funcs[F]? = some fn) (hname : (fn.name == "runtime.NumGoroutine") = false) (hb : fn.body.isNone = true) (hn : Extern.findNext fn = none)
    (he : Extern.find fn = some (fun args => do
      let (x, y, b) ← Extern.MathBitsCarry.three "Sub64" args
      pure (Extern.MathBitsCarry.pair ((x + Extern.MathBitsCarry.m64 - y - b) % Extern.MathBitsCarry.m64) (if x < y + b then 1 else 0)))) : XSound P F xSub64 := by
  intro vs K h
  unfold xSub64 at h
  split at h
  · rename_i x y c
    refine ⟨_, rfl, h.2, fun u hu => ?_, fun W => run_extern hf hname hb hn he _ W ?_⟩
    · simp only [List.mem_cons, List.not_mem_nil, or_false] at hu
      rcases hu with rfl | rfl | rfl <;> rfl
    · have h3 : (Extern.MathBitsCarry.three "Sub64" (List.map AV.conc [.u64 x, .u64 y, .u64 c]).toArray).run P W = .ok (x.toNat, y.toNat, c.toNat) W := three_run "Sub64" _ _ _ h.1 W
      simp only [Sem.run_bind, h3, Result.andThen_ok, Sem.run_pure, Extern.MathBitsCarry.pair, Extern.MathBitsCarry.m64, AV.conc, AV.concs, i64]
      have h1 := x.isLt
      have h2 := y.isLt
      have h4 := h.1
      have e1 : (x - y - c).toNat = (x.toNat + 2 ^ 64 - y.toNat - c.toNat) % 2 ^ 64 := by simp only [BitVec.toNat_sub]; omega
      rw [e1]
      by_cases hlt : x.toNat < y.toNat + c.toNat
      · rw [if_pos hlt, if_pos hlt]; rfl
      · rw [if_neg hlt, if_neg hlt]; rfl
  · exact h.elim
/-! The words of 'vcCode', closed where code goes on. -/
section
variable (tt : TT) (ct : CTab) (N : Nat)
def SeqC (b : Code) (K : KE) : KE := seqK (vcCode tt ct N b) K
def LoopC (b : Code) (env : Env) (mem : Mem) (nx : Nat) (K : KE) : Prop := LoopVC (vcCode tt ct N b) env mem nx K
def DrawC (ops : Array Oper) (env : Env) (mem : Mem) (nx : Nat) (K : KE) : Prop := DrawVC tt ct N ops env mem nx K
/-- What comes behind an operation. -/
def LW (ops : Array Oper) (rest : List Oper) (dst : Option Tmp) (env : Env) (K : KE) (v : AV) (mem : Mem) (nx : Nat) : Prop := vcList tt ct N ops rest (putE dst v env) mem nx K
theorem lw_eq (ops : Array Oper) (rest : List Oper) (dst : Option Tmp) (env : Env) (K : KE) (v : AV) (mem : Mem) (nx : Nat) : LW tt ct N ops rest dst env K v mem nx = vcList tt ct N ops rest (putE dst v env) mem nx K := rfl
theorem vcl_nil (ops : Array Oper) (env : Env) (mem : Mem) (nx : Nat) (K : KE) : vcList tt ct N ops [] env mem nx K = K .normal env mem nx := rfl
theorem vcl_cons (ops : Array Oper) (o : Oper) (rest : List Oper) (env : Env) (mem : Mem) (nx : Nat) (K : KE) : vcList tt ct N ops (o :: rest) env mem nx K = (dstB N o.dst = true ∧ guardVC ops o.guard env (fun env => listVC tt ct env mem nx o.op (LW tt ct N ops rest o.dst env K)) (fun env => vcList tt ct N ops rest (putE o.dst (.tup []) env) mem nx K)) := rfl
def PT (F : Mem) (ops : Array Oper) (r : List (PK × Nat)) (dst : Option Tmp) (env : Env) (mem : Mem) (K : Env → Mem → Nat → Prop) (v : AV) (m : Mem) (nx : Nat) : Prop := extE m mem ∧ planVC tt ct N F ops r (putE dst v env) m nx K
theorem pt_eq (F : Mem) (ops : Array Oper) (r : List (PK × Nat)) (dst : Option Tmp) (env : Env) (mem : Mem) (K : Env → Mem → Nat → Prop) (v : AV) (m : Mem) (nx : Nat) : PT tt ct N F ops r dst env mem K v m nx = (extE m mem ∧ planVC tt ct N F ops r (putE dst v env) m nx K) := rfl
def PZ (F : Mem) (ops : Array Oper) (r : List (PK × Nat)) (dst : Option Tmp) (env : Env) (mem : Mem) (nx : Nat) (K : Env → Mem → Nat → Prop) (v : AV) (m : Mem) (n : Nat) : Prop := planVC tt ct N F ops r (putE dst v env) mem nx K
theorem pz_eq (F : Mem) (ops : Array Oper) (r : List (PK × Nat)) (dst : Option Tmp) (env : Env) (mem : Mem) (nx : Nat) (K : Env → Mem → Nat → Prop) (v : AV) (m : Mem) (n : Nat) : PZ tt ct N F ops r dst env mem nx K v m n = planVC tt ct N F ops r (putE dst v env) mem nx K := rfl
def PL (F : Mem) (ops : Array Oper) (op : Op) (r : List (PK × Nat)) (dst : Option Tmp) (env : Env) (mem : Mem) (K : Env → Mem → Nat → Prop) (v : AV) (m : Mem) (nx : Nat) : Prop := (if quietOp op then extE m mem else leA m F) ∧ planVC tt ct N F ops r (putE dst v env) m nx K
theorem pl_eq (F : Mem) (ops : Array Oper) (op : Op) (r : List (PK × Nat)) (dst : Option Tmp) (env : Env) (mem : Mem) (K : Env → Mem → Nat → Prop) (v : AV) (m : Mem) (nx : Nat) : PL tt ct N F ops op r dst env mem K v m nx = ((if quietOp op then extE m mem else leA m F) ∧ planVC tt ct N F ops r (putE dst v env) m nx K) := rfl
section
variable (F : Mem) (ops : Array Oper) (i : Nat) (r : List (PK × Nat)) (env : Env) (mem : Mem) (nx : Nat) (K : Env → Mem → Nat → Prop)
theorem plv_nil : planVC tt ct N F ops [] env mem nx K = K env mem nx := rfl
theorem plv_tk : planVC tt ct N F ops ((.tk, i) :: r) env mem nx K = (match ops[i]? with
    | some o => dstB N o.dst = true ∧ guardVC ops o.guard env (fun env => pureVC tt env mem nx o.op (PT tt ct N F ops r o.dst env mem K)) (fun env => planVC tt ct N F ops r (putE o.dst (.tup []) env) mem nx K)
    | none => False) := rfl
theorem plv_fz : planVC tt ct N F ops ((.fz, i) :: r) env mem nx K = (match ops[i]? with
    | some o => dstB N o.dst = true ∧ guardVC ops o.guard env (fun env => pureVC tt env F nx o.op (PZ tt ct N F ops r o.dst env mem nx K)) (fun env => planVC tt ct N F ops r (putE o.dst (.tup []) env) mem nx K)
    | none => False) := rfl
theorem plv_ld : planVC tt ct N F ops ((.ld, i) :: r) env mem nx K = (match ops[i]? with
    | some o => dstB N o.dst = true ∧ guardVC ops o.guard env (fun env => opVC tt ct env mem nx o.op (PL tt ct N F ops o.op r o.dst env mem K)) (fun env => planVC tt ct N F ops r (putE o.dst (.tup []) env) mem nx K)
    | none => False) := rfl
end
variable (env : Env) (mem : Mem) (nx : Nat) (K : KE)
theorem vc_skip : vcCode tt ct N .skip env mem nx K = K .normal env mem nx := rfl
theorem vc_draw (id : Nat) (ops : Array Oper) : vcCode tt ct N (.region id ops true) env mem nx K = DrawC tt ct N ops env mem nx K := rfl
theorem vc_list (id : Nat) (l : List Oper) : vcCode tt ct N (.region id l.toArray false) env mem nx K = vcList tt ct N l.toArray l env mem nx K := rfl
theorem vc_seq (a b : Code) : vcCode tt ct N (.seq a b) env mem nx K = vcCode tt ct N a env mem nx (SeqC tt ct N b K) := rfl
theorem vc_seqn (b : Code) : SeqC tt ct N b K .normal env mem nx = vcCode tt ct N b env mem nx K := rfl
theorem vc_seqe (b : Code) (id : Nat) : SeqC tt ct N b K (.exit id) env mem nx = K (.exit id) env mem nx := rfl
theorem vc_seqr (b : Code) : SeqC tt ct N b K .ret env mem nx = K .ret env mem nx := rfl
def condVC (v : AV) (x y : Code) (env : Env) (mem : Mem) (nx : Nat) (K : KE) : Prop :=
  match v with
  | .bool b => bothP b (vcCode tt ct N x env mem nx K) (vcCode tt ct N y env mem nx K)
  | _ => False
theorem vc_cond (c : Operand) (x y : Code) : vcCode tt ct N (.cond c x y) env mem nx K = condVC tt ct N (ev env c) x y env mem nx K := rfl
theorem vc_block (id : Nat) (b : Code) : vcCode tt ct N (.block id b) env mem nx K = vcCode tt ct N b env mem nx (blockK id K) := rfl
theorem vc_blockn (id : Nat) : blockK id K .normal env mem nx = K .normal env mem nx := rfl
theorem vc_blockr (id : Nat) : blockK id K .ret env mem nx = K .ret env mem nx := rfl
theorem vc_blocke (id id' : Nat) : blockK id K (.exit id') env mem nx = if id' = id then K .normal env mem nx else K (.exit id') env mem nx := rfl
theorem vc_loop (b : Code) : vcCode tt ct N (.loop b) env mem nx K = LoopC tt ct N b env mem nx K := rfl
theorem vc_exit (id : Nat) : vcCode tt ct N (.exit id) env mem nx K = K (.exit id) env mem nx := rfl
theorem vc_ret : vcCode tt ct N .ret env mem nx K = K .ret env mem nx := rfl
theorem vc_loopn {ι : Type} (I : ι → St) (μ : ι → Nat) (i : ι) : loopK I μ i K .normal env mem nx = ∃ j, μ j < μ i ∧ leS env mem (I j) := rfl
theorem vc_loope {ι : Type} (I : ι → St) (μ : ι → Nat) (i : ι) (id : Nat) : loopK I μ i K (.exit id) env mem nx = K (.exit id) env mem nx := rfl
theorem vc_loopr {ι : Type} (I : ι → St) (μ : ι → Nat) (i : ι) : loopK I μ i K .ret env mem nx = K .ret env mem nx := rfl
theorem loop_ {b : Code} {env : Env} {mem : Mem} {nx : Nat} {K : KE} {ι : Type} (I : ι → St) (μ : ι → Nat) (i : ι) (h0 : leS env mem (I i)) (h : ∀ i, vcCode tt ct N b (I i).env (I i).mem (I i).nx (loopK I μ i K)) : LoopC tt ct N b env mem nx K := .inl ⟨ι, I, μ, ⟨i, h0⟩, h⟩
theorem vc_jn {ι : Type} (I : ι → St) (μ : ι → Nat) (i : ι) : loopJ I μ i K .normal env mem nx = LeJ env mem I (fun j => μ j < μ i) := rfl
theorem vc_je {ι : Type} (I : ι → St) (μ : ι → Nat) (i : ι) (id : Nat) : loopJ I μ i K (.exit id) env mem nx = K (.exit id) env mem nx := rfl
theorem vc_jr {ι : Type} (I : ι → St) (μ : ι → Nat) (i : ι) : loopJ I μ i K .ret env mem nx = K .ret env mem nx := rfl
/-- Such of the places as are named. -/
def pickA {α : Type} (l : List (Nat × α)) : List Nat → List (Nat × α)
  | [] => []
  | d :: r => (match getA l d with
    | some v => (d, v) :: pickA l r
    | none => pickA l r)
/-- A state that a loop comes back to: what turns, and such of the rest as is named. -/
def stU (env : Env) (mem : Mem) (ks ls : List Nat) (nx : Nat) {ι : Type} (U : ι → Env) (M : ι → Mem) (s : ι) : St := ⟨U s ++ pickA env ks, M s ++ pickA mem ls, nx⟩
theorem stU_env (env : Env) (mem : Mem) (ks ls : List Nat) (nx : Nat) {ι : Type} (U : ι → Env) (M : ι → Mem) (s : ι) : (stU env mem ks ls nx U M s).env = U s ++ pickA env ks := rfl
theorem stU_mem (env : Env) (mem : Mem) (ks ls : List Nat) (nx : Nat) {ι : Type} (U : ι → Env) (M : ι → Mem) (s : ι) : (stU env mem ks ls nx U M s).mem = M s ++ pickA mem ls := rfl
theorem loopU {b : Code} {env : Env} {mem : Mem} {nx : Nat} {K : KE} (ks ls : List Nat) (nx' : Nat) {ι : Type} (U : ι → Env) (M : ι → Mem) (μ : ι → Nat)
    (h0 : LeJ env mem (stU env mem ks ls nx' U M) (fun _ => True)) (h : ∀ i, vcCode tt ct N b (U i ++ pickA env ks) (M i ++ pickA mem ls) nx' (loopJ (stU env mem ks ls nx' U M) μ i K)) : LoopC tt ct N b env mem nx K :=
  .inr ⟨ι, _, μ, h0, h⟩
theorem draw_ {ops : Array Oper} {env : Env} {mem : Mem} {nx : Nat} {K : KE} (plan : List (PK × Nat)) (flo ks : List Nat) (hB : drawB tt N ops plan flo = true)
    (h : planVC tt ct N (keepM ks mem) ops plan (delAll env ops flo) mem nx (K .normal)) : DrawC tt ct N ops env mem nx K := ⟨plan, flo, ks, hB, h⟩
end
theorem keepM_nil (m : Mem) : keepM [] m = [] := by
  induction m with
  | nil => rfl
  | cons p r ih => obtain ⟨l, e⟩ := p; simp [keepM, ih]
theorem setA_setA {α : Type} (m : List (Nat × α)) (k : Nat) (e e' : α) : setA (setA m k e) k e' = setA m k e' := by
  induction m with
  | nil => rfl
  | cons p r ih =>
    obtain ⟨d, v⟩ := p
    simp only [setA]
    by_cases hd : d = k
    · subst hd; simp [setA]
    · simp [hd, setA, ih]
theorem setA_same {α : Type} {m : List (Nat × α)} {k : Nat} {e : α} (h : getA m k = some e) : setA m k e = m := by
  induction m with
  | nil => rfl
  | cons p r ih =>
    obtain ⟨d, v⟩ := p
    simp only [getA] at h
    simp only [setA]
    by_cases hd : d = k
    · subst hd; simp at h; subst h; simp
    · simp only [hd, if_false] at h ⊢; rw [ih h]
theorem getA_setA_self {α : Type} {m : List (Nat × α)} {k : Nat} {e e0 : α} (h : getA m k = some e0) : getA (setA m k e) k = some e := by rw [getA_setA, if_pos rfl, h]; rfl
theorem getA_setA_ne {α : Type} {m : List (Nat × α)} {k j : Nat} {e : α} (h : j ≠ k) : getA (setA m k e) j = getA m j := by rw [getA_setA, if_neg h]
section
variable {ι : Type} {env : Env} {mem : Mem} {I : ι → St} {p : ι → Prop}
/-- The memory just as it is. -/
theorem LeJ.same (j : ι) (hp : p j) (hm : mem = (I j).mem) (h : leA env (I j).env) : LeJ env mem I p := fun _ _ _ _ _ _ hE hM => ⟨j, hp, hE.less (leA_get _ h), by rw [← hm]; exact hM⟩
theorem LeJ.mk (j : ι) (hp : p j) (h : leS env mem (I j)) : LeJ env mem I p := fun _ _ _ _ _ _ hE hM => ⟨j, hp, leS_ok h hE hM⟩
/-- A place that is read, under another number. -/
theorem LeJ.rel (d n : Nat) {l m c c' : Nat} {A A' : Option Addr} {cs : Cells} (h1 : getA env d = some (.ros l A m c)) (h2 : getA mem l = some (.ro A' c' cs)) (h : LeJ ((d, .ros n A m c) :: env) ((n, .ro A' c' cs) :: mem) I p) : LeJ env mem I p := fun ds pv w0 W a N hE hM => by
  refine h ds pv w0 W a N ⟨hE.size, hE.defers, fun d' v hd => ?_⟩ (hM.add n _ (hM.ok l _ h2) fun l' e' he' hm k hk hk' => ?_)
  · simp only [getA] at hd
    split at hd
    · rename_i hdd; subst hdd; injection hd with hd; subst hd; exact .inr ((hE.get _ _ h1).resolve_left (by simp))
    · exact hE.get d' v hd
  · have hm' : e'.mine = true := hm.resolve_left (by simp [ME.mine])
    by_cases hl : l' = l
    · subst hl; rw [h2] at he'; injection he' with he'; subst he'; cases hm'
    · exact hM.sep l' e' l _ he' h2 hl hm' k hk' hk
/-- A row that grows, under another number. -/
theorem LeJ.relG (d n : Nat) {l m : Nat} {v v' : Value} {e : TypeId} {cs : Cells} (h1 : getA env d = some (.grow l v m)) (h2 : getA mem l = some (.row v' e cs)) (h : LeJ ((d, .grow n v m) :: env) ((n, .row v' e cs) :: delA mem l) I p) : LeJ env mem I p := fun ds pv w0 W a N hE hM => by
  refine h ds pv w0 W a N ⟨hE.size, hE.defers, fun d' v hd => ?_⟩ (hM.rename h2)
  simp only [getA] at hd
  split at hd
  · rename_i hdd; subst hdd; injection hd with hd; subst hd; exact .inr ((hE.get _ _ h1).resolve_left (by simp))
  · exact hE.get d' v hd
/-- A slice of a block of the call's own is a row that grows. -/
theorem LeJ.slc (d n : Nat) {l g len cap : Nat} {e : TypeId} {cs : Cells} (h1 : getA env d = some (.slc l g 0 len cap)) (h2 : getA mem l = some (.own g e cs)) (h3 : len ≤ cap ∧ cap = cs.len ∧ cap ≤ 9223372036854775807)
    (h : ∀ v, LeJ ((d, .grow n v len) :: env) ((n, .row v e (cs.part 0 len)) :: delA mem l) I p) : LeJ env mem I p := fun ds pv w0 W a N hE hM => by
  obtain ⟨hlc, rfl, hcap⟩ := h3
  obtain ⟨ow, hgb, hones⟩ := hM.ok l _ h2
  have hpv : (cs.part 0 len).vals.length = len := by rw [Cells.vals_length, Cells.part_len]; omega
  have hO : W.ownsRow w0.heap.size e 1 (.slice (some ⟨g, 0, none⟩) len cs.len) (cs.part 0 len).len (cs.part 0 len).vals := by
    have hpl : (cs.part 0 len).len = len := by rw [Cells.part_len]; omega
    refine ⟨by simp [Cells.vals_length], .inr ⟨g, cs.len, cs.vals.toArray, by rw [hpl], hgb, ow, by omega, by unfold maxLen; omega, by simp [Cells.vals_length], ?_⟩⟩
    rw [hpl, Cells.vals_part]; simp
  have h1o : (cs.part 0 len).ones = true := by
    cases cs <;> first | rfl | (simp only [Cells.part, Cells.ones, List.all_eq_true] at hones ⊢; intro y hy; exact hones y (List.mem_of_mem_drop (List.mem_of_mem_take hy)))
  refine h (.slice (some ⟨g, 0, none⟩) len cs.len) ds pv w0 W a N ⟨hE.size, hE.defers, fun d' v hd => ?_⟩ ?_
  · simp only [getA] at hd
    split at hd
    · rename_i hdd; subst hdd; injection hd with hd; subst hd; exact .inr ((hE.get _ _ h1).resolve_left (by simp))
    · exact hE.get d' v hd
  · have ht := hM.turn l _ (.row (.slice (some ⟨g, 0, none⟩) len cs.len) e (cs.part 0 len)) h2 hM.below ⟨hO, h1o⟩ (.inl rfl) (fun _ => rfl) rfl (Nat.le_refl _) (fun _ _ _ => rfl)
    have hr := ht.rename (l := l) (n := n) (by rw [getA_setA, if_pos rfl, h2]; rfl)
    exact hr.less fun k x hd => by
      simp only [getA] at hd ⊢
      split
      · rw [if_pos (by assumption)] at hd; exact hd
      · rw [if_neg (by assumption)] at hd
        rw [getA_delA] at hd ⊢
        split at hd
        · cases hd
        · rename_i hne; rw [if_neg hne, getA_setA, if_neg hne]; exact hd
/-- No row at all is one that grows. -/
theorem LeJ.nils (d n e : Nat) (z : Cells) (h1 : getA env d = some .nils) (h : ∀ v, LeJ ((d, .grow n v 0) :: env) ((n, .row v e (z.part 0 0)) :: mem) I p) : LeJ env mem I p := fun ds pv w0 W a N hE hM => by
  refine h (.slice none 0 0) ds pv w0 W a N ⟨hE.size, hE.defers, fun d' v hd => ?_⟩ (hM.add n _ ⟨?_, by cases z <;> simp [Cells.part, Cells.ones]⟩ fun l' e' he' hm k hk hk' => by cases hk)
  · simp only [getA] at hd
    split at hd
    · rename_i hdd; subst hdd; injection hd with hd; subst hd; exact .inr ((hE.get _ _ h1).resolve_left (by simp))
    · exact hE.get d' v hd
  · have e1 : (z.part 0 0).len = 0 := by rw [Cells.part_len]; omega
    have e2 : (z.part 0 0).vals = [] := List.eq_nil_of_length_eq_zero (by rw [Cells.vals_length, e1])
    rw [e1, e2]
    exact World.ownsRow_nil W _ e 1
end
end Go.Proofs.Ytjleiifcigojoaa
