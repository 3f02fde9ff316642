/- What is owed for each operation, told without a world: calls are told rightly. For any program. -/
import Derived.Test.YtjleiifcigojoaaOps
namespace Go.Proofs.Ytjleiifcigojoaa
open Go Go.RowKit
set_option linter.unusedVariables false
set_option linter.unusedSimpArgs false
variable {ds : List Deferred}
section
variable {P : Program} {tt : TT} {ct : CTab} {pv : Nat → Prop} {w0 : World} {env : Env} {mem : Mem} {nx : Nat} {a : Act} {N : Nat} {K : KO}
/-- Does it leave every block as it was? -/
def quietOp : Op → Bool
  | .store .. => false
  | .convert s d _ => !decide (s = d)
  | .call c => (match c.callee with
    | .builtin .append | .builtin .copy => false
    | _ => true)
  | _ => true
/-- What 'opVC' is worth. -/
def Post (pv : Nat → Prop) (w0 : World) (mem : Mem) (op : Op) (W : World) (dst : Option Tmp) (a : Act) (K : KO) (a' : Act) (W' : World) : Prop :=
  ∃ v m n V, v.is V ∧ a' = a.put dst V ∧ MRel pv w0 m W' ∧ (quietOp op = true → Below W.heap.size W W') ∧ Frm mem W W' ∧ Near mem m W.heap.size ∧ K v m n
theorem wp_of_value {o : Oper} {W W' : World} {V : Value} {next : Act → World → Prop} {Q : Exit → Act → World → Prop} (h : (execOp a.eval o).run P W = .ok (.value V) W') (hn : next (a.put o.dst V) W') : o.wp P a W next Q := by
  unfold Oper.wp; rw [h]; exact hn
theorem wp_of_skip {o : Oper} {W W' : World} {next : Act → World → Prop} {Q : Exit → Act → World → Prop} (h : (execOp a.eval o).run P W = .ok .skip W') (hn : next (a.put o.dst undef) W') : o.wp P a W next Q := by
  unfold Oper.wp; rw [h]; exact hn
theorem AV.plain_good {v : AV} (h : v.plain = true) : v.good = true := by cases v <;> first | rfl | cases h
theorem AV.plain_blk {v : AV} (h : v.plain = true) : blkV v.conc = none := by cases v <;> first | rfl | cases h
/-- What of an argument's block is known. -/
def ArgBlk (mem : Mem) (v : AV) : Prop := ∀ k, blkV v.conc = some k → ∃ l e, getA mem l = some e ∧ e.blk = some k ∧ (e.mine = true → (∃ g o n c, v = .slc l g o n c) ∨ ∃ u n, v = .grow l u n)
theorem arg_ok {v : AV} {t : TypeId} {K : CA → Prop} (h : argVC tt mem v t K) : ∃ c, K c ∧ v.good = true ∧ (∀ W, MRel pv w0 mem W → argOk W c v.conc) ∧ ((∃ W, MRel pv w0 mem W) → ArgBlk mem v) := by
  unfold argVC at h
  by_cases hs : v.isSl = true
  · rw [if_pos hs] at h
    obtain ⟨cs, hK, hg, hr⟩ := rd_run (pv := pv) (w0 := w0) h
    refine ⟨.s cs, hK, hg, fun W hW => hr W hW, ?_⟩
    rintro ⟨W, hW⟩ k hk
    cases v with
    | nils => cases hk
    | ros l A n c =>
      simp only [rdVC] at h
      cases hgm : getA mem l with
      | none => simp [hgm] at h
      | some e =>
        rw [hgm] at h
        cases e with
        | ro A' c' cs' =>
          obtain ⟨⟨rfl, _⟩, _⟩ := h
          refine ⟨l, _, hgm, ?_, fun h => by cases h⟩
          cases A' with
          | none => cases hk
          | some ad => exact hk
        | _ => exact h.elim
    | slc l g off len cap =>
      simp only [rdVC] at h
      cases hgm : getA mem l with
      | none => simp [hgm] at h
      | some e =>
        rw [hgm] at h
        cases e with
        | own g' t' cs' =>
          obtain ⟨⟨rfl, _⟩, _⟩ := h
          exact ⟨l, _, hgm, hk, fun _ => .inl ⟨_, _, _, _, rfl⟩⟩
        | _ => exact h.elim
    | grow l u n =>
      simp only [rdVC] at h
      cases hgm : getA mem l with
      | none => simp [hgm] at h
      | some e =>
        rw [hgm] at h
        cases e with
        | row u' e' cs' =>
          obtain ⟨⟨rfl, _⟩, _⟩ := h
          exact ⟨l, _, hgm, hk, fun _ => .inr ⟨_, _, rfl⟩⟩
        | _ => exact h.elim
    | _ => cases hs
  · rw [if_neg hs] at h
    refine ⟨.v v, h.2, AV.plain_good h.1, fun W _ => ⟨AV.plain_good h.1, rfl⟩, fun _ k hk => ?_⟩
    rw [AV.plain_blk h.1] at hk; cases hk
theorem args_ok : ∀ (vs : List AV) (ts : List TypeId) (K : List CA → Prop), argsVC tt mem vs ts K → ∃ cas, K cas ∧ (∀ v ∈ vs, v.good = true) ∧ (∀ W, MRel pv w0 mem W → argsOk W cas (vs.map AV.conc)) ∧ ((∃ W, MRel pv w0 mem W) → ∀ v ∈ vs, ArgBlk mem v)
  | [], [], K, h => ⟨[], h, fun _ h => (by cases h), fun _ _ => trivial, fun _ _ h => (by cases h)⟩
  | [], _ :: _, K, h => h.elim
  | _ :: _, [], K, h => h.elim
  | v :: vs, t :: ts, K, h => by
    obtain ⟨c, h, hg, ho, hb⟩ := arg_ok (pv := pv) (w0 := w0) h
    obtain ⟨cs, h, hgs, hos, hbs⟩ := args_ok vs ts _ h
    refine ⟨c :: cs, h, fun u hu => ?_, fun W hW => ⟨ho W hW, hos W hW⟩, fun hw u hu => ?_⟩
    · rcases List.mem_cons.1 hu with rfl | hu
      · exact hg
      · exact hgs u hu
    · rcases List.mem_cons.1 hu with rfl | hu
      · exact hb hw
      · exact hbs hw u hu
theorem letGo_get : ∀ (args : List AV) (mem : Mem) (l : Nat) (e : ME), getA (letGo mem args) l = some e → getA mem l = some e ∧ ∀ v ∈ args, (∀ g o n c, v ≠ .slc l g o n c) ∧ ∀ u n, v ≠ .grow l u n
  | [], mem, l, e, h => ⟨h, fun _ h => by cases h⟩
  | v :: r, mem, l, e, h => by
    have gen : ∀ k, getA (letGo (delA mem k) r) l = some e → getA mem l = some e ∧ l ≠ k ∧ ∀ v ∈ r, (∀ g o n c, v ≠ .slc l g o n c) ∧ ∀ u n, v ≠ .grow l u n := by
      intro k hk
      obtain ⟨h1, h2⟩ := letGo_get r _ l e hk
      rw [getA_delA] at h1
      split at h1
      · cases h1
      · rename_i hne; exact ⟨h1, hne, h2⟩
    cases v <;> simp only [letGo] at h
    case slc k g o n c =>
      obtain ⟨h1, h2, h3⟩ := gen k h
      refine ⟨h1, fun v hv => ?_⟩
      rcases List.mem_cons.1 hv with rfl | hv
      · exact ⟨fun g o n c e => h2 (by injection e with e; exact e.symm), fun u n e => by cases e⟩
      · exact h3 v hv
    case grow k u n =>
      obtain ⟨h1, h2, h3⟩ := gen k h
      refine ⟨h1, fun v hv => ?_⟩
      rcases List.mem_cons.1 hv with rfl | hv
      · exact ⟨fun g o n c e => (by cases e), fun u n e => h2 (by injection e with e; exact e.symm)⟩
      · exact h3 v hv
    all_goals
      obtain ⟨h1, h2⟩ := letGo_get r _ l e h
      refine ⟨h1, fun v hv => ?_⟩
      rcases List.mem_cons.1 hv with rfl | hv
      · exact ⟨fun g o n c e => (by cases e), fun u n e => (by cases e)⟩
      · exact h2 v hv
/-- What is known while results come in. -/
structure Coming (pv : Nat → Prop) (w0 W W' : World) (mem0 mem : Mem) : Prop where
  rel : MRel pv w0 mem W'
  mine : ∀ l e, getA mem l = some e → e.mine = true → getA mem0 l = some e
  near : Near mem0 mem W.heap.size
theorem bind1_ok {W W' : World} {mem0 : Mem} {args : List AV} {r : CR1} {V : Value} (h0 : MRel pv w0 mem0 W) (hb : ∀ v ∈ args, ArgBlk mem0 v) (hc : Coming pv w0 W W' mem0 mem) (hr : resOk1 (args.map AV.conc) W W' r V) (h : bindR1 args mem nx r K) :
    ∃ v m n, v.good = true ∧ V = v.conc ∧ Coming pv w0 W W' mem0 m ∧ K v m n := by
  cases r with
  | v a => exact ⟨a, mem, nx, hr.1, hr.2, hc, h⟩
  | s cs =>
    obtain ⟨A, c, rfl, hlc, hs, hk⟩ := hr
    refine ⟨_, _, _, rfl, rfl, ⟨hc.rel.add nx (.ro A c cs) ⟨hs, hlc, fun k hk2 => ⟨(hk k hk2).2, .inl (Nat.le_trans h0.size (hk k hk2).1)⟩⟩ fun l' e' he' hm k hk1 hk2 => ?_, fun l e he hm => ?_, fun l e k he hek => ?_⟩, h A c hlc⟩
    · rcases hm with hm | hm
      · cases hm
      · have := (h0.ok _ _ (hc.mine l' e' he' hm)).blk_lt k hk2
        have := (hk k hk1).1
        omega
    · simp only [getA] at he
      split at he
      · injection he with he; subst he; cases hm
      · exact hc.mine l e he hm
    · simp only [getA] at he
      split at he
      · injection he with he; subst he; exact .inr (hk k hek).1
      · exact hc.near l e k he hek
  | al cs =>
    obtain ⟨A, c, rfl, hlc, hs, hk⟩ := hr
    have halk : ∀ k, blkA A = some k → w0.heap.size ≤ k ∨ pv k := fun k hk2 => by
      rcases (hk k hk2).1 with h4 | ⟨u, hu, huk⟩
      · exact .inl (Nat.le_trans h0.size h4)
      · obtain ⟨v, hv, rfl⟩ := List.mem_map.1 hu
        obtain ⟨l, e, he, hek, _⟩ := hb v hv k huk
        exact (h0.ok _ _ he).prov k hek
    have hrel : MRel pv w0 (letGo mem args) W' := hc.rel.less fun l e he => (letGo_get args mem l e he).1
    refine ⟨_, _, _, rfl, rfl, ⟨hrel.add nx (.ro A c cs) ⟨hs, hlc, fun k hk2 => ⟨(hk k hk2).2, halk k hk2⟩⟩ fun l' e' he' hm k hk1 hk2 => ?_, fun l e he hm => ?_, fun l e k he hek => ?_⟩, h A c hlc⟩
    · rcases hm with hm | hm
      · cases hm
      · obtain ⟨h1, h2⟩ := letGo_get args mem l' e' he'
        have h3 := hc.mine l' e' h1 hm
        rcases (hk k hk1).1 with h4 | ⟨u, hu, huk⟩
        · have := (h0.ok _ _ h3).blk_lt k hk2
          omega
        · obtain ⟨v, hv, rfl⟩ := List.mem_map.1 hu
          obtain ⟨l, e, he, hek, hmine⟩ := hb v hv k huk
          by_cases hll : l' = l
          · subst hll
            rw [h3] at he; injection he with he; subst he
            rcases hmine hm with ⟨g, o, n, c, rfl⟩ | ⟨u, n, rfl⟩
            · exact (h2 _ hv).1 _ _ _ _ rfl
            · exact (h2 _ hv).2 _ _ rfl
          · exact h0.sep l' e' l e h3 he hll hm k hk2 hek
    · simp only [getA] at he
      split at he
      · injection he with he; subst he; cases hm
      · exact hc.mine l e (letGo_get args mem l e he).1 hm
    · simp only [getA] at he
      split at he
      · injection he with he; subst he
        rcases (hk k hek).1 with h4 | ⟨u, hu, huk⟩
        · exact .inr h4
        · obtain ⟨v, hv, rfl⟩ := List.mem_map.1 hu
          obtain ⟨l, e, he, hek, _⟩ := hb v hv k huk
          exact .inl ⟨l, e, he, hek⟩
      · exact hc.near l e k (letGo_get args mem l e he).1 hek
theorem binds_ok {W W' : World} {mem0 : Mem} {args : List AV} (h0 : MRel pv w0 mem0 W) (hb : ∀ v ∈ args, ArgBlk mem0 v) : ∀ (rs : List CR1) (mem : Mem) (nx : Nat) (Vs : List Value) (K : List AV → Mem → Nat → Prop), Coming pv w0 W W' mem0 mem → ressOk (args.map AV.conc) W W' rs Vs → bindRs args mem nx rs K →
    ∃ vs m n, Vs = vs.map AV.conc ∧ Coming pv w0 W W' mem0 m ∧ K vs m n
  | [], mem, nx, [], K, hc, _, h => ⟨[], mem, nx, rfl, hc, h⟩
  | [], _, _, _ :: _, _, _, hr, _ => hr.elim
  | _ :: _, _, _, [], _, _, hr, _ => hr.elim
  | r :: rs, mem, nx, V :: Vs, K, hc, hr, h => by
    obtain ⟨v, m, n, _, rfl, hc1, h⟩ := bind1_ok h0 hb hc hr.1 h
    obtain ⟨vs, m2, n2, rfl, hc2, h⟩ := binds_ok h0 hb rs m n Vs _ hc1 hr.2 h
    exact ⟨v :: vs, m2, n2, rfl, hc2, h⟩
theorem bind_ok {W W' : World} {args : List AV} {r : CR} {V : Value} (h0 : MRel pv w0 mem W) (hb : ∀ v ∈ args, ArgBlk mem v) (hB : Below W.heap.size W W') (hr : resOk (args.map AV.conc) W W' r V) (h : bindR args mem nx r K) :
    ∃ v m n, v.is V ∧ MRel pv w0 m W' ∧ Near mem m W.heap.size ∧ K v m n := by
  have hc : Coming pv w0 W W' mem mem := ⟨h0.down hB, fun _ _ h _ => h, (NoNew.refl mem).near _⟩
  cases r with
  | one r =>
    obtain ⟨v, m, n, _, rfl, hc1, h⟩ := bind1_ok h0 hb hc hr h
    exact ⟨v, m, n, AV.is_refl v, hc1.rel, hc1.near, h⟩
  | tup rs =>
    obtain ⟨Vs, rfl, hr⟩ := hr
    obtain ⟨vs, m, n, rfl, hc1, h⟩ := binds_ok h0 hb rs mem nx Vs _ hc hr h
    exact ⟨.tup vs, m, n, .inr (by simp [AV.conc, concs_map]), hc1.rel, hc1.near, h⟩
theorem call_ok (hCT : CTok P ct) (hE : ERel ds env a N) {o : Oper} {c : Call} {F : FuncId} (ho : o.op = .call c) (hF : c.callee = .value (.func F)) {Q : Exit → Act → World → Prop}
    (h : callVC tt ct mem nx F (c.args.toList.map (ev env)) c.argTypes.toList K) {W : World} (hW : MRel pv w0 mem W) : o.wp P a W (Post pv w0 mem o.op W o.dst a K) Q := by
  unfold callVC at h
  have hcF := hCT F
  cases hct : ct F with
  | ext x =>
    rw [hct] at hcF h
    dsimp only at h
    obtain ⟨v, h1, h2, h3, h4⟩ := hcF _ _ h
    have hvals : c.args.map a.eval = ((c.args.toList.map (ev env)).map AV.conc).toArray := by
      apply Array.ext'
      simp only [Array.toList_map, List.map_map]
      apply List.map_congr_left
      intro x hx
      exact ev_is hE rfl (h3 _ (List.mem_map_of_mem hx))
    refine wp_of_value (V := v.conc) (W' := W) ?_ ⟨v, mem, nx, _, .inr rfl, rfl, hW, fun _ => Below.refl _ _, Frm.of_below _ (Below.refl _ _), (NoNew.refl mem).near _, h2⟩
    obtain ⟨callee, args, tys⟩ := c
    dsimp only at hF
    subst hF
    unfold execOp
    simp only [ho, resolve, Act.eval, Deferred.ofValue, invoke, Sem.run_bind, Sem.run_pure, Result.andThen_ok]
    have h5 := h4 W
    dsimp only at hvals
    rw [← hvals] at h5
    simpa using h5
  | mem cc => rw [hct] at h; exact h.elim
  | fn cc =>
  rw [hct] at hcF h
  dsimp only at h
  obtain ⟨cas, h, hg, hargs, hblk⟩ := args_ok (pv := pv) (w0 := w0) _ _ _ h
  have hb := hblk ⟨W, hW⟩
  have hvals : c.args.map a.eval = ((c.args.toList.map (ev env)).map AV.conc).toArray := by
    apply Array.ext'
    simp only [Array.toList_map, List.map_map]
    apply List.map_congr_left
    intro x hx
    exact ev_is hE rfl (hg _ (List.mem_map_of_mem hx))
  obtain ⟨⟨fn, hfn, hname, hbody⟩, hcall⟩ := hcF cas _ W _ (hargs W hW) h
  have hrun : (execOp a.eval o).run P W = .ok (.enter F ((c.args.toList.map (ev env)).map AV.conc).toArray) W := by
    obtain ⟨callee, args, tys⟩ := c
    dsimp only at hF
    subst hF
    unfold execOp
    simp only [ho, resolve, Act.eval, Deferred.ofValue, invoke, Sem.run_bind, Sem.run_pure, Result.andThen_ok, callFunc, run_program, hfn, hname, hbody, Bool.false_eq_true, if_false]
    rw [← hvals]
    simp
  unfold Oper.wp
  rw [hrun]
  refine Calls.mono hcall fun e W' he => ?_
  obtain ⟨r, V, rfl, hres, hB, hK⟩ := he
  obtain ⟨v, m, n, hv, hm, hnear, hK⟩ := bind_ok hW hb hB hres hK
  exact ⟨v, m, n, V, hv, rfl, hm, fun _ => hB, Frm.of_below _ hB, hnear, hK⟩
/-- A call of a function that writes into what it is handed. -/
theorem mem_ok (hCT : CTok P ct) (hE : ERel ds env a N) {o : Oper} {c : Call} {F : FuncId} (ho : o.op = .call c) (hF : c.callee = .value (.func F)) {m : MT} (hct : ct F = .mem m) {Q : Exit → Act → World → Prop}
    (h : m (c.args.toList.map (ev env)) mem nx K) {W : World} (hW : MRel pv w0 mem W) : o.wp P a W (fun a' W' => ∃ v m n V, v.is V ∧ a' = a.put o.dst V ∧ MRel pv w0 m W' ∧ K v m n) Q := by
  have hcF := hCT F
  rw [hct] at hcF
  obtain ⟨hg, ⟨fn, hfn, hname, hbody⟩, hcall⟩ := hcF pv w0 W _ _ _ _ h hW
  have hvals : c.args.map a.eval = ((c.args.toList.map (ev env)).map AV.conc).toArray := by
    apply Array.ext'
    simp only [Array.toList_map, List.map_map]
    apply List.map_congr_left
    intro x hx
    exact ev_is hE rfl (hg _ (List.mem_map_of_mem hx))
  have hrun : (execOp a.eval o).run P W = .ok (.enter F ((c.args.toList.map (ev env)).map AV.conc).toArray) W := by
    obtain ⟨callee, args, tys⟩ := c
    dsimp only at hF
    subst hF
    unfold execOp
    simp only [ho, resolve, Act.eval, Deferred.ofValue, invoke, Sem.run_bind, Sem.run_pure, Result.andThen_ok, callFunc, run_program, hfn, hname, hbody, Bool.false_eq_true, if_false]
    rw [← hvals]
    simp
  unfold Oper.wp
  rw [hrun]
  refine Calls.mono hcall fun e W' he => ?_
  obtain ⟨v, m, n, rfl, hv, hm, hK⟩ := he
  exact ⟨v, m, n, _, .inr rfl, rfl, hm, hK⟩
end
end Go.Proofs.Ytjleiifcigojoaa
