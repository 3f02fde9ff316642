/- What is owed for each operation, told without a world: operations that make and write nothing are told rightly (joined). For any program. -/
import Derived.Test.YtjleiifcigojoaaPure
namespace Go.Proofs.Ytjleiifcigojoaa
open Go Go.RowKit
set_option linter.unusedVariables false
set_option linter.unusedSimpArgs false
variable {ds : List Deferred}

/-- What 'pureVC' is worth. -/
def PureOk (P : Program) (pv : Nat → Prop) (w0 : World) (mem : Mem) (c : Sem Next) (K : KO) : Prop :=
  ∃ v m n, v.good = true ∧ K v m n ∧ NoNew mem m ∧ ∀ W, MRel pv w0 mem W → MRel pv w0 m W ∧ c.run P W = .ok (.value v.conc) W
section
variable {P : Program} {tt : TT} {pv : Nat → Prop} {w0 : World} {env : Env} {mem : Mem} {nx : Nat} {a : Act} {N : Nat} {K : KO}
theorem same_ok {c : Sem Next} (v : AV) (hg : v.good = true) (hK : K v mem nx) (h : ∀ W, MRel pv w0 mem W → c.run P W = .ok (.value v.conc) W) : PureOk P pv w0 mem c K :=
  ⟨v, mem, nx, hg, hK, NoNew.refl mem, fun W hW => ⟨hW, h W hW⟩⟩
theorem ev_is {x : Operand} {v : AV} (hE : ERel ds env a N) (h : ev env x = v) (hg : v.good = true) : a.eval x = v.conc := AV.is_good (h ▸ ev_ok hE x) hg
theorem run_value {c : Sem Value} {v : Value} {W W' : World} (h : c.run P W = .ok v W') : (do pure (Next.value (← c)) : Sem Next).run P W = .ok (.value v) W' := by
  simp only [Sem.run_bind, h, Result.andThen_ok, Sem.run_pure]
theorem eqlArr {k : IntKind} {α : Type} [DecidableEq α] {f : α → Value} {j : α → Int} (hf : ∀ x, f x = .int k (j x)) (hj : ∀ x y, j x = j y → x = y) (hTT : TTok P tt) {t e n : Nat} {i : TI} (ht : tt t = some i) (hd : i.dsc = .array n e) (he : (tt e).map TI.dsc = some (.int k)) (xs ys : List α) (hx : xs.length = n) (hy : ys.length = n) (op : BinOp) (p q : Operand) (ho : op = .eql ∨ op = .neq) (W : World) :
    (do eqGuard op t p q (.agg (xs.map f).toArray) (.agg (ys.map f).toArray); binOp op t (.agg (xs.map f).toArray) (.agg (ys.map f).toArray) : Sem Value).run P W = .ok (.bool (if op = .eql then decide (xs = ys) else !decide (xs = ys))) W := by
  have hti := hTT t i ht
  obtain ⟨ie, hie, hde⟩ := Option.map_eq_some_iff.1 he
  have hei := hTT e ie hie
  have h1 : P.underlying t = some (.array n e) := by have := hti.dsc; rw [hd] at this; exact this
  have h2 : P.underlying e = some (.int k) := by have := hei.dsc; rw [hde] at this; exact this
  have h3 : (P.info? e).map (·.size) = some 1 := by rw [hei.info_size, hei.one (by rw [hde]; rfl)]
  have h4 := hti.eqg (by rw [hd]; rfl)
  have h5 := run_eqi_arr hf hj t e n h1 h3 h2 xs ys hx hy W
  simp only [Sem.run_bind, run_eqGuard_agg W _ _ _ _ _ _ h4, Result.andThen_ok]
  rcases ho with rfl | rfl
  · simp [run_eql_struct, h5]
  · simp [binOp, Op.equal, Op.maxDepth, h5]
theorem strU_le {off : Nat} : ∀ {l : List (Nat × TypeId × Nat)} {n : Nat} {off : Nat}, strU tt off l n = true → off ≤ n
  | [], n, off, h => by simp only [strU, beq_iff_eq] at h; omega
  | (o, ft, sz) :: r, n, off, h => by
    simp only [strU, Bool.and_eq_true] at h
    have := strU_le (off := off) h.2
    omega
theorem strU_run (hTT : TTok P tt) (xs ys : List U64) (hyn : ys.length = xs.length) (W : World) : ∀ (gl : List Field) (l : List (Nat × TypeId × Nat)) (off : Nat), gl.map (fun f => (f.offset, f.type)) = l.map (fun p => (p.1, p.2.1)) → gl.all (fun f => f.name != "_") = true → strU tt off l xs.length = true →
    Sem.run P (forIn gl ((none : Option Bool), ()) fun f __s =>
      if f.name ≠ "_" then do
        let __do_lift ← part f.type (xs.map v64).toArray f.offset
        let __do_lift_1 ← part f.type (ys.map v64).toArray f.offset
        let __do_lift ← Op.equalIn 9999 f.type __do_lift __do_lift_1
        if (!__do_lift) = true then pure (ForInStep.done (some false, ())) else pure (ForInStep.yield (none, ()))
      else pure (ForInStep.yield (none, ()))) W
    = .ok ((if xs.drop off = ys.drop off then (none : Option Bool) else some false), ()) W
  | [], [], off, _, _, h => by
    simp only [strU, beq_iff_eq] at h
    rw [List.drop_eq_nil_of_le (by omega), List.drop_eq_nil_of_le (by omega)]
    simp
  | [], _ :: _, _, h, _, _ => by simp at h
  | _ :: _, [], _, h, _, _ => by simp at h
  | f :: gl, (o, ft, sz) :: l, off, hm, hn, h => by
    simp only [List.map_cons, List.cons.injEq, Prod.mk.injEq] at hm
    obtain ⟨⟨ho, hft⟩, hm⟩ := hm
    simp only [List.all_cons, Bool.and_eq_true, bne_iff_ne, ne_eq] at hn
    obtain ⟨hn1, hn2⟩ := hn
    simp only [strU, Bool.and_eq_true, beq_iff_eq] at h
    obtain ⟨⟨h1, h2⟩, h3⟩ := h
    have hle := strU_le (off := off) h3
    subst h1
    cases hfi : tt ft with
    | none => simp [hfi] at h2
    | some fi =>
      simp only [hfi, Bool.and_eq_true, beq_iff_eq] at h2
      obtain ⟨hsz, h2⟩ := h2
      have hok := hTT ft fi hfi
      cases hd : fi.dsc <;> simp only [hd, Bool.false_eq_true] at h2
      rename_i m e
      simp only [Bool.and_eq_true, beq_iff_eq] at h2
      obtain ⟨rfl, h2⟩ := h2
      cases hei : tt e with
      | none => simp [hei] at h2
      | some ei =>
        simp only [hei] at h2
        have hde : ei.dsc = .int .u64 := by
          split at h2
          · assumption
          · cases h2
        have hTe := hTT e ei hei
        have e1 : P.underlying ft = some (.array m e) := by have := hok.dsc; rw [hd] at this; exact this
        have e2 : P.underlying e = some (.int .u64) := by have := hTe.dsc; rw [hde] at this; exact this
        have e3 : (P.info? e).map (·.size) = some 1 := by rw [hTe.info_size, hTe.one (by rw [hde]; rfl)]
        have hp : ∀ zs : List U64, zs.length = xs.length → (part ft (zs.map v64).toArray o).run P W = .ok (.agg (cs64 ((zs.drop o).take m))) W := by
          intro zs hz
          obtain ⟨v, _, hv, hr⟩ := part_run (P := P) (W := W) hok (K := fun v => v = (Cells.c64 zs).sub o fi.size) (cs := .c64 zs) (off := o) (by
            unfold pickC; rw [if_pos (by rw [hd]; rfl)]; exact ⟨by simp only [Cells.len]; omega, rfl⟩)
          subst hv
          rw [hsz] at hr
          exact hr
        have hq := run_equalIn_arr (f := v64) (fun _ => rfl) (fun _ _ => i64_inj.1) 9997 ft e m e1 e3 e2 ((xs.drop o).take m) ((ys.drop o).take m) (by simp; omega) (by simp; omega) W
        rw [List.forIn_cons]
        simp only [hft, ho, ne_eq, hn1, not_false_eq_true, if_true, Sem.run_bind, hp xs rfl, hp ys hyn, Result.andThen_ok, cs64, hq]
        have es : ∀ zs : List U64, zs.drop o = (zs.drop o).take m ++ zs.drop (o + m) := fun zs => by rw [← List.drop_drop, List.take_append_drop]
        by_cases hx : (xs.drop o).take m = (ys.drop o).take m
        · have ih := strU_run hTT xs ys hyn W gl l (o + m) hm hn2 h3
          simp only [hx, decide_true, Bool.not_true, Bool.false_eq_true, if_false, Sem.run_pure, Result.andThen_ok]
          simp only [ne_eq] at ih
          rw [ih]
          have : (xs.drop o = ys.drop o) = (xs.drop (o + m) = ys.drop (o + m)) := by
            rw [es xs, es ys, hx]
            exact propext ⟨fun h => (List.append_cancel_left h), fun h => by rw [h]⟩
          simp only [this]
        · have : ¬ xs.drop o = ys.drop o := fun h => hx (by rw [h])
          simp only [hx, decide_false, Bool.not_false, if_true, Sem.run_pure, Result.andThen_ok, this, if_false]
theorem eqlStr (hTT : TTok P tt) {t : Nat} {i : TI} (ht : tt t = some i) {fs : List (Nat × TypeId × Nat)} (hd : i.dsc = .struct fs) (xs ys : List U64) (hs : strU tt 0 fs xs.length = true) (hyn : ys.length = xs.length) (op : BinOp) (p q : Operand) (ho : op = .eql ∨ op = .neq) (W : World) :
    (do eqGuard op t p q (.agg (xs.map v64).toArray) (.agg (ys.map v64).toArray); binOp op t (.agg (xs.map v64).toArray) (.agg (ys.map v64).toArray) : Sem Value).run P W = .ok (.bool (if op = .eql then decide (xs = ys) else !decide (xs = ys))) W := by
  have hti := hTT t i ht
  have hu : (TDsc.struct fs).ok P t := by have := hti.dsc; rwa [hd] at this
  obtain ⟨gs, hu, hgs, _, hnm, hst⟩ := hu
  have h4 := hti.eqg (by rw [hd]; rfl)
  have h5 : (Op.equalIn 10000 t (.agg (xs.map v64).toArray) (.agg (ys.map v64).toArray)).run P W = .ok (decide (xs = ys)) W := by
    rw [Op.equalIn]
    have hl := strU_run (P := P) hTT xs ys hyn W gs.toList fs 0 hgs hnm hs
    simp only [Sem.run_bind, run_underlying hu, Result.andThen_ok, run_program, hst, Bool.false_eq_true, if_false, ← Array.forIn_toList]
    simp only [Sem.run_bind, ne_eq] at hl
    first | rw [hl] | (simp only [ne_eq]; rw [hl])
    simp only [Result.andThen_ok, List.drop_zero]
    by_cases h : xs = ys <;> simp [h]
  simp only [Sem.run_bind, run_eqGuard_agg W _ _ _ _ _ _ h4, Result.andThen_ok]
  rcases ho with rfl | rfl
  · simp [run_eql_struct, h5]
  · simp [binOp, Op.equal, Op.maxDepth, h5]
theorem eqlBool (hTT : TTok P tt) {t : Nat} (he : (tt t).map TI.dsc = some .bool) (x y : Bool) (op : BinOp) (p q : Operand) (ho : op = .eql ∨ op = .neq) (W : World) :
    (do eqGuard op t p q (.bool x) (.bool y); binOp op t (.bool x) (.bool y) : Sem Value).run P W = .ok (.bool (if op = .eql then x == y else x != y)) W := by
  obtain ⟨ie, hie, hde⟩ := Option.map_eq_some_iff.1 he
  have h2 : P.underlying t = some .bool := by have := (hTT t ie hie).dsc; rw [hde] at this; exact this
  have h5 : (Op.equalIn (9999 + 1) t (.bool x) (.bool y)).run P W = .ok (x == y) W := by
    rw [Op.equalIn]
    simp only [Sem.run_bind, run_underlying h2, Result.andThen_ok, Sem.run_pure]
  have h6 : ∀ op, (eqGuard op t p q (.bool x) (.bool y)).run P W = .ok () W := fun op => by cases op <;> simp [eqGuard]
  have h7 : (Op.equal t (.bool x) (.bool y)).run P W = .ok (x == y) W := h5
  rcases ho with rfl | rfl
  · simp only [Sem.run_bind, h6, Result.andThen_ok, binOp, h7, Sem.run_pure, if_true]
  · simp only [Sem.run_bind, h6, Result.andThen_ok, binOp, h7, Sem.run_pure, reduceCtorEq, if_false]
    rfl
theorem addA (b o i : Nat) : (⟨b, o, none⟩ : Addr).add i = ⟨b, o + i, none⟩ := by unfold Addr.add; split <;> simp_all
theorem load_rd {t : TypeId} {i : TI} (hi : TIok P t i) {A : Option Addr} {cs : Cells} {j : Nat} {K : AV → Prop} (l : Nat) (hread : ∀ W, MRel pv w0 mem W → ∃ b o, A = some ⟨b, o, none⟩ ∧ ∀ k v, cs.vals[k]? = some v → W.cell? ⟨b, o + k, none⟩ = some v) (hp : 0 < cs.len) (h : pickC i cs j K) :
    ∃ u, u.good = true ∧ K u ∧ ∀ W, MRel pv w0 mem W → (Instr.loadAt t (AV.rptr l A j).conc).run P W = .ok u.conc W := by
  have fin : ∀ u : AV, (∀ W b o, (∀ k v, cs.vals[k]? = some v → W.cell? ⟨b, o + k, none⟩ = some v) → (loadVar t ⟨b, o + j, none⟩).run P W = .ok u.conc W) → ∀ W, MRel pv w0 mem W → (Instr.loadAt t (AV.rptr l A j).conc).run P W = .ok u.conc W := fun u hu W hW => by
    obtain ⟨b, o, rfl, hc⟩ := hread W hW
    simp only [AV.conc, Option.map_some, addA, Instr.loadAt, Instr.sureAddr, Sem.run_bind, Sem.run_pure, Result.andThen_ok]
    exact hu W b o hc
  unfold pickC at h
  by_cases ha : i.dsc.agg = true
  · rw [if_pos ha] at h
    refine ⟨_, by cases cs <;> rfl, h.2, fin _ (fun W b o hc => ?_)⟩
    obtain ⟨v, hv1, hv2, hv3⟩ := var_run hi (K := fun v => v = cs.sub j i.size) (b := b) (o := o) (off := j) (P := P) (W := W) (cs := cs) hc (by unfold pickC; rw [if_pos ha]; exact ⟨h.1, rfl⟩)
    subst hv2
    exact hv3
  · rw [if_neg ha] at h
    refine ⟨_, h.2.1, h.2.2, fin _ (fun W b o hc => ?_)⟩
    obtain ⟨v, hv1, hv2, hv3⟩ := var_run hi (K := fun v => v = cs.get j) (b := b) (o := o) (off := j) (P := P) (W := W) (cs := cs) hc (by unfold pickC; rw [if_neg ha]; exact ⟨h.1, h.2.1, rfl⟩)
    subst hv2
    exact hv3
theorem load_ok (hTT : TTok P tt) {t : TypeId} {i : TI} (ht : tt t = some i) {v : AV} {K : AV → Prop} (h : loadVC mem i v K) :
    ∃ u, u.good = true ∧ K u ∧ ∀ W, MRel pv w0 mem W → (Instr.loadAt t v.conc).run P W = .ok u.conc W := by
  have hi := hTT t i ht
  cases v with
  | ptr l g j =>
    simp only [loadVC] at h
    cases hg : getA mem l with
    | none => simp [hg] at h
    | some e =>
      rw [hg] at h
      cases e with
      | own g' u cs =>
        obtain ⟨rfl, h⟩ := h
        by_cases hw : i.dsc.agg = true ∧ j = 0 ∧ i.size = cs.len
        · rw [if_pos hw] at h
          obtain ⟨ha, rfl, hs⟩ := hw
          refine ⟨_, by cases cs <;> rfl, h, fun W hW => ?_⟩
          obtain ⟨ho, _, _⟩ := hW.ok _ _ hg
          obtain ⟨d, hd, hda⟩ := hi.under
          rw [Cells.agg_conc]
          simp only [AV.conc, Instr.loadAt, Instr.sureAddr, Sem.run_bind, Sem.run_pure, Result.andThen_ok]
          exact run_loadVar_row W g' u t _ (0, 0) d ho hd (by rw [ha] at hda; cases d <;> first | rfl | (simp at hda; done)) (by rw [hi.info_size, hs]; simp [Cells.vals_length])
        · rw [if_neg hw] at h
          -- the value does not hang on the world
          have key : ∀ W, MRel pv w0 mem W → ∃ v, v.good = true ∧ K v ∧ (loadVar t ⟨g', 0 + j, none⟩).run P W = .ok v.conc W := fun W hW => by
            obtain ⟨ho, _, _⟩ := hW.ok _ _ hg
            exact var_run hi (b := g') (o := 0) (off := j) (fun k v hv => by rw [ho.cell]; simpa using hv) h
          unfold pickC at h
          by_cases ha : i.dsc.agg = true
          · rw [if_pos ha] at h
            refine ⟨_, by cases cs <;> rfl, h.2, fun W hW => ?_⟩
            obtain ⟨ho, _, _⟩ := hW.ok _ _ hg
            obtain ⟨v, hv1, hv2, hv3⟩ := var_run hi (K := fun v => v = cs.sub j i.size) (b := g') (o := 0) (off := j) (P := P) (W := W) (cs := cs) (fun k v hv => by rw [ho.cell]; simpa using hv) (by unfold pickC; rw [if_pos ha]; exact ⟨h.1, rfl⟩)
            subst hv2
            simp only [AV.conc, Instr.loadAt, Instr.sureAddr, Sem.run_bind, Sem.run_pure, Result.andThen_ok]
            simpa using hv3
          · rw [if_neg ha] at h
            refine ⟨_, h.2.1, h.2.2, fun W hW => ?_⟩
            obtain ⟨ho, _, _⟩ := hW.ok _ _ hg
            obtain ⟨v, hv1, hv2, hv3⟩ := var_run hi (K := fun v => v = cs.get j) (b := g') (o := 0) (off := j) (P := P) (W := W) (cs := cs) (fun k v hv => by rw [ho.cell]; simpa using hv) (by unfold pickC; rw [if_neg ha]; exact ⟨h.1, h.2.1, rfl⟩)
            subst hv2
            simp only [AV.conc, Instr.loadAt, Instr.sureAddr, Sem.run_bind, Sem.run_pure, Result.andThen_ok]
            simpa using hv3
      | _ => exact h.elim
  | rptr l A j =>
    simp only [loadVC] at h
    cases hg : getA mem l with
    | none => simp [hg] at h
    | some e =>
      rw [hg] at h
      cases e with
      | ro A' c' cs =>
        obtain ⟨rfl, hp, h⟩ := h
        refine load_rd hi l (fun W hW => ?_) hp h
        obtain ⟨h1, _, _⟩ := hW.ok _ _ hg
        obtain ⟨b, o, hA, hc⟩ := h1.all (by rw [Cells.vals_length]; exact hp)
        exact ⟨b, o, hA, hc⟩
      | row v' e cs =>
        obtain ⟨rfl, hp, h⟩ := h
        refine load_rd hi l (fun W hW => ?_) hp h
        obtain ⟨h1, _⟩ := hW.ok _ _ hg
        have h2 := h1
        rcases h2.2 with ⟨rfl, hn⟩ | ⟨g, cap, cur, rfl, _⟩
        · omega
        · exact ⟨g, 0, rfl, fun k v hv => by
            have := h1.cells (g := g) rfl k v hv
            rwa [addA] at this⟩
      | _ => exact h.elim
  | _ => exact h.elim
end
end Go.Proofs.Ytjleiifcigojoaa
