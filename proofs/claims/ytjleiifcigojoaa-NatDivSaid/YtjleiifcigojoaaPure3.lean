/- What is owed for each operation, told without a world: operations that make and write nothing are told rightly (all of them). For any program. -/
import Derived.Test.YtjleiifcigojoaaPure2
namespace Go.Proofs.Ytjleiifcigojoaa
open Go Go.RowKit
set_option linter.unusedVariables false
set_option linter.unusedSimpArgs false
variable {ds : List Deferred}
section
variable {P : Program} {tt : TT} {pv : Nat → Prop} {w0 : World} {env : Env} {mem : Mem} {nx : Nat} {a : Act} {N : Nat} {K : KO}
theorem exec_value {ρ : Operand → Value} {o : Oper} {s : Sem Value} {v : Value} {W : World} (he : execOp ρ o = (do pure (Next.value (← s)))) (h : s.run P W = .ok v W) : (execOp ρ o).run P W = .ok (.value v) W := by
  rw [he]; exact run_value h
theorem pure_build (hTT : TTok P tt) (hE : ERel ds env a N) {t : TypeId} {ps : Array (Nat × Operand)} (h : pureVC tt env mem nx (.build t ps) K) : ∃ v, v.good = true ∧ K v mem nx ∧ ∀ W, (Instr.build t (ps.map fun (i, x) => (i, a.eval x))).run P W = .ok v.conc W := by
  simp only [pureVC] at h
  cases ht : tt t with
  | none => simp [ht] at h
  | some i =>
    rw [ht] at h
    have hi := hTT t i ht
    have hlen : (ps.map fun (i, x) => (i, a.eval x)).toList.length = (ps.toList.map fun p => (p.1, ev env p.2)).length := by simp
    have hpts : ∀ (j : Nat) (p : Nat × AV) (q : Nat × Value), (ps.toList.map fun p => (p.1, ev env p.2))[j]? = some p → (ps.map fun (i, x) => (i, a.eval x)).toList[j]? = some q → q.1 = p.1 ∧ p.2.is q.2 := by
      intro j p q hp hq
      rw [List.getElem?_map] at hp
      rw [Array.toList_map, List.getElem?_map] at hq
      obtain ⟨z, hz, rfl⟩ := Option.map_eq_some_iff.1 hp
      rw [hz] at hq
      simp only [Option.map_some, Option.some.injEq] at hq
      subst hq
      exact ⟨rfl, ev_ok hE _⟩
    cases hd : i.dsc with
    | array n e =>
      simp only [hd] at h
      cases he : tt e with
      | none => simp [he] at h
      | some ie =>
        simp only [he] at h
        have hei := hTT e ie he
        obtain ⟨cs', hK, hf, _⟩ := fill_ok _ _ _ _ h hlen hpts hi.ones
        refine ⟨cs'.agg, by cases cs' <;> rfl, hK, fun W => ?_⟩
        have hu : P.underlying t = some (.array n e) := by have := hi.dsc; rw [hd] at this; exact this
        unfold Instr.build
        simp only [Sem.run_bind, hi.rzero, Result.andThen_ok, run_underlying hu, hei.rsize, hi.zcells, hf, Sem.run_pure, Cells.agg_conc]
    | struct fs =>
      simp only [hd] at h
      have hu : (TDsc.struct fs).ok P t := by have := hi.dsc; rwa [hd] at this
      obtain ⟨gs, hu, hgs, hpl, -⟩ := hu
      have hplace : (fun j : Nat => (fs.map fun p => (p.1, p.2.2)).toArray[j]?) = fun j : Nat => (fs[j]?).map fun (p : Nat × TypeId × Nat) => (p.1, p.2.2) := by funext j; simp
      obtain ⟨cs', hK, hf, _⟩ := fill_ok _ _ _ _ h hlen hpts hi.ones
      refine ⟨cs'.agg, by cases cs' <;> rfl, hK, fun W => ?_⟩
      unfold Instr.build
      have hrp := run_places (P := P) W _ _ hpl
      simp only [Sem.run_bind, hi.rzero, Result.andThen_ok, run_underlying hu, hi.zcells, Sem.run_pure, Cells.agg_conc]
      rw [Array.mapM_eq_mapM_toList]
      simp only [map_eq_pure_bind, bind_assoc, pure_bind] at hrp ⊢
      simp only [Sem.run_bind, hrp, Result.andThen_ok, hplace, hf, Sem.run_pure]
    | _ => simp [hd] at h
theorem bnd_ok (hE : ERel ds env a N) {o : Option Operand} {d : Nat} {K : Nat → Prop} (h : bndVC (o.map (ev env)) d K) : ∃ n, K n ∧ ((o.map a.eval = none ∧ n = d) ∨ ∃ z : Int, o.map a.eval = some (.int .i64 z) ∧ 0 ≤ z ∧ z.toNat = n) := by
  cases o with
  | none => exact ⟨d, h, .inl ⟨rfl, rfl⟩⟩
  | some x =>
    simp only [Option.map_some, bndVC] at h
    split at h
    · rename_i hx; cases hx
    · rename_i z hx
      injection hx with hx
      exact ⟨_, h.2, .inr ⟨z, by rw [Option.map_some, ev_is hE hx rfl]; rfl, h.1, rfl⟩⟩
    · exact h.elim
theorem bounds_run {W : World} {sl : Bool} {len cap l h m : Nat} {lo hi mx : Option Value} (hm : (mx = none ∧ m = cap) ∨ ∃ z : Int, mx = some (.int .i64 z) ∧ 0 ≤ z ∧ z.toNat = m) (hmc : m ≤ cap)
    (hh : (hi = none ∧ mx = none ∧ h = len) ∨ ∃ z : Int, hi = some (.int .i64 z) ∧ 0 ≤ z ∧ z.toNat = h) (hhm : h ≤ m) (hl : (lo = none ∧ l = 0) ∨ ∃ z : Int, lo = some (.int .i64 z) ∧ 0 ≤ z ∧ z.toNat = l) (hlh : l ≤ h) :
    (Instr.sliceBounds sl len cap lo hi mx).run P W = .ok (l, h, m) W := by
  have sb : ∀ (z : Int) (y n : Nat) (c : BoundsCode), 0 ≤ z → z.toNat = n → n ≤ y → (Instr.sliceBound (.int .i64 z) y c).run P W = .ok n W := by
    intro z y n c h0 hn hy
    unfold Instr.sliceBound
    have : z ≤ (y : Int) := by omega
    simp only [asIntOf, Sem.run_bind, Sem.run_pure, Result.andThen_ok, h0, this, and_self, if_true, hn]
  unfold Instr.sliceBounds
  rcases hm with ⟨rfl, rfl⟩ | ⟨z1, rfl, h1, e1⟩ <;> rcases hh with ⟨rfl, he, rfl⟩ | ⟨z2, rfl, h2, e2⟩ <;> rcases hl with ⟨rfl, rfl⟩ | ⟨z3, rfl, h3, e3⟩ <;> (try cases he)
  all_goals simp only [Sem.run_bind, Sem.run_pure, Result.andThen_ok]
  all_goals first
    | (rw [sb z3 _ _ _ h3 e3 hlh]; rfl)
    | (rw [sb z2 _ _ _ h2 e2 hhm]; simp only [Result.andThen_ok, sb z3 _ _ _ h3 e3 hlh])
    | (rw [sb z2 _ _ _ h2 e2 hhm]; rfl)
    | (rw [sb z1 _ _ _ h1 e1 hmc]; simp only [Result.andThen_ok]; rw [sb z2 _ _ _ h2 e2 hhm]; simp only [Result.andThen_ok, sb z3 _ _ _ h3 e3 hlh])
    | (rw [sb z1 _ _ _ h1 e1 hmc]; simp only [Result.andThen_ok]; rw [sb z2 _ _ _ h2 e2 hhm]; rfl)
    | rfl
theorem hi_none {lo hi mx : Option Operand} {m h d : Nat} (hg : ((mx.map (ev env)).isNone || (hi.map (ev env)).isSome) = true) (hh : (hi.map a.eval = none ∧ h = d) ∨ ∃ z : Int, hi.map a.eval = some (.int .i64 z) ∧ 0 ≤ z ∧ z.toNat = h) (hd : mx = none → d = m) :
    (hi.map a.eval = none ∧ mx.map a.eval = none ∧ h = m) ∨ ∃ z : Int, hi.map a.eval = some (.int .i64 z) ∧ 0 ≤ z ∧ z.toNat = h := by
  rcases hh with ⟨h1, h2⟩ | h
  · cases hi with
    | none => cases mx with
      | none => exact .inl ⟨rfl, rfl, by rw [h2, hd rfl]⟩
      | some x => simp at hg
    | some x => simp at h1
  · exact .inr h
theorem pure_slice (hTT : TTok P tt) (hE : ERel ds env a N) {t : TypeId} {x : Operand} {lo hi mx : Option Operand} (h : sliceVC tt mem nx t (ev env x) (lo.map (ev env)) (hi.map (ev env)) (mx.map (ev env)) K) :
    ∃ v m n, v.good = true ∧ K v m n ∧ NoNew mem m ∧ ∀ W, MRel pv w0 mem W → MRel pv w0 m W ∧ (Instr.sliceAt t (a.eval x) (lo.map a.eval) (hi.map a.eval) (mx.map a.eval)).run P W = .ok v.conc W := by
  obtain ⟨hg, h⟩ := h
  have mxn : mx.map (ev env) = none → mx.map a.eval = none := by cases mx <;> simp
  cases hx : ev env x <;> simp only [hx] at h <;> try exact h.elim
  · -- a pointer to an array
    rename_i l g i
    cases ht : tt t with
    | none => simp [ht] at h
    | some ti =>
      simp only [ht] at h
      cases hd : ti.dsc <;> simp only [hd] at h <;> try exact h.elim
      rename_i n e
      have hu : P.underlying t = some (.array n e) := by have := (hTT t ti ht).dsc; rw [hd] at this; exact this
      obtain ⟨m, h, hm⟩ := bnd_ok hE h
      obtain ⟨hv, h, hh⟩ := bnd_ok hE h
      obtain ⟨lv, h, hl⟩ := bnd_ok hE h
      obtain ⟨⟨h1, h2, h3, h4⟩, h5, hK⟩ := h
      obtain ⟨ie, hie, hes⟩ := Option.map_eq_some_iff.1 h5
      refine ⟨_, _, _, rfl, hK, NoNew.refl mem, fun W hW => ⟨hW, ?_⟩⟩
      have hh' := hi_none (lo := lo) hg hh (m := n) (by rintro rfl; rcases hm with ⟨_, h⟩ | ⟨z, hz, _⟩; exact h; simp at hz)
      have hr := bounds_run (P := P) (W := W) (sl := false) (len := n) (cap := n) hm h3 (by rcases hh' with ⟨p, q, r⟩ | p; exact .inl ⟨p, q, r⟩; exact .inr p) h2 hl h1
      rw [ev_is hE hx rfl]
      unfold Instr.sliceAt
      simp only [AV.conc, Sem.run_bind, run_underlying hu, Result.andThen_ok, Instr.sureAddr, Sem.run_pure, hr, (hTT e ie hie).rsize, hes, Nat.mul_one, addA]
      by_cases hml : m = lv
      · have : lv = 0 := by omega
        simp [hml, this]
      · simp [hml]
  · rename_i l g off len cap
    cases ht : tt t with
    | none => simp [ht] at h
    | some ti =>
      simp only [ht] at h
      cases hd : ti.dsc <;> simp only [hd] at h <;> try exact h.elim
      rename_i e
      have hu : P.underlying t = some (.slice e) := by have := (hTT t ti ht).dsc; rw [hd] at this; exact this
      obtain ⟨m, h, hm⟩ := bnd_ok hE h
      obtain ⟨hv, h, hh⟩ := bnd_ok hE h
      obtain ⟨lv, h, hl⟩ := bnd_ok hE h
      obtain ⟨⟨h1, h2, h3, h4⟩, h5, hK⟩ := h
      obtain ⟨ie, hie, hes⟩ := Option.map_eq_some_iff.1 h5
      refine ⟨_, _, _, rfl, hK, NoNew.refl mem, fun W hW => ⟨hW, ?_⟩⟩
      have hh' : (hi.map a.eval = none ∧ mx.map a.eval = none ∧ hv = len) ∨ ∃ z : Int, hi.map a.eval = some (.int .i64 z) ∧ 0 ≤ z ∧ z.toNat = hv := by
        rcases hh with ⟨p, q⟩ | p
        · cases hi with
          | none => cases mx with
            | none => exact .inl ⟨rfl, rfl, q⟩
            | some x => simp at hg
          | some x => simp at p
        · exact .inr p
      have hr := bounds_run (P := P) (W := W) (sl := true) (len := len) (cap := cap) hm h3 hh' h2 hl h1
      rw [ev_is hE hx rfl, run_sliceAt_slice (h := by rw [show P.elem t = e from by simp [Program.elem, hu]]; exact hu)]
      unfold Instr.slice
      simp only [AV.conc, Sem.run_bind, run_underlying hu, Result.andThen_ok, Sem.run_pure, hr, (hTT e ie hie).rsize, hes, Nat.mul_one, Option.map_some, addA]
      by_cases hml : m = lv
      · have : lv = 0 := by omega
        simp [hml, this]
      · simp [hml]
  · rename_i l A n c
    cases ht : tt t with
    | none => simp [ht] at h
    | some ti =>
      simp only [ht] at h
      cases hd : ti.dsc <;> simp only [hd] at h <;> try exact h.elim
      rename_i e
      have hu : P.underlying t = some (.slice e) := by have := (hTT t ti ht).dsc; rw [hd] at this; exact this
      cases hgm : getA mem l with
      | none => simp [hgm] at h
      | some me =>
        rw [hgm] at h
        cases me with
        | ro A' c' cs =>
          obtain ⟨⟨rfl, rfl, hlen⟩, h⟩ := h
          -- the bounds
          have body : ∃ m hv lv : Nat, ((mx.map a.eval = none) ∨ ∃ z : Int, mx.map a.eval = some (.int .i64 z) ∧ 0 ≤ z ∧ z.toNat = m ∧ m ≤ n) ∧ ((hi.map a.eval = none ∧ mx.map a.eval = none ∧ hv = n) ∨ ∃ z : Int, hi.map a.eval = some (.int .i64 z) ∧ 0 ≤ z ∧ z.toNat = hv) ∧
              ((lo.map a.eval = none ∧ lv = 0) ∨ ∃ z : Int, lo.map a.eval = some (.int .i64 z) ∧ 0 ≤ z ∧ z.toNat = lv) ∧ lv ≤ hv ∧ hv ≤ n ∧ (mx.map a.eval = none ∨ hv ≤ m) ∧ (tt e).map TI.size = some 1 ∧ ∀ A1 c1, K (.ros nx A1 (hv - lv) c1) ((nx, .ro A1 c1 (cs.part lv (hv - lv))) :: mem) (nx + 1) := by
            cases hmx : mx with
            | none =>
              simp only [hmx, Option.map_none] at h
              obtain ⟨hv, h, hh⟩ := bnd_ok hE h
              obtain ⟨lv, h, hl⟩ := bnd_ok hE h
              obtain ⟨⟨h1, h2⟩, h5, hK⟩ := h
              refine ⟨0, hv, lv, .inl rfl, ?_, hl, h1, h2, .inl rfl, h5, hK⟩
              rcases hh with ⟨p, q⟩ | p
              · exact .inl ⟨p, rfl, q⟩
              · exact .inr p
            | some mo =>
              simp only [hmx, Option.map_some] at h
              rw [show some (ev env mo) = (some mo).map (ev env) from rfl] at h
              obtain ⟨m, h, hm⟩ := bnd_ok hE h
              obtain ⟨hv, h, hh⟩ := bnd_ok hE h
              obtain ⟨lv, h, hl⟩ := bnd_ok hE h
              obtain ⟨⟨h1, h2, h3⟩, h5, hK⟩ := h
              refine ⟨m, hv, lv, .inr ?_, ?_, hl, h1, by omega, .inr h2, h5, hK⟩
              · rcases hm with ⟨p, _⟩ | ⟨z, p, q, r⟩
                · simp at p
                · exact ⟨z, p, q, r, h3⟩
              · rcases hh with ⟨p, q⟩ | p
                · cases hi with
                  | none => simp [hmx] at hg
                  | some x => simp at p
                · exact .inr p
          obtain ⟨m, hv, lv, hm, hh, hl, h1, h2, h3, h5, hK⟩ := body
          obtain ⟨ie, hie, hes⟩ := Option.map_eq_some_iff.1 h5
          -- the place and the capacity that it gets
          obtain ⟨m1, hm1, hm2⟩ : ∃ m1 : Nat, (mx.map a.eval = none → m1 = c') ∧ (mx.map a.eval ≠ none → m1 = m) := by
            by_cases hn : mx.map a.eval = none
            · exact ⟨c', fun _ => rfl, fun h => absurd hn h⟩
            · exact ⟨m, fun h => absurd h hn, fun _ => rfl⟩
          have hblkd : ∀ k, blkA (if m1 = lv then A' else A'.map (·.add lv)) = some k → blkA A' = some k := by
            intro k hk
            cases A' with
            | none => split at hk <;> exact hk
            | some ad =>
              split at hk
              · exact hk
              · simp only [Option.map_some, blkA] at hk ⊢
                rw [← hk]; unfold Addr.add; split <;> rfl
          refine ⟨_, _, _, rfl, hK (if m1 = lv then A' else A'.map (·.add lv)) (m1 - lv), fun l2 e2 k he2 hk2 => ?_, fun W hW => ?_⟩
          · simp only [getA] at he2
            split at he2
            · injection he2 with he2; subst he2; exact ⟨l, _, hgm, hblkd k hk2⟩
            · exact ⟨l2, e2, he2, hk2⟩
          obtain ⟨hs, hcl, hbl⟩ := hW.ok _ _ hgm
          have hmc : m1 ≤ c' := by
            rcases hm with hm | ⟨z, hz, _, _, hmn⟩
            · rw [hm1 hm]; exact Nat.le_refl _
            · rw [hm2 (by rw [hz]; simp)]; omega
          have hvm : hv ≤ m1 := by
            rcases h3 with h3 | h3
            · rw [hm1 h3]; omega
            · by_cases hn : mx.map a.eval = none
              · rw [hm1 hn]; omega
              · rw [hm2 hn]; exact h3
          have hr := bounds_run (P := P) (W := W) (sl := true) (len := n) (cap := c') (m := m1) (lo := lo.map a.eval) (hi := hi.map a.eval) (mx := mx.map a.eval) (by
            rcases hm with hm | ⟨z, hz, h0, hz2, _⟩
            · exact .inl ⟨hm, hm1 hm⟩
            · exact .inr ⟨z, hz, h0, by rw [hz2, hm2 (by rw [hz]; simp)]⟩) hmc hh hvm hl h1
          refine ⟨hW.add nx _ ⟨⟨?_, fun j v hj => ?_⟩, ?_, ?_⟩ ?_, ?_⟩
          · rw [Cells.vals_part]
            have := hs.1
            simp only [List.length_take, List.length_drop]; omega
          · rw [Cells.vals_part, List.getElem?_take] at hj
            split at hj
            · rename_i hjl
              rw [List.getElem?_drop] at hj
              obtain ⟨b, o, rfl, hc⟩ := hs.2 (lv + j) v hj
              refine ⟨b, o + lv, ?_, ?_⟩
              · rw [if_neg (by omega)]; simp [addA]
              · rw [Nat.add_assoc]; exact hc
            · cases hj
          · rw [Cells.part_len]; omega
          · intro k hk
            refine hbl k ?_
            cases A' with
            | none => split at hk <;> exact hk
            | some ad =>
              split at hk
              · exact hk
              · simp only [Option.map_some, blkA] at hk ⊢
                rw [← hk]; unfold Addr.add; split <;> rfl
          · intro l' e' he' hmine k hk hk'
            rcases hmine with hmine | hmine
            · cases hmine
            · have hA : blkA A' = some k := by
                cases A' with
                | none => simp only [ME.blk] at hk; split at hk <;> exact hk
                | some ad =>
                  simp only [ME.blk] at hk
                  split at hk
                  · exact hk
                  · simp only [Option.map_some, blkA] at hk ⊢
                    rw [← hk]; unfold Addr.add; split <;> rfl
              by_cases hll : l' = l
              · subst hll; rw [hgm] at he'; injection he' with he'; subst he'; cases hmine
              · exact hW.sep l' e' l _ he' hgm hll hmine k hk' hA
          · rw [ev_is hE hx rfl, run_sliceAt_slice (h := by rw [show P.elem t = e from by simp [Program.elem, hu]]; exact hu)]
            unfold Instr.slice
            simp only [AV.conc, Sem.run_bind, run_underlying hu, Result.andThen_ok, Sem.run_pure, hr, (hTT e ie hie).rsize, hes, Nat.mul_one]
        | _ => exact h.elim
  · rename_i l v n
    cases ht : tt t with
    | none => simp [ht] at h
    | some ti =>
      simp only [ht] at h
      cases hd : ti.dsc <;> simp only [hd] at h <;> try exact h.elim
      rename_i e
      have hu : P.underlying t = some (.slice e) := by have := (hTT t ti ht).dsc; rw [hd] at this; exact this
      cases hgm : getA mem l with
      | none => simp [hgm] at h
      | some me =>
        rw [hgm] at h
        cases me with
        | row v' e' cs =>
          obtain ⟨⟨rfl, hlen⟩, hmx, h⟩ := h
          obtain ⟨hv, h, hh⟩ := bnd_ok hE h
          obtain ⟨lv, h, hl⟩ := bnd_ok hE h
          obtain ⟨⟨h1, h2⟩, h5, hK⟩ := h
          obtain ⟨ie, hie, hes⟩ := Option.map_eq_some_iff.1 h5
          have hmn : mx.map a.eval = none := by cases mx <;> simp_all
          by_cases hform : ∃ A c, v' = .slice A n c
          · obtain ⟨A, c, rfl⟩ := hform
            have hblkd : ∀ k, blkA (if c = lv then A else A.map (·.add lv)) = some k → blkA A = some k := by
              intro k hk
              cases A with
              | none => split at hk <;> exact hk
              | some ad =>
                split at hk
                · exact hk
                · simp only [Option.map_some, blkA] at hk ⊢
                  rw [← hk]; unfold Addr.add; split <;> rfl
            refine ⟨_, _, _, rfl, hK (if c = lv then A else A.map (·.add lv)) (c - lv), fun l2 e2 k he2 hk2 => ?_, fun W hW => ?_⟩
            · simp only [getA] at he2
              split at he2
              · injection he2 with he2; subst he2
                refine ⟨l, _, hgm, ?_⟩
                have := hblkd k hk2
                cases A with
                | none => cases this
                | some ad => exact this
              · rw [getA_delA] at he2
                split at he2
                · cases he2
                · exact ⟨l2, e2, he2, hk2⟩
            obtain ⟨ho, h3⟩ := hW.ok _ _ hgm
            have ho' : W.ownsRow w0.heap.size e' 1 (.slice A n c) cs.len (cs.vals.map id) := by rw [List.map_id]; exact ho
            obtain ⟨A1, c1, heq, hcl, _, hs⟩ := owns_sl ho'
            injection heq with q1 q2 q3
            subst q1; subst q3
            have hbl : ∀ k, blkA A = some k → k < W.heap.size ∧ (w0.heap.size ≤ k ∨ pv k) := fun k hk => by
              have hk' : (ME.row (.slice A n c) e' cs).blk = some k := by
                cases A with
                | none => cases hk
                | some ad => exact hk
              have hme : MEok pv w0 W (.row (.slice A n c) e' cs) := ⟨ho, h3⟩
              exact ⟨hme.blk_lt k hk', hme.prov k hk'⟩
            have hh' : (hi.map a.eval = none ∧ mx.map a.eval = none ∧ hv = n) ∨ ∃ z : Int, hi.map a.eval = some (.int .i64 z) ∧ 0 ≤ z ∧ z.toNat = hv := by
              rcases hh with ⟨p, q⟩ | p
              · exact .inl ⟨p, hmn, q⟩
              · exact .inr p
            have hr := bounds_run (P := P) (W := W) (sl := true) (len := n) (cap := c) (m := c) (lo := lo.map a.eval) (hi := hi.map a.eval) (mx := mx.map a.eval) (.inl ⟨hmn, rfl⟩) (Nat.le_refl _) hh' (by omega) hl h1
            refine ⟨(hW.drop l).add nx _ ⟨⟨?_, fun j v hj => ?_⟩, ?_, fun k hk => hbl k (hblkd k hk)⟩ ?_, ?_⟩
            · rw [Cells.vals_part]
              have := hs.1
              simp only [List.length_take, List.length_drop]; omega
            · rw [Cells.vals_part, List.getElem?_take] at hj
              split at hj
              · rename_i hjl
                rw [List.getElem?_drop] at hj
                obtain ⟨b, o, rfl, hc⟩ := hs.2 (lv + j) v hj
                refine ⟨b, o + lv, ?_, ?_⟩
                · rw [if_neg (by omega)]; simp [addA]
                · rw [Nat.add_assoc]; exact hc
              · cases hj
            · rw [Cells.part_len]; omega
            · intro l2 e2 he2 hmine k hk hk'
              rw [getA_delA] at he2
              split at he2
              · cases he2
              · rename_i hll
                have hA := hblkd k hk
                refine hW.sep l _ l2 e2 hgm he2 (Ne.symm hll) rfl k ?_ hk'
                cases A with
                | none => cases hA
                | some ad => exact hA
            · rw [ev_is hE hx rfl, run_sliceAt_slice (h := by rw [show P.elem t = e from by simp [Program.elem, hu]]; exact hu)]
              unfold Instr.slice
              simp only [AV.conc, Sem.run_bind, run_underlying hu, Result.andThen_ok, Sem.run_pure, hr, (hTT e ie hie).rsize, hes, Nat.mul_one]
          · refine ⟨_, _, _, rfl, hK none 0, fun l2 e2 k he2 hk2 => ?_, fun W hW => ?_⟩
            · simp only [getA] at he2
              split at he2
              · injection he2 with he2; subst he2; cases hk2
              · rw [getA_delA] at he2
                split at he2
                · cases he2
                · exact ⟨l2, e2, he2, hk2⟩
            exfalso
            obtain ⟨ho, h3⟩ := hW.ok _ _ hgm
            rcases ho.2 with ⟨rfl, hn⟩ | ⟨g, cap, cur, rfl, _⟩
            · exact hform ⟨none, 0, by rw [← hlen, hn]⟩
            · exact hform ⟨_, _, by rw [← hlen]⟩
        | _ => exact h.elim
theorem pure_ok (hTT : TTok P tt) (hE : ERel ds env a N) {op : Op} (h : pureVC tt env mem nx op K) {o : Oper} (ho : o.op = op) : PureOk P pv w0 mem (execOp a.eval o) K := by
  cases op with
  | move x =>
    simp only [pureVC] at h
    refine same_ok _ h.1 h.2 fun W _ => ?_
    simp only [execOp, ho, Sem.run_pure, ev_is hE rfl h.1]
  | assign x =>
    simp only [pureVC] at h
    refine same_ok _ h.1 h.2 fun W _ => ?_
    simp only [execOp, ho, Sem.run_pure, ev_is hE rfl h.1]
  | pick c x y =>
    simp only [pureVC] at h
    cases hc : ev env c <;> simp only [hc] at h <;> try exact h.elim
    rename_i t
    have e0 := ev_is hE hc rfl
    cases t
    · obtain ⟨g2, h2⟩ : (ev env y).good = true ∧ K (ev env y) mem nx := h
      refine same_ok _ g2 h2 fun W _ => ?_
      simp [execOp, ho, e0, AV.conc, asBool, ev_is hE rfl g2]
    · obtain ⟨g1, h1⟩ : (ev env x).good = true ∧ K (ev env x) mem nx := h
      refine same_ok _ g1 h1 fun W _ => ?_
      simp [execOp, ho, e0, AV.conc, asBool, ev_is hE rfl g1]
  | build t ps =>
    obtain ⟨v, h1, h2, h3⟩ := pure_build hTT hE h
    refine same_ok v h1 h2 fun W _ => exec_value (s := Instr.build t (ps.map fun (i, x) => (i, a.eval x))) ?_ (h3 W)
    simp only [execOp, ho]
  | load t x =>
    simp only [pureVC] at h
    cases ht : tt t with
    | none => simp [ht] at h
    | some i =>
      rw [ht] at h
      obtain ⟨u, h1, h2, h3⟩ := load_ok (P := P) (pv := pv) (w0 := w0) hTT ht h
      refine same_ok u h1 h2 fun W hW => exec_value (s := Instr.loadAt t (a.eval x)) ?_ ?_
      · simp only [execOp, ho]
      · have hg : (ev env x).good = true := by
          cases hx : ev env x <;> first | rfl | (rw [hx] at h; exact h.elim)
        rw [ev_is hE rfl hg]; exact h3 W hW
  | nilCheck x =>
    simp only [pureVC] at h
    cases hx : ev env x <;> simp only [hx] at h <;> try exact h.elim
    · have e0 := ev_is hE hx rfl
      refine same_ok _ rfl h fun W _ => ?_
      simp [execOp, ho, e0, AV.conc]
    · have e0 := ev_is hE hx rfl
      refine same_ok _ rfl h.2 fun W _ => ?_
      rename_i l A i
      obtain ⟨b, rfl⟩ := Option.isSome_iff_exists.1 h.1
      simp [execOp, ho, e0, AV.conc]
  | binOp bop t x y t2 =>
    have hexec : execOp a.eval o = (do pure (Next.value (← (do eqGuard bop t x y (a.eval x) (a.eval y); binOp bop t (a.eval x) (a.eval y) : Sem Value)))) := by simp only [execOp, ho]
    have gen : ∀ u v, ev env x = u → ev env y = v → u.good = true → v.good = true → binT (wrapT (tt t)) bop u v (fun v => K v mem nx) → PureOk P pv w0 mem (execOp a.eval o) K := by
      intro u v hu hv g1 g2 h
      obtain ⟨r, h1, h2, h3, h4⟩ := binT_ok h
      refine same_ok r h1 h2 fun W _ => exec_value hexec ?_
      rw [ev_is hE hu g1, ev_is hE hv g2]
      simp only [Sem.run_bind, h4 P t W x y, Result.andThen_ok, h3 P t W]
    simp only [pureVC] at h
    split at h
    · rename_i xs ys hx hy
      split at h
      · rename_i i ht
        split at h
        · rename_i n e hd
          obtain ⟨⟨he, hxn, hyn⟩, h⟩ := h
          have hr := fun op ho W => eqlArr (P := P) (f := v8) (fun _ => rfl) (fun _ _ => i8_inj.1) hTT ht hd he xs ys hxn hyn op x y ho W
          have e1 := ev_is hE hx rfl
          have e2 := ev_is hE hy rfl
          split at h
          · exact same_ok _ rfl h fun W _ => exec_value hexec (by rw [e1, e2]; exact hr .eql (.inl rfl) W)
          · exact same_ok _ rfl h fun W _ => exec_value hexec (by rw [e1, e2]; exact hr .neq (.inr rfl) W)
          · exact h.elim
        · exact h.elim
      · exact h.elim
    · rename_i xs ys hx hy
      split at h
      · rename_i i ht
        split at h
        · rename_i n e hd
          obtain ⟨⟨he, hxn, hyn⟩, h⟩ := h
          have hr := fun op ho W => eqlArr (P := P) (f := v32) (fun _ => rfl) (fun _ _ => i32_inj.1) hTT ht hd he xs ys hxn hyn op x y ho W
          have e1 := ev_is hE hx rfl
          have e2 := ev_is hE hy rfl
          split at h
          · exact same_ok _ rfl h fun W _ => exec_value hexec (by rw [e1, e2]; exact hr .eql (.inl rfl) W)
          · exact same_ok _ rfl h fun W _ => exec_value hexec (by rw [e1, e2]; exact hr .neq (.inr rfl) W)
          · exact h.elim
        · exact h.elim
      · exact h.elim
    · rename_i xs ys hx hy
      split at h
      · rename_i i ht
        split at h
        · rename_i n e hd
          obtain ⟨⟨he, hxn, hyn⟩, h⟩ := h
          have hr := fun op ho W => eqlArr (P := P) (f := v64) (fun _ => rfl) (fun _ _ => i64_inj.1) hTT ht hd he xs ys hxn hyn op x y ho W
          have e1 := ev_is hE hx rfl
          have e2 := ev_is hE hy rfl
          split at h
          · exact same_ok _ rfl h fun W _ => exec_value hexec (by rw [e1, e2]; exact hr .eql (.inl rfl) W)
          · exact same_ok _ rfl h fun W _ => exec_value hexec (by rw [e1, e2]; exact hr .neq (.inr rfl) W)
          · exact h.elim
        · rename_i fs hd
          obtain ⟨⟨hs, hyn⟩, h⟩ := h
          have hr := fun op ho W => eqlStr (P := P) hTT ht hd xs ys hs hyn op x y ho W
          have e1 := ev_is hE hx rfl
          have e2 := ev_is hE hy rfl
          split at h
          · exact same_ok _ rfl h fun W _ => exec_value hexec (by rw [e1, e2]; exact hr .eql (.inl rfl) W)
          · exact same_ok _ rfl h fun W _ => exec_value hexec (by rw [e1, e2]; exact hr .neq (.inr rfl) W)
          · exact h.elim
        · exact h.elim
      · exact h.elim
    · rename_i p q hx hy
      obtain ⟨he, h⟩ := h
      have hr := fun op ho W => eqlBool (P := P) hTT he p q op x y ho W
      have e1 := ev_is hE hx rfl
      have e2 := ev_is hE hy rfl
      split at h
      · exact same_ok _ rfl h fun W _ => exec_value hexec (by rw [e1, e2]; exact hr .eql (.inl rfl) W)
      · exact same_ok _ rfl h fun W _ => exec_value hexec (by rw [e1, e2]; exact hr .neq (.inr rfl) W)
      · exact h.elim
    · have hgood : (ev env x).good = true ∧ (ev env y).good = true := by
        refine ⟨?_, ?_⟩
        · cases hx : ev env x <;> first | rfl | (exfalso; rw [hx] at h; cases hw : wrapT (tt t) <;> rw [hw] at h <;> cases hy : ev env y <;> rw [hy] at h <;> simp [binT, binW, binVC, shVC] at h)
        · cases hy : ev env y <;> first | rfl | (exfalso; rw [hy] at h; cases hw : wrapT (tt t) <;> rw [hw] at h <;> cases hx : ev env x <;> rw [hx] at h <;> simp [binT, binW, binVC] at h)
      exact gen _ _ rfl rfl hgood.1 hgood.2 h
  | unOp op t x =>
    simp only [pureVC] at h
    have hg : (ev env x).good = true := by
      cases hx : ev env x <;> first | rfl | (rw [hx] at h; cases op <;> simp [unVC] at h)
    obtain ⟨v, h1, h2, h3⟩ := unVC_ok h
    refine same_ok v h1 h2 fun W _ => exec_value (s := Op.unary op (a.eval x)) (by simp only [execOp, ho]) ?_
    rw [ev_is hE rfl hg]; exact h3 P W
  | convert s d x =>
    simp only [pureVC] at h
    cases hs : tt s with
    | none => simp [hs] at h
    | some si =>
      cases hd : tt d with
      | none => simp [hs, hd] at h
      | some di =>
        simp only [hs, hd] at h
        have hsi := hTT s si hs
        have hdi := hTT d di hd
        have hexec : execOp a.eval o = (do pure (Next.value (← convert s d (a.eval x)))) := by simp only [execOp, ho]
        split at h
        · rename_i k1 k2 e1 e2
          have hu1 : P.underlying s = some (.int k1) := by have := hsi.dsc; rw [e1] at this; exact this
          have hu2 : P.underlying d = some (.int k2) := by have := hdi.dsc; rw [e2] at this; exact this
          have hg : (ev env x).good = true := by
            cases hx : ev env x <;> first | rfl | (rw [hx] at h; cases k2 <;> simp [cvVC] at h)
          obtain ⟨v, h1, h2, k0, n, h3, h4⟩ := cvVC_ok h
          refine same_ok v h1 h2 fun W _ => exec_value hexec ?_
          rw [ev_is hE rfl hg, h3, h4]
          unfold convert
          simp only [Sem.run_bind, run_underlying hu1, run_underlying hu2, Result.andThen_ok, Conv.intToInt, Sem.run_pure]
        · rename_i e e1 e2
          obtain ⟨he, h⟩ := h
          obtain ⟨ie, hie, hde⟩ := Option.map_eq_some_iff.1 he
          have hu1 : P.underlying s = some (.slice e) := by have := hsi.dsc; rw [e1] at this; exact this
          have hu2 : P.underlying d = some .string := by have := hdi.dsc; rw [e2] at this; exact this
          have hu3 : P.underlying e = some (.int .u8) := by have := (hTT e ie hie).dsc; rw [hde] at this; exact this
          obtain ⟨cs, hK, hg, hr⟩ := rd_run (pv := pv) (w0 := w0) h
          cases cs with
          | c8 bs =>
            refine same_ok (.str bs) rfl hK fun W hW => exec_value hexec ?_
            obtain ⟨A, c, h1, _, h2, _⟩ := hr W hW
            rw [ev_is hE rfl hg, h1]
            refine run_bytes_str (bs := bs) ⟨by have := h2.1; simpa [Cells.vals] using this, fun i y hy => ?_⟩ s d e c hu1 hu3 hu2
            exact h2.2 i (v8 y) (by simp [Cells.vals, hy])
          | _ => exact hK.elim
        · exact h.elim
  | sliceToArrayPointer t x =>
    simp only [pureVC] at h
    cases ht : tt t with
    | none => simp [ht] at h
    | some i =>
      simp only [ht] at h
      have hexec : execOp a.eval o = (do pure (Next.value (← Instr.arrayAt t (a.eval x)))) := by simp only [execOp, ho]
      cases hd : i.dsc <;> simp only [hd] at h <;> try exact h.elim
      rename_i n e
      have hu : P.underlying t = some (.array n e) := by have := (hTT t i ht).dsc; rw [hd] at this; exact this
      cases hx : ev env x <;> simp only [hx] at h <;> try exact h.elim
      · have e0 := ev_is hE hx rfl
        refine same_ok _ rfl h.2 fun W _ => exec_value hexec ?_
        rw [e0]
        exact run_arrayAt t e n _ _ _ hu h.1 W
      · rename_i l A m c
        cases hg : getA mem l with
        | none => simp [hg] at h
        | some me =>
          rw [hg] at h
          cases me with
          | ro A' c' cs =>
            obtain ⟨⟨rfl, hm, hn, h0⟩, hK⟩ := h
            have e0 := ev_is hE hx rfl
            refine same_ok _ rfl hK fun W hW => exec_value hexec ?_
            obtain ⟨h1, _, _⟩ := hW.ok _ _ hg
            obtain ⟨b, o, rfl, _⟩ := h1.all (by rw [Cells.vals_length]; omega)
            rw [e0]
            have := run_arrayAt (P := P) t e n ⟨b, o, none⟩ m c hu hn W
            simp only [AV.conc, Option.map_some, addA, Nat.add_zero]
            exact this
          | _ => exact h.elim
  | fieldAddr t x f =>
    simp only [pureVC] at h
    cases ht : tt t with
    | none => simp [ht] at h
    | some i =>
      simp only [ht] at h
      have hexec : execOp a.eval o = (do pure (Next.value (← Instr.fieldAt t (a.eval x) f))) := by simp only [execOp, ho]
      cases hd : i.dsc <;> simp only [hd] at h <;> try exact h.elim
      rename_i fs
      have hu : (TDsc.struct fs).ok P t := by have := (hTT t i ht).dsc; rwa [hd] at this
      obtain ⟨gs, hu, hgs, hpl, -⟩ := hu
      cases hf : fs[f]? with
      | none => simp [hf] at h
      | some q =>
        obtain ⟨o1, ft, sz⟩ := q
        simp only [hf] at h
        have hgf : ∃ g, gs[f]? = some g ∧ g.offset = o1 ∧ g.type = ft := by
          have := congrArg (·[f]?) hgs
          simp only [List.getElem?_map, Array.getElem?_toList, hf, Option.map_some] at this
          obtain ⟨g, hg1, hg2⟩ := Option.map_eq_some_iff.1 this
          simp only [Prod.mk.injEq] at hg2
          exact ⟨g, hg1, hg2.1, hg2.2⟩
        obtain ⟨fd, hfd, ho1, hft⟩ := hgf
        cases hx : ev env x <;> simp only [hx] at h <;> try exact h.elim
        obtain ⟨h1, h2, hK⟩ := h
        obtain ⟨fi, hfi, hfs⟩ := Option.map_eq_some_iff.1 h1
        have e0 := ev_is hE hx rfl
        refine same_ok _ rfl hK fun W _ => exec_value hexec ?_
        rw [e0]
        unfold Instr.fieldAt
        simp only [Sem.run_bind, run_underlying hu, Result.andThen_ok, hfd, AV.conc, Instr.sureAddr, Sem.run_pure]
        unfold fieldPlace
        have hsz := (hTT ft fi hfi).rsize W
        rw [← hft] at hsz
        simp only [Sem.run_bind, hsz, Result.andThen_ok, hfs, h2, if_false, Sem.run_pure, addA, ho1]
  | field t x f =>
    simp only [pureVC] at h
    cases ht : tt t with
    | none => simp [ht] at h
    | some i =>
      simp only [ht] at h
      have hexec : execOp a.eval o = (do pure (Next.value (← Instr.field t (a.eval x) f))) := by simp only [execOp, ho]
      cases hd : i.dsc <;> simp only [hd] at h <;> try exact h.elim
      rename_i fs
      have hu : (TDsc.struct fs).ok P t := by have := (hTT t i ht).dsc; rwa [hd] at this
      obtain ⟨gs, hu, hgs, hpl, -⟩ := hu
      cases hf : fs[f]? with
      | none => simp [hf] at h
      | some q =>
        obtain ⟨o1, ft, sz⟩ := q
        simp only [hf] at h
        have hgf : ∃ g, gs[f]? = some g ∧ g.offset = o1 ∧ g.type = ft := by
          have := congrArg (·[f]?) hgs
          simp only [List.getElem?_map, Array.getElem?_toList, hf, Option.map_some] at this
          obtain ⟨g, hg1, hg2⟩ := Option.map_eq_some_iff.1 this
          simp only [Prod.mk.injEq] at hg2
          exact ⟨g, hg1, hg2.1, hg2.2⟩
        obtain ⟨fd, hfd, ho1, hft⟩ := hgf
        cases hfi : tt ft with
        | none => simp [hfi] at h
        | some fi =>
          simp only [hfi] at h
          have gen : ∀ cs : Cells, a.eval x = .agg cs.vals.toArray → pickC fi cs o1 (fun v => K v mem nx) → PureOk P pv w0 mem (execOp a.eval o) K := by
            intro cs e0 hp
            have hp' := hp
            unfold pickC at hp'
            by_cases ha : fi.dsc.agg = true
            · rw [if_pos ha] at hp'
              refine same_ok _ (by cases cs <;> rfl) hp'.2 fun W _ => exec_value hexec ?_
              obtain ⟨v, _, hv, hr⟩ := part_run (P := P) (W := W) (hTT ft fi hfi) (K := fun v => v = cs.sub o1 fi.size) (cs := cs) (off := o1) (by unfold pickC; rw [if_pos ha]; exact ⟨hp'.1, rfl⟩)
              subst hv
              rw [e0]
              unfold Instr.field
              simp only [Sem.run_bind, run_underlying hu, Result.andThen_ok, hfd, asAgg, Sem.run_pure, ho1, hft, hr]
            · rw [if_neg ha] at hp'
              refine same_ok _ hp'.2.1 hp'.2.2 fun W _ => exec_value hexec ?_
              obtain ⟨v, _, hv, hr⟩ := part_run (P := P) (W := W) (hTT ft fi hfi) (K := fun v => v = cs.get o1) (cs := cs) (off := o1) (by unfold pickC; rw [if_neg ha]; exact ⟨hp'.1, hp'.2.1, rfl⟩)
              subst hv
              rw [e0]
              unfold Instr.field
              simp only [Sem.run_bind, run_underlying hu, Result.andThen_ok, hfd, asAgg, Sem.run_pure, ho1, hft, hr]
          cases hx : ev env x <;> simp only [hx] at h <;> try exact h.elim
          · exact gen (.c64 _) (by rw [ev_is hE hx rfl]; rfl) h
          · exact gen (.cv _) (by rw [ev_is hE hx rfl]; simp [AV.conc, Cells.vals, concs_map]) h
  | indexAddr t x ix =>
    simp only [pureVC] at h
    have hexec : execOp a.eval o = (do pure (Next.value (← Instr.indexAt t (a.eval x) (a.eval ix)))) := by simp only [execOp, ho]
    cases ht : tt t with
    | none => simp [ht] at h
    | some i =>
      cases hix : ev env ix <;> simp only [ht, hix] at h <;> try exact h.elim
      rename_i n
      have ei := ev_is hE hix rfl
      cases hd : i.dsc <;> simp only [hd] at h <;> try exact h.elim
      · rename_i m e
        have hu : P.underlying t = some (.array m e) := by have := (hTT t i ht).dsc; rw [hd] at this; exact this
        cases hx : ev env x <;> simp only [hx] at h <;> try exact h.elim
        obtain ⟨h1, ⟨h2, h3⟩, hK⟩ := h
        obtain ⟨ei', hei, hes⟩ := Option.map_eq_some_iff.1 h1
        have ex := ev_is hE hx rfl
        refine same_ok _ rfl hK fun W _ => exec_value hexec ?_
        rw [ex, ei]
        unfold Instr.indexAt
        simp only [AV.conc, asIntOf, Sem.run_bind, Sem.run_pure, Result.andThen_ok, run_underlying hu, Instr.sureAddr, h2, h3, and_self, if_true, (hTT e ei' hei).rsize, hes, Nat.mul_one, addA]
      · rename_i e
        have hu : P.underlying t = some (.slice e) := by have := (hTT t i ht).dsc; rw [hd] at this; exact this
        cases hx : ev env x <;> simp only [hx] at h <;> try exact h.elim
        · obtain ⟨h1, ⟨h2, h3⟩, hK⟩ := h
          obtain ⟨ei', hei, hes⟩ := Option.map_eq_some_iff.1 h1
          have ex := ev_is hE hx rfl
          refine same_ok _ rfl hK fun W _ => exec_value hexec ?_
          rw [ex, ei]
          unfold Instr.indexAt
          simp only [AV.conc, asIntOf, Sem.run_bind, Sem.run_pure, Result.andThen_ok, run_underlying hu, Instr.sureAddr, h2, h3, and_self, if_true, (hTT e ei' hei).rsize, hes, Nat.mul_one, addA]
        · rename_i l A len c
          obtain ⟨h1, ⟨h2, h3⟩, h⟩ := h
          obtain ⟨ei', hei, hes⟩ := Option.map_eq_some_iff.1 h1
          have ex := ev_is hE hx rfl
          cases hg : getA mem l with
          | none => simp [hg] at h
          | some me =>
            rw [hg] at h
            cases me with
            | ro A' c' cs =>
              obtain ⟨⟨rfl, _, hl⟩, hK⟩ := h
              refine same_ok _ rfl hK fun W hW => exec_value hexec ?_
              obtain ⟨h4, _, _⟩ := hW.ok _ _ hg
              obtain ⟨b, o, rfl, _⟩ := h4.all (by rw [Cells.vals_length]; omega)
              rw [ex, ei]
              unfold Instr.indexAt
              simp only [AV.conc, asIntOf, Sem.run_bind, Sem.run_pure, Result.andThen_ok, run_underlying hu, Instr.sureAddr, h2, h3, and_self, if_true, (hTT e ei' hei).rsize, hes, Nat.mul_one, addA, Option.map_some]
            | _ => exact h.elim
        · rename_i l v len
          obtain ⟨h1, ⟨h2, h3⟩, h⟩ := h
          obtain ⟨ei', hei, hes⟩ := Option.map_eq_some_iff.1 h1
          have ex := ev_is hE hx rfl
          cases hg : getA mem l with
          | none => simp [hg] at h
          | some me =>
            rw [hg] at h
            cases me with
            | row v' e' cs =>
              obtain ⟨⟨rfl, hl⟩, hK⟩ := h
              refine same_ok _ rfl hK fun W hW => exec_value hexec ?_
              obtain ⟨h4, _⟩ := hW.ok _ _ hg
              rcases h4.2 with ⟨rfl, hn⟩ | ⟨g, cap, cur, rfl, _⟩
              · omega
              · rw [ex, ei]
                unfold Instr.indexAt
                simp only [AV.conc, baseV, asIntOf, Sem.run_bind, Sem.run_pure, Result.andThen_ok, run_underlying hu, Instr.sureAddr, h2, hl, h3, and_self, if_true, (hTT e ei' hei).rsize, hes, Nat.mul_one, addA, Option.map_some]
            | _ => exact h.elim
  | index t x ix =>
    simp only [pureVC] at h
    have hexec : execOp a.eval o = (do pure (Next.value (← Instr.index t (a.eval x) (a.eval ix)))) := by simp only [execOp, ho]
    cases ht : tt t with
    | none => simp [ht] at h
    | some i =>
      cases hix : ev env ix <;> simp only [ht, hix] at h <;> try exact h.elim
      rename_i n
      have ei := ev_is hE hix rfl
      cases hd : i.dsc <;> simp only [hd] at h <;> try exact h.elim
      rename_i m e
      have hu : P.underlying t = some (.array m e) := by have := (hTT t i ht).dsc; rw [hd] at this; exact this
      obtain ⟨h1, h1', ⟨h2, h3⟩, h⟩ := h
      obtain ⟨ie, hei, hes⟩ := Option.map_eq_some_iff.1 h1
      have hag : ie.dsc.agg = false := by rw [hei] at h1'; simpa using h1'
      have gen : ∀ cs : Cells, a.eval x = .agg cs.vals.toArray → n.toNat < cs.len → (cs.get n.toNat).good = true → K (cs.get n.toNat) mem nx → PureOk P pv w0 mem (execOp a.eval o) K := by
        intro cs e0 hlt hgd hK
        refine same_ok _ hgd hK fun W _ => exec_value hexec ?_
        obtain ⟨v, _, hv, hr⟩ := part_run (P := P) (W := W) (hTT e ie hei) (K := fun v => v = cs.get n.toNat) (cs := cs) (off := n.toNat) (by unfold pickC; rw [if_neg (by simp [hag])]; exact ⟨hlt, hgd, rfl⟩)
        subst hv
        rw [e0, ei]
        unfold Instr.index
        simp only [AV.conc, asIntOf, Sem.run_bind, Sem.run_pure, Result.andThen_ok, run_underlying hu, h2, h3, and_self, if_true, (hTT e ie hei).rsize, hes, Nat.mul_one, hr]
      cases hx : ev env x <;> simp only [hx] at h <;> try exact h.elim
      · exact gen (.c8 _) (by rw [ev_is hE hx rfl]; rfl) h.1 rfl h.2
      · exact gen (.c32 _) (by rw [ev_is hE hx rfl]; rfl) h.1 rfl h.2
      · exact gen (.c64 _) (by rw [ev_is hE hx rfl]; rfl) h.1 rfl h.2
  | extract x i =>
    simp only [pureVC] at h
    have hexec : execOp a.eval o = (do pure (Next.value (← Instr.extract (a.eval x) i))) := by simp only [execOp, ho]
    cases hx : ev env x <;> simp only [hx] at h <;> try exact h.elim
    rename_i xs
    cases hv : xs[i]? with
    | none => simp [hv] at h
    | some v =>
      simp only [hv] at h
      refine same_ok _ h.1 h.2 fun W _ => exec_value hexec ?_
      rw [ev_is hE hx rfl]
      unfold Instr.extract
      simp [AV.conc, concs_map, hv]
  | slice t x lo hi mx =>
    simp only [pureVC] at h
    have hexec : execOp a.eval o = (do pure (Next.value (← Instr.sliceAt t (a.eval x) (lo.map a.eval) (hi.map a.eval) (mx.map a.eval)))) := by simp only [execOp, ho]
    obtain ⟨v, m, n, h1, h2, hnn, h3⟩ := pure_slice (P := P) (pv := pv) (w0 := w0) hTT hE h
    exact ⟨v, m, n, h1, h2, hnn, fun W hW => ⟨(h3 W hW).1, exec_value hexec (h3 W hW).2⟩⟩
  | call c =>
    obtain ⟨callee, args, argTypes⟩ := c
    simp only [pureVC] at h
    cases callee with
    | builtin b =>
      simp only at h
      obtain ⟨cons, hexec⟩ : ∃ cons, execOp a.eval o = builtin b argTypes o.type cons (args.map a.eval) := by
        simp only [execOp, ho, resolve, invoke, pure_bind]
        exact ⟨_, rfl⟩
      obtain ⟨args⟩ := args
      obtain ⟨argTypes⟩ := argTypes
      simp only at h
      have one : ∀ {l : List Operand} {v : AV}, l.map (ev env) = [v] → ∃ x, l = [x] ∧ ev env x = v := by
        intro l v hl
        match l, hl with
        | [x], hl => exact ⟨x, rfl, by simpa using hl⟩
      have two : ∀ {l : List Operand} {u v : AV}, l.map (ev env) = [u, v] → ∃ x y, l = [x, y] ∧ ev env x = u ∧ ev env y = v := by
        intro l u v hl
        match l, hl with
        | [x, y], hl => exact ⟨x, y, rfl, by simpa using hl⟩
      unfold bltVC at h
      split at h
      · rename_i xv t hargs
        obtain ⟨xo, rfl, hxo⟩ := one hargs
        cases ht : tt t with
        | none => simp [ht] at h
        | some i =>
          simp only [ht] at h
          have fin : ∀ (n : Nat), K (.int n) mem nx → (∀ W, MRel pv w0 mem W → (Builtin.len_ #[t] o.type #[a.eval xo]).run P W = .ok (.int .i64 n) W) → PureOk P pv w0 mem (execOp a.eval o) K := by
            intro n hK hr
            refine same_ok (.int n) rfl hK fun W hW => ?_
            rw [hexec]
            unfold builtin
            refine run_value ?_
            rw [List.map_toArray]
            exact hr W hW
          split at h
          · rename_i e l A n c hd
            have hu : P.underlying t = some (.slice e) := by have := (hTT t i ht).dsc; rw [hd] at this; exact this
            refine fin _ h fun W hW => ?_
            rw [ev_is hE hxo rfl]
            simp [Builtin.len_, run_underlying hu, AV.conc, goInt]
          · rename_i e l g off n c hd
            have hu : P.underlying t = some (.slice e) := by have := (hTT t i ht).dsc; rw [hd] at this; exact this
            refine fin _ h fun W hW => ?_
            rw [ev_is hE hxo rfl]
            simp [Builtin.len_, run_underlying hu, AV.conc, goInt]
          · rename_i e l v n hd
            have hu : P.underlying t = some (.slice e) := by have := (hTT t i ht).dsc; rw [hd] at this; exact this
            cases hgm : getA mem l with
            | none => simp [hgm] at h
            | some me =>
              rw [hgm] at h
              cases me with
              | row v' e' cs =>
                obtain ⟨⟨rfl, hlen⟩, hK⟩ := h
                refine fin _ hK fun W hW => ?_
                obtain ⟨ho', _⟩ := hW.ok _ _ hgm
                rw [ev_is hE hxo rfl]
                rcases ho'.2 with ⟨rfl, hn⟩ | ⟨g, cap, cur, rfl, _⟩
                · simp [Builtin.len_, run_underlying hu, AV.conc, goInt]; omega
                · simp [Builtin.len_, run_underlying hu, AV.conc, goInt]; omega
              | _ => exact h.elim
          · rename_i e hd
            have hu : P.underlying t = some (.slice e) := by have := (hTT t i ht).dsc; rw [hd] at this; exact this
            refine fin 0 h fun W hW => ?_
            rw [ev_is hE hxo rfl]
            simp [Builtin.len_, run_underlying hu, AV.conc, goInt]
          · rename_i n e hd
            have hu : P.underlying t = some (.array n e) := by have := (hTT t i ht).dsc; rw [hd] at this; exact this
            refine fin _ h fun W hW => ?_
            simp [Builtin.len_, run_underlying hu, goInt]
          · exact h.elim
      · rename_i x y hargs
        obtain ⟨xo, yo, rfl, hxo, hyo⟩ := two hargs
        refine same_ok _ rfl h fun W hW => ?_
        rw [hexec]
        unfold builtin
        refine run_value ?_
        simp [ev_is hE hxo rfl, ev_is hE hyo rfl, Builtin.max_, Builtin.max2, AV.conc, gt_iff_lt]
      · rename_i x y hargs
        obtain ⟨xo, yo, rfl, hxo, hyo⟩ := two hargs
        refine same_ok _ rfl h fun W hW => ?_
        rw [hexec]
        unfold builtin
        refine run_value ?_
        simp [ev_is hE hxo rfl, ev_is hE hyo rfl, Builtin.min_, Builtin.min2, AV.conc]
      · rename_i x y hargs
        obtain ⟨xo, yo, rfl, hxo, hyo⟩ := two hargs
        refine same_ok _ rfl h fun W hW => ?_
        rw [hexec]
        unfold builtin
        refine run_value ?_
        simp only [List.map_toArray, List.map_cons, List.map_nil, ev_is hE hxo rfl, ev_is hE hyo rfl, Builtin.min_, Builtin.min2, AV.conc, List.foldlM_cons, List.foldlM_nil, i64_lt]
        split <;> simp [AV.conc]
      · exact h.elim
    | _ => exact h.elim
  | _ => exact h.elim
end
end Go.Proofs.Ytjleiifcigojoaa
