/- A constant's bytes: the row gets its mark and is only read from then on. For any program. -/
import Derived.Test.YtjleiifcigojoaaApz
import Derived.Lib.SlBytesConst
namespace Go.Proofs.Ytjleiifcigojoaa
open Go Go.RowKit
set_option linter.unusedVariables false
set_option linter.unusedSimpArgs false
variable {ds : List Deferred}
section
variable {P : Program} {pv : Nat → Prop} {w0 : World} {tt : TT} {env : Env} {mem : Mem} {nx : Nat} {a : Act} {N : Nat} {K : KO}
theorem freeze_get (W : World) (g o k : Nat) : (W.freeze ⟨g, o, none⟩ 1).heap[k]? = if k = g then (W.freeze ⟨g, o, none⟩ 1).heap[g]? else W.heap[k]? := by
  by_cases h : k = g
  · rw [if_pos h, h]
  · rw [if_neg h]
    unfold World.freeze
    rw [if_neg (by decide)]
    simp only [Array.getElem?_modify]
    rw [if_neg (fun e => h e.symm)]
theorem freeze_size (W : World) (g o : Nat) : (W.freeze ⟨g, o, none⟩ 1).heap.size = W.heap.size := by
  unfold World.freeze
  rw [if_neg (by decide)]
  simp
theorem freeze_own {W : World} {g : Nat} {t : TypeId} {cs : Array Value} (h : Own W g t cs) (o : Nat) : (W.freeze ⟨g, o, none⟩ 1).heap[g]? = some (.cells cs t (o, o + 1)) := by
  unfold World.freeze
  rw [if_neg (by decide)]
  simp only [Array.getElem?_modify, if_true]
  rw [show W.heap[g]? = some (.cells cs t) from h]
  rfl
theorem mark_ok (hTT : TTok P tt) (hE : ERel ds env a N) {o : Oper} {t : TypeId} {x : Operand} (ho : o.op = .convert t t x) {l g off n c : Nat} (hx : ev env x = .slc l g off n c) {Q : Exit → Act → World → Prop}
    (h : markVC tt mem nx t l g off n c K) {W : World} (hW : MRel pv w0 mem W) : o.wp P a W (Post pv w0 mem o.op W o.dst a K) Q := by
  have hq : quietOp o.op = false := by rw [ho]; simp [quietOp]
  unfold markVC at h
  cases ht : tt t with
  | none => simp [ht] at h
  | some i =>
    simp only [ht] at h
    cases hd : i.dsc <;> simp only [hd] at h <;> try exact h.elim
    rename_i e
    have hu : P.underlying t = some (.slice e) := by have := (hTT t i ht).dsc; rw [hd] at this; exact this
    obtain ⟨he, h⟩ := h
    obtain ⟨ei, hei, hed⟩ := Option.map_eq_some_iff.1 he
    have hue : P.underlying e = some (.int .u8) := by have := (hTT e ei hei).dsc; rw [hed] at this; exact this
    cases hg : getA mem l with
    | none => simp [hg] at h
    | some me =>
      rw [hg] at h
      cases me with
      | own g' u cs =>
        obtain ⟨⟨rfl, hol, hnc, hcm⟩, hK⟩ := h
        obtain ⟨ow, hgb, hones⟩ := hW.ok _ _ hg
        have ex := ev_is hE hx rfl
        have hsh : W.shape? g' = some (u, cs.vals.toArray.size) := by
          unfold World.shape?
          rw [show W.heap[g']? = some (.cells cs.vals.toArray u) from ow]
        have hr : (convert t t (AV.slc l g' off n c).conc).run P W = .ok (AV.slc l g' off n c).conc (W.freeze ⟨g', cs.vals.toArray.size, none⟩ 1) := by
          simp [AV.conc, convert, run_underlying hu, run_underlying hue, markStringish, hsh]
        have hexec : (execOp a.eval o).run P W = .ok (.value (AV.slc l g' off n c).conc) (W.freeze ⟨g', cs.vals.toArray.size, none⟩ 1) := by
          unfold execOp
          simp only [ho, Sem.run_bind, ex, hr, Result.andThen_ok, Sem.run_pure]
        generalize hW' : W.freeze ⟨g', cs.vals.toArray.size, none⟩ 1 = W' at *
        have hsz : W'.heap.size = W.heap.size := by rw [← hW', freeze_size]
        have hoth : ∀ k, k ≠ g' → W'.heap[k]? = W.heap[k]? := fun k hk => by rw [← hW', freeze_get, if_neg hk]
        have hnew : W'.heap[g']? = some (.cells cs.vals.toArray u (cs.vals.toArray.size, cs.vals.toArray.size + 1)) := by rw [← hW', freeze_own ow]
        have hB0 : Below w0.heap.size W W' := by
          rw [← hW']
          refine ⟨?_, ?_, ?_, by rw [freeze_size]; exact Nat.le_refl _, fun k hk => by rw [freeze_get, if_neg (by omega)]⟩ <;> (unfold World.freeze; rw [if_neg (by decide)])
        have hlt : g' < W.heap.size := ow.lt
        have hpl : (cs.part off n).len = n := by rw [Cells.part_len]; omega
        have hro : MEok pv w0 W' (.ro (some ⟨g', off, none⟩) c (cs.part off n)) := by
          refine ⟨⟨by rw [Cells.vals_length, hpl]; omega, fun i x hx => ⟨g', off, rfl, ?_⟩⟩, by rw [hpl]; exact hnc, fun k hk => ?_⟩
          · unfold World.cell?
            rw [hnew]
            rw [Cells.vals_part] at hx
            have hi : i < n := by
              have := (List.getElem?_eq_some_iff.1 hx).1
              simp at this; omega
            rw [List.getElem?_take, if_pos hi, List.getElem?_drop] at hx
            simpa using hx
          · injection hk with hk
            subst hk
            exact ⟨by rw [hsz]; exact hlt, .inl hgb⟩
        have ht2 := hW.turn l _ (.ro (some ⟨g', off, none⟩) c (cs.part off n)) hg (hW.below.trans hB0) hro (.inl rfl) (fun _ => rfl) rfl (by rw [hsz]; exact Nat.le_refl _) (fun k _ hk => hoth k fun e => hk (by rw [e]; rfl))
        have hr2 := ht2.rename (l := l) (n := nx) (by rw [getA_setA, if_pos rfl, hg]; rfl)
        refine wp_of_value hexec ⟨.ros nx (some ⟨g', off, none⟩) n c, (nx, .ro (some ⟨g', off, none⟩) c (cs.part off n)) :: delA mem l, nx + 1, _, .inr rfl, rfl, ?_, fun h => (by rw [hq] at h; cases h), ⟨by rw [hsz]; exact Nat.le_refl _, fun k _ hk => hoth k fun e => hk ⟨l, _, hg, by rw [e]; rfl⟩⟩, Near.put fun k hk => ?_, hK⟩
        · exact hr2.less fun k x hd => by
            simp only [getA] at hd ⊢
            split
            · rw [if_pos (by assumption)] at hd; exact hd
            · rw [if_neg (by assumption)] at hd
              rw [getA_delA] at hd ⊢
              split at hd
              · cases hd
              · rename_i hne; rw [if_neg hne, getA_setA, if_neg hne]; exact hd
        · injection hk with hk
          exact .inl ⟨l, _, hg, by rw [← hk]; rfl⟩
      | _ => exact h.elim
end
end Go.Proofs.Ytjleiifcigojoaa
