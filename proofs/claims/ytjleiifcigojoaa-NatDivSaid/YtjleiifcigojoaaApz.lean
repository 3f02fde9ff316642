/- A row that grows by so many zeros. For any program. -/
import Derived.Test.YtjleiifcigojoaaOps3
import Derived.Deep.AppendSrc
namespace Go.Proofs.Ytjleiifcigojoaa
open Go Go.RowKit
set_option linter.unusedVariables false
set_option linter.unusedSimpArgs false
variable {ds : List Deferred}
section
variable {P : Program}
theorem zeroCells_one (z : Value) (n : Nat) : Builtin.zeroCells #[z] n = (List.replicate n z).toArray := by
  unfold Builtin.zeroCells
  apply Array.ext
  · simp
  · intro i h1 h2
    simp [Nat.mod_one]
theorem run_append_zero {W : World} (base : Nat) {t u e : TypeId} {ie : TI} (hTe : TIok P e ie) (ht : P.underlying t = some (.slice e)) (hu : P.underlying u = some (.int .i64)) (hs : ie.size = 1) (hb0 : 0 < ie.bytes) (ty : TypeId) (z : Value) (hz : ie.zeroV.cells = #[z]) (h1 : z.oneCell' = true) (v : Value) (xs : List Value) (n : Nat)
    (HO : W.ownsRow base e 1 v xs.length xs) (hbase : base ≤ W.heap.size) (hl : (xs.length + n) * ie.bytes ≤ 140737488355328) :
    ∃ v1 w1, (Builtin.append_ #[t, u] ty #[v, .int .i64 n]).run P W = .ok v1 w1 ∧ w1.ownsRow base e 1 v1 (xs.length + n) (xs ++ List.replicate n z) ∧ W.grownBy w1 v.ownBlock ∧ (v1.ownBlock = v.ownBlock ∨ v1.ownBlock = some W.heap.size) := by
  obtain ⟨i0, hi, hzz⟩ := Option.map_eq_some_iff.1 hTe.info
  simp only [Prod.mk.injEq] at hzz
  obtain ⟨hz0, hz1, hz2⟩ := hzz
  have hlen : xs.length + n ≤ 140737488355328 := Nat.le_trans (Nat.le_mul_of_pos_right _ hb0) hl
  have hnb : n * ie.bytes ≤ 140737488355328 := Nat.le_trans (Nat.mul_le_mul_right _ (Nat.le_add_left _ _)) hl
  have hnbI : ¬ (281474976710656 < (n : Int) * (ie.bytes : Int)) := by
    rw [← Int.natCast_mul]; omega
  have hw : IntKind.i64.wrap (n : Int) = n := IntWalk.i64_in _ (by omega)
  have hn0 : ¬ (n : Int) < 0 := by omega
  have hlr : (xs ++ List.replicate n z).length = xs.length + n := by simp
  have grown : ∀ (old : Nat), old < xs.length + n → ∀ (row : Option Nat),
      (W.drew.alloc (.cells (xs.toArray ++ (List.replicate n z).toArray ++ Builtin.zeroCells #[z] (grownCap W (xs.length + n) old e - (xs.length + n))) e)).ownsRow base e 1
        (.slice (some ⟨W.heap.size, 0, none⟩) (xs.length + n) (grownCap W (xs.length + n) old e)) (xs.length + n) (xs ++ List.replicate n z) ∧
      W.grownBy (W.drew.alloc (.cells (xs.toArray ++ (List.replicate n z).toArray ++ Builtin.zeroCells #[z] (grownCap W (xs.length + n) old e - (xs.length + n))) e)) row := by
    intro old ho row
    have hge := grownCap_ge W (xs.length + n) old e
    have hcm : grownCap W (xs.length + n) old e ≤ maxLen := grownCap_le_maxLen W (xs.length + n) old e (by unfold maxLen; omega)
    refine ⟨⟨by rw [hlr, Nat.mul_one], .inr ⟨W.heap.size, _, _, rfl, hbase, heap_alloc_new W.drew _, hge, hcm, ?_, ?_⟩⟩, ⟨rfl, rfl, rfl, by simp, fun k hk _ => heap_alloc_old W.drew _ hk⟩⟩
    · simp only [Array.size_append, List.size_toArray, size_zeroCells, List.length_replicate, List.size_toArray, List.length_cons, List.length_nil, Nat.zero_add, Nat.mul_one]
      omega
    · simp only [Array.toList_append]
      rw [Nat.mul_one, ← hlr]
      exact List.take_left
  rcases HO.2 with ⟨rfl, hn⟩ | ⟨g, cap, cur, rfl, hbg, hg, hnc, hcm, hcs, htake⟩
  · have hx : xs = [] := List.eq_nil_of_length_eq_zero hn
    subst hx
    by_cases hm : n = 0
    · subst hm
      refine ⟨.slice none 0 0, W, ?_, World.ownsRow_nil W base e 1, ⟨rfl, rfl, rfl, Nat.le_refl _, fun _ _ _ => rfl⟩, Or.inl rfl⟩
      have hw0 : IntKind.i64.wrap 0 = 0 := hw
      simp [Builtin.append_, run_underlying ht, run_underlying hu, sizeOf, typeInfo, hi, asInt, asIntOf, hw0]
    · have hgr := grown 0 (by simp; omega) (Value.ownBlock (.slice none 0 0))
      refine ⟨_, _, ?_, hgr.1, hgr.2, Or.inr rfl⟩
      have h63' : ¬ (9223372036854775807 < (n : Int)) := by omega
      have h48' : ¬ (281474976710656 < Builtin.nextslicecap n 0 * ie.bytes) := by
        have := growslice_fits (need := n) (old := 0) (by omega) hnb
        omega
      have hzc := zeroCells_one z n
      simp [Builtin.append_, run_underlying ht, run_underlying hu, sizeOf, typeInfo, zeroValue, hi, hz0, hz1, hz2, hz, hs, asInt, asIntOf, hw, hn0, hm, hnbI, h63', h48', Question.forced, run_firstCells_none, newRow, grownCap, hzc]
  · by_cases hroom : xs.length + n ≤ cap
    · have hcl : cur.size = cap := by rw [hcs, Nat.mul_one]
      have hst := run_storeCells_at P g xs.length e (List.replicate n z) 0 cur W hg (by simp; omega) (fun x hx => by obtain ⟨_, rfl⟩ := List.mem_replicate.1 hx; exact h1)
      simp only [Nat.add_zero] at hst
      have hzc := zeroCells_one z n
      have hfa : (⟨g, 0, none⟩ : Addr).add xs.length = ⟨g, xs.length, none⟩ := by rw [addA]; simp
      refine ⟨.slice (some ⟨g, 0, none⟩) (xs.length + n) cap, W.setRow g (cur.toList.take xs.length ++ List.replicate n z ++ cur.toList.drop (xs.length + (List.replicate n z).length)).toArray, ?_, ?_, ?_, Or.inl rfl⟩
      rotate_left
      · refine ⟨by rw [hlr, Nat.mul_one], .inr ⟨g, cap, _, rfl, hbg, setRow_heap W g cur _ e _ hg, hroom, hcm, ?_, ?_⟩⟩
        · simp
          omega
        · rw [Nat.mul_one] at htake
          rw [Nat.mul_one, ← hlr]
          simp only [htake]
          exact List.take_left
      · exact ⟨rfl, rfl, rfl, by simp, fun k _ hk => setRow_other W g k _ (fun e => hk (by simp [Value.ownBlock, e]))⟩
      · by_cases hm : n = 0
        · subst hm
          have hw0 : IntKind.i64.wrap 0 = 0 := hw
          have hst' : (Result.ok () W : Result Unit) = _ := hst
          injection hst' with _ hst'
          rw [← hst']
          simp [Builtin.append_, run_underlying ht, run_underlying hu, sizeOf, typeInfo, hi, asInt, asIntOf, hw0, hnc, hz1, hs, storeCells]
        · simp [Builtin.append_, run_underlying ht, run_underlying hu, sizeOf, typeInfo, zeroValue, hi, hz0, hz1, hz2, hz, hs, asInt, asIntOf, hw, hn0, hm, hnbI, hroom, hzc, hfa, hst]
    · have holds : (Builtin.firstCells 1 xs.length (.slice (some ⟨g, 0, none⟩) xs.length cap)).run P W.drew = .ok xs.toArray W.drew :=
        run_firstCells_some (P := P) W.drew 1 xs.length ⟨g, 0, none⟩ xs.length cap xs (by rw [Nat.mul_one]) (by
          intro j v hj
          have := HO.cells (g := g) rfl j v hj
          simpa using this)
      have hgr := grown cap (by omega) (Value.ownBlock (.slice (some ⟨g, 0, none⟩) xs.length cap))
      refine ⟨_, _, ?_, hgr.1, hgr.2, Or.inr rfl⟩
      have hm : n ≠ 0 := by omega
      have h63' : ¬ (9223372036854775807 < ((xs.length : Int) + (n : Int))) := by omega
      have h48' : ¬ (281474976710656 < Builtin.nextslicecap (xs.length + n) cap * ie.bytes) := by
        have := growslice_fits (need := xs.length + n) (old := cap) (by omega) hl
        omega
      have hzc := zeroCells_one z n
      simp [Builtin.append_, run_underlying ht, run_underlying hu, sizeOf, typeInfo, zeroValue, hi, hz0, hz1, hz2, hz, hs, asInt, asIntOf, hw, hn0, hm, hnbI, hroom, h63', h48', Question.forced, holds, newRow, grownCap, hzc]
end
section
variable {P : Program} {pv : Nat → Prop} {w0 : World} {tt : TT} {env : Env} {mem : Mem} {nx : Nat} {a : Act} {N : Nat} {K : KO}
theorem apz_ok (hTT : TTok P tt) (hE : ERel ds env a N) {o : Oper} {t u : TypeId} {s x : Operand} (ho : o.op = .call { callee := .builtin .append, args := #[s, x], argTypes := #[t, u] }) {Q : Exit → Act → World → Prop}
    (h : apzVC tt mem nx t u (ev env s) (ev env x) K) {W : World} (hW : MRel pv w0 mem W) : o.wp P a W (Post pv w0 mem o.op W o.dst a K) Q := by
  have hq : quietOp o.op = false := by rw [ho]; rfl
  unfold apzVC at h
  cases ht : tt t with
  | none => simp [ht] at h
  | some i =>
    cases hut : tt u with
    | none => simp [ht, hut] at h
    | some j =>
      simp only [ht, hut] at h
      split at h
      · rename_i e n hd hdj hx
        have hu : P.underlying t = some (.slice e) := by have := (hTT t i ht).dsc; rw [hd] at this; exact this
        have huu : P.underlying u = some (.int .i64) := by have := (hTT u j hut).dsc; rw [hdj] at this; exact this
        cases he : tt e with
        | none => simp [he] at h
        | some ie =>
          simp only [he] at h
          obtain ⟨⟨hs1, hb0, hn0⟩, h⟩ := h
          have hTe := hTT e ie he
          have ex := ev_is hE hx rfl
          obtain ⟨n, rfl⟩ := Int.eq_ofNat_of_zero_le hn0
          cases hsv : ev env s <;> simp only [hsv] at h <;> try exact h.elim
          rename_i l v m
          have es := ev_is hE hsv rfl
          cases hg : getA mem l with
          | none => simp [hg] at h
          | some me =>
            rw [hg] at h
            cases me with
            | row v' e' cs =>
              obtain ⟨⟨rfl, rfl, hn⟩, h⟩ := h
              rw [Int.toNat_natCast] at h
              cases hcat : cs.cat (ie.zero.rep n) with
              | none => simp [hcat] at h
              | some zs =>
                simp only [hcat] at h
                obtain ⟨hbz, hK⟩ := h
                obtain ⟨e1, e2⟩ := Cells.cat_ok _ _ _ hcat
                obtain ⟨ow, hones⟩ := hW.ok _ _ hg
                have hcl := Cells.vals_length cs
                have hzl : ie.zero.len = 1 := by rw [hTe.len, hs1]
                obtain ⟨r1, r2, r3⟩ := Cells.rep_vals ie.zero n hzl hTe.ones
                have hzv : ie.zeroV.cells = #[ie.zero.vals.headD undef] := by
                  rw [hTe.zcells]
                  have : ie.zero.vals.length = 1 := by rw [Cells.vals_length, hzl]
                  obtain ⟨z, hz⟩ := List.length_eq_one_iff.1 this
                  rw [hz]; rfl
                have hz1 : (ie.zero.vals.headD undef).oneCell' = true := by
                  have : ie.zero.vals.length = 1 := by rw [Cells.vals_length, hzl]
                  obtain ⟨z, hz⟩ := List.length_eq_one_iff.1 this
                  rw [hz]
                  exact Cells.ones_ok _ hTe.ones z (by rw [hz]; simp)
                rw [← hcl] at ow
                obtain ⟨v1, w1, hrun, hown, hgr, hwh⟩ := run_append_zero (P := P) w0.heap.size hTe hu huu hs1 hb0 o.type _ hzv hz1 _ _ n ow hW.size (by rw [hcl, ← r2, ← e2]; exact hbz)
                have hexec : (execOp a.eval o).run P W = .ok (.value v1) w1 := by
                  unfold execOp
                  simp only [ho, resolve, invoke, builtin, Sem.run_bind, Sem.run_pure, Result.andThen_ok, List.map_toArray, List.map_cons, List.map_nil, es, ex]
                  have hrun' : (Builtin.append_ #[t, u] o.type #[(AV.grow l v' m).conc, (AV.int (n : Int)).conc]).run P W = .ok v1 w1 := hrun
                  simp only [hrun', Result.andThen_ok, Sem.run_pure]
                refine wp_of_value hexec ⟨_, _, _, v1, .inr rfl, rfl, hW.grow (n := l) (e1 := .row v1 e' zs) hg rfl (row := v'.ownBlock) (fun k hk => by simp only [ME.blk, blk_own]; exact hk) hgr ⟨?_, Cells.cat_ones _ _ _ hcat hones⟩ ?_, fun h => (by rw [hq] at h; cases h), ⟨hgr.size, fun k hk hn => hgr.block k hk fun e2 => hn ⟨l, _, hg, by simp only [ME.blk, blk_own]; exact e2.symm⟩⟩, Near.put fun k hk => ?_, hK v1⟩
                · rw [e1, e2, r2, r1, ← hcl]
                  exact hown
                · rcases hwh with hwh | hwh
                  · left; simp only [ME.blk, blk_own, hwh]
                  · right; intro k hk; simp only [ME.blk, blk_own, hwh] at hk; injection hk with hk; omega
                · simp only [ME.blk, blk_own] at hk
                  rcases hwh with hwh | hwh
                  · rw [hwh] at hk; exact .inl ⟨l, _, hg, by simp only [ME.blk, blk_own]; exact hk⟩
                  · rw [hwh] at hk; injection hk with hk; right; omega
            | _ => exact h.elim
      · exact h.elim
end
end Go.Proofs.Ytjleiifcigojoaa
