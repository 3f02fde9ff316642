/- Laws, carried out in a memory of one's own; slices of slices. For any program. -/
import Derived.Test.YtlcaobnojbkmbaaEng3
namespace Go.Proofs.Ytlcaobnojbkmbaa
open Go Go.RowKit
set_option linter.unusedVariables false
set_option linter.unusedSimpArgs false
def lawK (d : Nat) (K : AV → Prop) : KE := fun e env mem nx =>
  match e with
  | .exit _ => False
  | _ => K (ev env (.tmp d))
theorem lawK_n (d : Nat) (K : AV → Prop) (env : Env) (mem : Mem) (nx : Nat) : lawK d K .normal env mem nx = K (ev env (.tmp d)) := rfl
theorem lawK_r (d : Nat) (K : AV → Prop) (env : Env) (mem : Mem) (nx : Nat) : lawK d K .ret env mem nx = K (ev env (.tmp d)) := rfl
section
variable {P : Program} {tt : TT} {ct : CTab}
theorem law_run (hTT : TTok P tt) (hCT : CTok P ct) (hmix : P.follows .mixedOrders = true) {F : FuncId} {fn : Func} {code : Code} (hf : P.funcs[F]? = some fn) (hb : fn.body = some code) {d : Nat} (hr : fn.results = #[.tmp d]) {vals : List Value} (hlen : vals.length ≤ fn.ntmps) {W : World} {env : Env} {mem : Mem} {nx : Nat}
    (hE : ∀ k v, getA env k = some v → v.is (vals.getD k undef) ∧ k < vals.length) (hM : MRel (fun _ => True) W mem W) (h : ∀ K : AV → Prop, K (.bool true) → vcCode tt ct fn.ntmps code env mem nx (lawK d K)) :
    Calls P F vals.toArray W fun e W' => e = .returned (.bool true) ∧ Below W.heap.size W W' := by
  refine calls_of_wp hf hb ?_
  have hsz : (vals.toArray ++ Array.replicate (fn.ntmps - vals.toArray.size) undef).size = fn.ntmps := by simp; omega
  have hE0 : ERel [] env { tmps := vals.toArray ++ Array.replicate (fn.ntmps - vals.toArray.size) undef, defers := [] } fn.ntmps := by
    refine ⟨hsz, rfl, fun k v hk => ?_⟩
    obtain ⟨h1, h2⟩ := hE k v hk
    have e : (vals.toArray ++ Array.replicate (fn.ntmps - vals.toArray.size) undef).getD k undef = vals.getD k undef := by
      have : k < (vals.toArray ++ Array.replicate (fn.ntmps - vals.toArray.size) undef).size := by rw [hsz]; omega
      simp only [Array.getD, this, dif_pos]
      rw [Array.getInternal_eq_getElem, Array.getElem_append_left (by simpa using h2)]
      simp [h2]
    rw [e]; exact h1
  refine Code.wp_mono (fun e a W' hq => ?_) (code_ok hTT hCT hmix code env mem nx _ _ W (h (fun v => v = .bool true) rfl) hE0 hM)
  obtain ⟨ex, env1, mem1, nx1, rfl, hE1, hM1, hK⟩ := hq
  have fin : ev env1 (.tmp d) = .bool true → ∃ v, (results fn a.tmps).run P W' = .ok v W' ∧ (Ending.returned v = .returned (.bool true) ∧ Below W.heap.size W W') := fun hv => by
    refine ⟨.bool true, results_run (P := P) (fn := fn) (tmps := a.tmps) (W := W') (rs := [.tmp d]) hr (Vs := [.bool true]) rfl (fun j r' V' hr' hV' => ?_), rfl, hM1.below⟩
    cases j with
    | zero => simp at hr' hV'; subst hr'; subst hV'; exact (ev_is hE1 (x := .tmp d) hv rfl).symm
    | succ j => simp at hr'
  cases ex with
  | normal => obtain ⟨v, h1, h2⟩ := fin hK; exact ⟨hE1.defers, v, h1, h2⟩
  | exit id => exact hK.elim
  | ret => obtain ⟨v, h1, h2⟩ := fin hK; exact ⟨hE1.defers, v, h1, h2⟩
/-- One more slice that is read. -/
theorem MRel.ro {w0 W : World} {m : Mem} (h : MRel (fun _ => True) w0 m W) (hro : ∀ l e, getA m l = some e → e.mine = false) (l : Nat) {A : Option Addr} {c : Nat} {cs : Cells} (hs : Sl id W A cs.vals) (hc : cs.len ≤ c) (hb : ∀ k, blkC A c = some k → k < W.heap.size) :
    MRel (fun _ => True) w0 ((l, .ro A c cs) :: m) W ∧ ∀ l' e, getA ((l, ME.ro A c cs) :: m) l' = some e → e.mine = false := by
  refine ⟨h.add l _ ⟨hs, hc, fun k hk => ⟨hb k (blkC_dn hc hk), .inr trivial⟩⟩ fun l' e' he' hm k hk hk' => ?_, fun l' e he => ?_⟩
  · rcases hm with hm | hm
    · cases hm
    · rw [hro l' e' he'] at hm; cases hm
  · simp only [getA] at he
    split at he
    · injection he with he; subst he; rfl
    · exact hro l' e he
end
/-- What a slice that comes in is. -/
structure InS {α : Type} (f : α → Value) (w : World) (xs : List α) (A : Option Addr) (c : Nat) : Prop where
  len : xs.length ≤ c
  sl : Sl f w A xs
  blk : ∀ k, blkC A c = some k → k < w.heap.size
/-- Pieces that are read: the address, how far it reaches, the bytes. -/
def entP (p : Option Addr × Nat × List U8) : ME := .ro p.1 p.2.1 (.c8 p.2.2)
def pR (ps : Nat → Option Addr × Nat × List U8) : Nat → Mem
  | 0 => []
  | n + 1 => (n + 2000, entP (ps n)) :: pR ps n
theorem pR_get (ps : Nat → Option Addr × Nat × List U8) : ∀ (n k : Nat), k < n → getA (pR ps n) (k + 2000) = some (entP (ps k))
  | 0, k, h => by omega
  | n + 1, k, h => by
    simp only [pR, getA]
    by_cases hk : n = k
    · subst hk; simp
    · rw [if_neg (by omega)]; exact pR_get ps n k (by omega)
theorem pR_mem (ps : Nat → Option Addr × Nat × List U8) : ∀ (n : Nat) (p : Nat × ME), p ∈ pR ps n → ∃ k, k < n ∧ p = (k + 2000, entP (ps k))
  | 0, p, h => by cases h
  | n + 1, p, h => by
    rcases List.mem_cons.1 h with rfl | h
    · exact ⟨n, by omega, rfl⟩
    · obtain ⟨k, hk, e⟩ := pR_mem ps n p h; exact ⟨k, by omega, e⟩
theorem pR_rest (ps : Nat → Option Addr × Nat × List U8) (n : Nat) : RestOk (pR ps n) := by
  refine restOk_of (fun p hp => ?_) fun p hp => ?_
  · obtain ⟨k, _, rfl⟩ := pR_mem ps n p hp; simp only; omega
  · obtain ⟨k, hk, rfl⟩ := pR_mem ps n p hp; exact pR_get ps n k hk
theorem pR_rel {W : World} (ps : Nat → Option Addr × Nat × List U8) (hp : ∀ k, InS v8 W (ps k).2.2 (ps k).1 (ps k).2.1) : ∀ n, MRel (fun _ => True) W (pR ps n) W ∧ ∀ l e, getA (pR ps n) l = some e → e.mine = false
  | 0 => ⟨MRel.fresh (fun _ => True) W, fun _ _ h => by cases h⟩
  | n + 1 => by
    obtain ⟨h1, h2⟩ := pR_rel ps hp n
    exact h1.ro h2 (n + 2000) (cs := .c8 (ps n).2.2) (sl_id (hp n).sl) (hp n).len (hp n).blk
/-- What is only read, under one more number. -/
theorem LeJ.dup {ι : Type} {env : Env} {mem R : Mem} {I : ι → St} {p : ι → Prop} (n l : Nat) {e : ME} (hx : extM mem R) (h1 : getA R l = some e) (hm : e.mine = false) (h : LeJ env ((n, e) :: mem) I p) : LeJ env mem I p := fun ds pv w0 W a N hE hM => by
  have h2 := extM_get R hx l e h1
  refine h ds pv w0 W a N hE (hM.add n _ (hM.ok l _ h2) fun l' e' he' hmm k hk hk' => ?_)
  rcases hmm with hmm | hmm
  · rw [hm] at hmm; cases hmm
  · by_cases hl : l' = l
    · subst hl; rw [h2] at he'; injection he' with he'; subst he'; rw [hm] at hmm; cases hmm
    · exact hM.sep l' e' l e he' h2 hl hmm k hk' hk
end Go.Proofs.Ytlcaobnojbkmbaa
