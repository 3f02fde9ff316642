/- A function that writes into what it is handed, with two results. For any program. -/
import Derived.Test.YtjleiifcigojoaaRun
namespace Go.Proofs.Ytjleiifcigojoaa
open Go Go.RowKit
set_option linter.unusedVariables false
set_option linter.unusedSimpArgs false
variable {ds : List Deferred}
def memR2 (rs : List ResultVar) (K : KO) (env : Env) (mem : Mem) (nx : Nat) : Prop :=
  match rs with
  | [.tmp d, .tmp f] => ((ev env (.tmp d)).good = true ∧ (ev env (.tmp f)).good = true) ∧ K (.tup [ev env (.tmp d), ev env (.tmp f)]) mem nx
  | _ => False
def memK2 (rs : List ResultVar) (K : KO) : KE := fun e env mem nx =>
  match e with
  | .exit _ => False
  | _ => memR2 rs K env mem nx
section
variable {P : Program} {tt : TT} {ct : CTab} {N : Nat}
theorem memK2_ok {fn : Func} {rs : List ResultVar} (hr : fn.results = rs.toArray) {K : KO} {ex : Ex} {env : Env} {mem : Mem} {nx : Nat} {a : Act} {W : World} (hE : ERel ds env a N) (he : ∀ id, ex ≠ .exit id) (h0 : memK2 rs K ex env mem nx) :
    ∃ v : AV, (results fn a.tmps).run P W = .ok v.conc W ∧ v.good = true ∧ K v mem nx := by
  have h : memR2 rs K env mem nx := by
    cases ex with
    | exit id => exact absurd rfl (he id)
    | normal => exact h0
    | ret => exact h0
  clear h0
  unfold memR2 at h
  split at h
  · rename_i d f
    refine ⟨.tup [ev env (.tmp d), ev env (.tmp f)], results_run (P := P) (fn := fn) (tmps := a.tmps) (W := W) hr (Vs := [(ev env (.tmp d)).conc, (ev env (.tmp f)).conc]) rfl (fun j r' V' hr' hV' => ?_), rfl, h.2⟩
    match j with
    | 0 => simp at hr' hV'; subst hr'; subst hV'; exact (ev_is hE (x := .tmp d) rfl h.1.1).symm
    | 1 => simp at hr' hV'; subst hr'; subst hV'; exact (ev_is hE (x := .tmp f) rfl h.1.2).symm
    | j + 2 => simp at hr'
  · exact h.elim
/-- A contract of a function that writes into what it is handed, out of what is owed for its body. -/
theorem msound_vc2 (hTT : TTok P tt) (hCT : CTok P ct) (hmix : P.follows .mixedOrders = true) {F : FuncId} {fn : Func} {code : Code} (hf : P.funcs[F]? = some fn) (hb : fn.body = some code) (hn : (fn.name == "runtime.NumGoroutine") = false) {rs : List ResultVar} (hr : fn.results = rs.toArray) {c : MT}
    (h : ∀ args mem nx K, c args mem nx K → (args.all AV.good = true ∧ args.length ≤ fn.ntmps) ∧ vcCode tt ct fn.ntmps code (envOf args 0) mem nx (memK2 rs K)) : MSound P F c := by
  intro pv w0 W args mem nx K hc hM
  obtain ⟨⟨hg, hlen⟩, h⟩ := h args mem nx K hc
  refine ⟨List.all_eq_true.1 hg, ⟨fn, hf, hn, by rw [hb]; rfl⟩, calls_of_wp hf hb ?_⟩
  have hvl : (args.map AV.conc).length = args.length := by simp
  have hsz : ((args.map AV.conc).toArray ++ Array.replicate (fn.ntmps - (args.map AV.conc).toArray.size) undef).size = fn.ntmps := by simp; omega
  have hE : ERel [] (envOf args 0) { tmps := (args.map AV.conc).toArray ++ Array.replicate (fn.ntmps - (args.map AV.conc).toArray.size) undef, defers := [] } fn.ntmps := by
    refine ⟨hsz, rfl, fun d v hd => ?_⟩
    obtain ⟨_, hv⟩ := envOf_get args 0 d v hd
    rw [Nat.sub_zero] at hv
    have hjl : d < args.length := (List.getElem?_eq_some_iff.1 hv).1
    have hve : args[d] = v := (List.getElem?_eq_some_iff.1 hv).2
    right
    have hd2 : d < ((args.map AV.conc).toArray ++ Array.replicate (fn.ntmps - (args.map AV.conc).toArray.size) undef).size := by rw [hsz]; omega
    simp only [Array.getD, hd2, dif_pos]
    rw [Array.getInternal_eq_getElem, Array.getElem_append_left (by simpa using hjl)]
    simp [hve]
  refine Code.wp_mono (fun e a W' hq => ?_) (code_ok hTT hCT hmix code (envOf args 0) mem nx _ _ W h hE hM)
  obtain ⟨ex, env1, mem1, nx1, rfl, hE1, hM1, hK⟩ := hq
  cases ex with
  | normal => obtain ⟨v, h1, h2, h3⟩ := memK2_ok (P := P) (W := W') hr hE1 (fun _ e => by cases e) hK; exact ⟨hE1.defers, _, h1, v, mem1, nx1, rfl, h2, hM1, h3⟩
  | exit id => exact hK.elim
  | ret => obtain ⟨v, h1, h2, h3⟩ := memK2_ok (P := P) (W := W') hr hE1 (fun _ e => by cases e) hK; exact ⟨hE1.defers, _, h1, v, mem1, nx1, rfl, h2, hM1, h3⟩
end
end Go.Proofs.Ytjleiifcigojoaa
