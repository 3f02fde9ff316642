/- A function whose last part is not walked by the engine: its first parts, one behind the other, are. For any program. -/
import Derived.Test.YtjleiifcigojoaaRun
import Derived.RangeFuncLeaves
import Derived.ControlIn
namespace Go.Proofs.Ytjleiifcigojoaa
open Go Go.RowKit
set_option linter.unusedVariables false
set_option linter.unusedSimpArgs false
variable {ds : List Deferred}
def chain : List Code → Code → Code
  | [], r => r
  | c :: cs, r => .seq c (chain cs r)
def seqs : List Code → Code
  | [] => .skip
  | c :: cs => (match cs with
    | [] => c
    | d :: r => .seq c (seqs (d :: r)))
section
variable {P : Program} {tt : TT} {ct : CTab} {pv : Nat → Prop} {w0 : World} {N : Nat}
theorem chain_ok (hTT : TTok P tt) (hCT : CTok P ct) (hmix : P.follows .mixedOrders = true) {rest : Code} {KK : KE} {Q : Exit → Act → World → Prop} (hn : ∀ a W, QK ds pv w0 N KK .normal a W → rest.wp P Q a W) (hx : ∀ e a W, e ≠ .normal → QK ds pv w0 N KK e a W → Q e a W) :
    ∀ (cs : List Code) (env : Env) (mem : Mem) (nx : Nat) (a : Act) (W : World), vcCode tt ct N (seqs cs) env mem nx KK → ERel ds env a N → MRel pv w0 mem W → (chain cs rest).wp P Q a W
  | [], env, mem, nx, a, W, h, hE, hM => hn a W ⟨.normal, env, mem, nx, rfl, hE, hM, h⟩
  | [c], env, mem, nx, a, W, h, hE, hM => wp_seq (Code.wp_mono (fun e a' W' hq => by
      obtain ⟨ex, env1, mem1, nx1, rfl, hE1, hM1, hK⟩ := hq
      cases ex with
      | normal => exact hn a' W' ⟨.normal, env1, mem1, nx1, rfl, hE1, hM1, hK⟩
      | exit id => exact hx _ a' W' (by simp [Ex.conv]) ⟨.exit id, env1, mem1, nx1, rfl, hE1, hM1, hK⟩
      | ret => exact hx _ a' W' (by simp [Ex.conv]) ⟨.ret, env1, mem1, nx1, rfl, hE1, hM1, hK⟩) (code_ok hTT hCT hmix c env mem nx KK a W h hE hM))
  | c :: d :: r, env, mem, nx, a, W, h, hE, hM => wp_seq (Code.wp_mono (fun e a' W' hq => by
      obtain ⟨ex, env1, mem1, nx1, rfl, hE1, hM1, hK⟩ := hq
      cases ex with
      | normal => exact chain_ok hTT hCT hmix hn hx (d :: r) env1 mem1 nx1 a' W' hK hE1 hM1
      | exit id => exact hx _ a' W' (by simp [Ex.conv]) ⟨.exit id, env1, mem1, nx1, rfl, hE1, hM1, hK⟩
      | ret => exact hx _ a' W' (by simp [Ex.conv]) ⟨.ret, env1, mem1, nx1, rfl, hE1, hM1, hK⟩) (code_ok hTT hCT hmix c env mem nx _ a W h hE hM))
/-- What is owed for the first parts: where they end, 'R' holds. -/
def partK (tt : TT) (rs : List ResultVar) (ts : List TypeId) (K : CR → Prop) (R : Env → Mem → Nat → Prop) : KE := fun e env mem nx =>
  match e with
  | .exit _ => False
  | .ret => retR tt rs ts env mem K
  | .normal => R env mem nx
/-- What a body must achieve, in a contract's words. -/
abbrev PostF (n : Nat) (P : Program) (fn : Func) (vals : List Value) (W : World) (K : CR → Prop) : Exit → Act → World → Prop :=
  bodyPostM Fence.wide n P fn (fun e W' => ∃ r V, e = .returned V ∧ resOk vals W W' r V ∧ Below W.heap.size W W' ∧ K r)
theorem sound_chain (hTT : TTok P tt) (hCT : CTok P ct) (hmix : P.follows .mixedOrders = true) {F : FuncId} {fn : Func} {code : Code} (hf : P.funcs[F]? = some fn) (hb : fn.body = some code) (hn : (fn.name == "runtime.NumGoroutine") = false) {rs : List ResultVar} (hr : fn.results = rs.toArray) {ts : List TypeId} {C : CT} (n : Nat) (cs : List Code) (rest : Code) (hc : code = chain cs rest)
    (R : List CA → (CR → Prop) → Env → Mem → Nat → Prop) (h : ∀ cas K, C cas K → cas.length ≤ fn.ntmps ∧ entryVC cas 0 [] [] fun env mem nx => vcCode tt ct fn.ntmps (seqs cs) env mem nx (partK tt rs ts K (R cas K)))
    (hrest : ∀ cas K (vals : List Value) (W0 : World) env mem nx (a : Act) (W : World), C cas K → R cas K env mem nx → ERel [] env a fn.ntmps → MRel (pvOf vals) W0 mem W → rest.wpIn Fence.wide n P (PostF n P fn vals W0 K) a W) : Sound P F C := by
  intro cas K W vals ha hC
  obtain ⟨hlen, h⟩ := h cas K hC
  refine ⟨⟨fn, hf, hn, by rw [hb]; rfl⟩, callsIn_wide.1 (callsIn_of_wp_marks (n := n) hf hb trivial ?_ rfl)⟩
  rw [hc]
  have hvl : vals.length = cas.length := by
    have : ∀ (cas : List CA) (vals : List Value), argsOk W cas vals → vals.length = cas.length := by
      intro cas
      induction cas with
      | nil => intro vals h; cases vals with
        | nil => rfl
        | cons _ _ => exact h.elim
      | cons c cs ih => intro vals h; cases vals with
        | nil => exact h.elim
        | cons v vs => simp [ih vs h.2]
    exact this cas vals ha
  have hsz : (vals.toArray ++ Array.replicate (fn.ntmps - vals.toArray.size) undef).size = fn.ntmps := by simp; omega
  obtain ⟨env, mem, nx, hE, hM, h⟩ := entry_ok (N := fn.ntmps) (vals0 := vals) (W := W) cas vals 0 [] [] { tmps := vals.toArray ++ Array.replicate (fn.ntmps - vals.toArray.size) undef, defers := [] } h ha (fun _ h => h)
    ⟨hsz, rfl, fun _ _ h => by cases h⟩ (MRel.fresh _ W) (fun _ _ h => by cases h) (fun j v hj => by
      have hjl : j < vals.length := (List.getElem?_eq_some_iff.1 hj).1
      have hv : vals[j] = v := (List.getElem?_eq_some_iff.1 hj).2
      have : j < (vals.toArray ++ Array.replicate (fn.ntmps - vals.toArray.size) undef).size := by rw [hsz]; omega
      simp only [Nat.zero_add, Array.getD, this, dif_pos]
      rw [Array.getInternal_eq_getElem, Array.getElem_append_left (by simpa using hjl)]
      simpa using hv)
  refine wpIn_wide.2 (chain_ok (KK := partK tt rs ts K (R cas K)) hTT hCT hmix (fun a W' hq => ?_) (fun e a W' hne hq => ?_) cs env mem nx _ W h hE hM)
  · obtain ⟨ex, env1, mem1, nx1, he, hE1, hM1, hK⟩ := hq
    cases ex with
    | normal => exact wpIn_wide.1 (hrest cas K vals W env1 mem1 nx1 a W' hC hK hE1 hM1)
    | exit id => cases he
    | ret => cases he
  · obtain ⟨ex, env1, mem1, nx1, rfl, hE1, hM1, hK⟩ := hq
    cases ex with
    | normal => exact absurd rfl hne
    | exit id => exact hK.elim
    | ret =>
      obtain ⟨v, h1, r, h2, h3⟩ := ret_ok (P := P) hTT hr hE1 hM1 hK
      show LeavesInM Fence.wide n P fn a.tmps _ a.defers .returning W'
      rw [hE1.defers]
      exact ⟨v, h1, r, v, rfl, h2, hM1.below, h3⟩
end
end Go.Proofs.Ytjleiifcigojoaa
