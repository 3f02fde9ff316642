/- From a contract to a walk: a law that hands back true. For any program. -/
import Derived.Test.YtokokhnpdehjlaaFn
namespace Go.Proofs.Ytokokhnpdehjlaa
open Go Go.RowKit
theorem sound_true {P : Program} {F : FuncId} {C : CT} (h : Sound P F C) {cas : List CA} {vals : List Value} {W : World} (ha : argsOk W cas vals) (hC : C cas (fun r => r = .one (.v (.bool true)))) :
    Calls P F vals.toArray W fun e W' => e = .returned (.bool true) ∧ Below W.heap.size W W' := by
  obtain ⟨_, hc⟩ := h cas _ W vals ha hC
  refine hc.mono fun e W' ⟨r, V, he, hr, hb, hK⟩ => ?_
  subst hK
  obtain ⟨_, rfl⟩ := hr
  exact ⟨he, hb⟩
end Go.Proofs.Ytokokhnpdehjlaa
