/- A row of nothing is one that is read. -/
import Derived.Test.YtjleiifcigojoaaFn
namespace Go.Proofs.Ytjleiifcigojoaa
open Go Go.RowKit
set_option linter.unusedVariables false
section
variable {ι : Type} {env : Env} {mem : Mem} {I : ι → St} {p : ι → Prop}
theorem LeJ.none (d n : Nat) (z : Cells) {l g cap : Nat} {e : TypeId} {cs : Cells} (h1 : getA env d = some (.slc l g 0 0 cap)) (h2 : getA mem l = some (.own g e cs)) (hz : z.vals = [] ∧ z.len = 0)
    (h : LeJ ((d, .ros n (some ⟨g, 0, none⟩) 0 cap) :: env) ((n, .ro (some ⟨g, 0, none⟩) cap z) :: delA mem l) I p) : LeJ env mem I p := fun ds pv w0 W a N hE hM => by
  obtain ⟨ow, hgb, hones⟩ := hM.ok l _ h2
  have hl : MRel pv w0 (delA mem l) W := hM.less fun k x hd => by
    rw [getA_delA] at hd
    split at hd
    · cases hd
    · exact hd
  refine h ds pv w0 W a N ⟨hE.size, hE.defers, fun d' v hd => ?_⟩ (hl.add n _ ⟨by rw [hz.1]; exact Sl.nil W _, by rw [hz.2]; exact Nat.zero_le _, fun k hk => ?_⟩ fun l' e' he' hm k hk => ?_)
  · simp only [getA] at hd
    split at hd
    · rename_i hdd; subst hdd; injection hd with hd; subst hd; exact .inr ((hE.get _ _ h1).resolve_left (by simp))
    · exact hE.get d' v hd
  · injection hk with hk; subst hk; exact ⟨ow.lt, .inl hgb⟩
  · injection hk with hk; subst hk
    rw [getA_delA] at he'
    split at he'
    · cases he'
    · rename_i hne
      exact hM.sep l _ l' e' h2 he' (fun hh => hne hh.symm) rfl _ rfl
end
end Go.Proofs.Ytjleiifcigojoaa
