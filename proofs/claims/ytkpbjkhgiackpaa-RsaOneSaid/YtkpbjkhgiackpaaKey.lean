/- A law whose first argument is a struct of three numbers and an algorithm. -/
import Derived.Test.YtkpbjkhgiackpaaEng3
import Derived.Test.YtkpbjkhgiackpaaTT20
import Derived.Lib.SmallJoins
namespace Go.Proofs.Ytkpbjkhgiackpaa
open Go Go.RowKit
set_option linter.unusedVariables false
set_option linter.unusedSimpArgs false

open Go.ChangeShapes Go.WideShapes
def lawK (d : Nat) (K : AV → Prop) : KE := fun e env mem nx =>
  match e with
  | .exit _ => False
  | _ => K (ev env (.tmp d))
theorem lawK_n (d : Nat) (K : AV → Prop) (env : Env) (mem : Mem) (nx : Nat) : lawK d K .normal env mem nx = K (ev env (.tmp d)) := rfl
theorem lawK_r (d : Nat) (K : AV → Prop) (env : Env) (mem : Mem) (nx : Nat) : lawK d K .ret env mem nx = K (ev env (.tmp d)) := rfl
section
variable {P : Program} {tt : TT} {ct : CTab}
theorem law_run (hTT : TTok P tt) (hCT : CTok P ct) (hmix : P.follows .mixedOrders = true) {F : FuncId} {fn : Func} {code : Code} (hf : P.funcs[F]? = some fn) (hb : fn.body = some code) {d : Nat} (hr : fn.results = #[.tmp d]) {vals : List Value} (hlen : vals.length ≤ fn.ntmps) {W : World} {env : Env} {mem : Mem} {nx : Nat}
    (hE : ∀ k v, getA env k = some v → v.is (vals.getD k undef) ∧ k < vals.length) (hM : MRel (fun _ => True) W mem W) (h : ∀ K : AV → Prop, K (.bool true) → vcCode tt ct fn.ntmps code env mem nx (lawK d K)) :
    Calls P F vals.toArray W fun e W' => e = .returned (.bool true) ∧ Below W.heap.size W W' := by
  refine calls_of_wp hf hb ?_
  have hsz : (vals.toArray ++ Array.replicate (fn.ntmps - vals.toArray.size) undef).size = fn.ntmps := by simp; omega
  have hE0 : ERel [] env { tmps := vals.toArray ++ Array.replicate (fn.ntmps - vals.toArray.size) undef, defers := [] } fn.ntmps := by
    refine ⟨hsz, rfl, fun k v hk => ?_⟩
    obtain ⟨h1, h2⟩ := hE k v hk
    have e : (vals.toArray ++ Array.replicate (fn.ntmps - vals.toArray.size) undef).getD k undef = vals.getD k undef := by
      have : k < (vals.toArray ++ Array.replicate (fn.ntmps - vals.toArray.size) undef).size := by rw [hsz]; omega
      simp only [Array.getD, this, dif_pos]
      rw [Array.getInternal_eq_getElem, Array.getElem_append_left (by simpa using h2)]
      simp [h2]
    rw [e]; exact h1
  refine Code.wp_mono (fun e a W' hq => ?_) (code_ok hTT hCT hmix code env mem nx _ _ W (h (fun v => v = .bool true) rfl) hE0 hM)
  obtain ⟨ex, env1, mem1, nx1, rfl, hE1, hM1, hK⟩ := hq
  have fin : ev env1 (.tmp d) = .bool true → ∃ v, (results fn a.tmps).run P W' = .ok v W' ∧ (Ending.returned v = .returned (.bool true) ∧ Below W.heap.size W W') := fun hv => by
    refine ⟨.bool true, results_run (P := P) (fn := fn) (tmps := a.tmps) (W := W') (rs := [.tmp d]) hr (Vs := [.bool true]) rfl (fun j r' V' hr' hV' => ?_), rfl, hM1.below⟩
    cases j with
    | zero => simp at hr' hV'; subst hr'; subst hV'; exact (ev_is hE1 (x := .tmp d) hv rfl).symm
    | succ j => simp at hr'
  cases ex with
  | normal => obtain ⟨v, h1, h2⟩ := fin hK; exact ⟨hE1.defers, v, h1, h2⟩
  | exit id => exact hK.elim
  | ret => obtain ⟨v, h1, h2⟩ := fin hK; exact ⟨hE1.defers, v, h1, h2⟩
/-- One more slice that is read. -/
theorem MRel.ro {w0 W : World} {m : Mem} (h : MRel (fun _ => True) w0 m W) (hro : ∀ l e, getA m l = some e → e.mine = false) (l : Nat) {A : Option Addr} {c : Nat} {cs : Cells} (hs : Sl id W A cs.vals) (hc : cs.len ≤ c) (hb : ∀ k, blkA A = some k → k < W.heap.size) :
    MRel (fun _ => True) w0 ((l, .ro A c cs) :: m) W ∧ ∀ l' e, getA ((l, ME.ro A c cs) :: m) l' = some e → e.mine = false := by
  refine ⟨h.add l _ ⟨hs, hc, fun k hk => ⟨hb k hk, .inr trivial⟩⟩ fun l' e' he' hm k hk hk' => ?_, fun l' e he => ?_⟩
  · rcases hm with hm | hm
    · cases hm
    · rw [hro l' e' he'] at hm; cases hm
  · simp only [getA] at he
    split at he
    · injection he with he; subst he; rfl
    · exact hro l' e he
end
/-- What a slice that comes in is. -/
structure InS {α : Type} (f : α → Value) (w : World) (xs : List α) (A : Option Addr) (c : Nat) : Prop where
  len : xs.length ≤ c
  sl : Sl f w A xs
  blk : ∀ k, blkA A = some k → k < w.heap.size
section
variable {H : Type} {enc : TypeId × Value → H} {w : World} {b0 base : Nat} {r : Reach} {held : Bool} {v : Value} {d : DataW H} {ps : List MemPlace}
set_option maxRecDepth 100000 in
theorem open_key (hval : Value.okWide Try.prog w r b0 61 v) (hd : DataW.Trod enc Try.prog w base (fun _ => true) held 61 v d ps) :
    ∃ (xs ys zs : List U32) (A0 A1 A2 : Option Addr) (c0 c1 c2 : Nat) (n : Int), v = .agg #[.slice A0 xs.length c0, .slice A1 ys.length c1, .slice A2 zs.length c2, .int .i64 n] ∧ InS v32 w xs A0 c0 ∧ InS v32 w ys A1 c1 ∧ InS v32 w zs A2 c2 ∧ (Lit.int .i64 n).wf = true := by
  have ht : Try.prog.underlying 61 = some (.struct (Try.prog.fieldsOf 61)) := by kernel_rfl
  have hfl : (Try.prog.fieldsOf 61).toList.map (fun f => (f.offset, f.type)) = [(0, 23), (1, 23), (2, 23), (3, 3)] := by kernel_rfl
  have hfs : ∃ f0 f1 f2 f3, Try.prog.fieldsOf 61 = #[f0, f1, f2, f3] ∧ f0.offset = 0 ∧ f0.type = 23 ∧ f1.offset = 1 ∧ f1.type = 23 ∧ f2.offset = 2 ∧ f2.type = 23 ∧ f3.offset = 3 ∧ f3.type = 3 := by
    generalize Try.prog.fieldsOf 61 = fs at hfl
    obtain ⟨l⟩ := fs
    match l, hfl with
    | [f0, f1, f2, f3], hfl =>
      simp only [List.map_cons, List.map_nil, List.cons.injEq, Prod.mk.injEq, and_true] at hfl
      exact ⟨f0, f1, f2, f3, rfl, hfl.1.1, hfl.1.2, hfl.2.1.1, hfl.2.1.2, hfl.2.2.1.1, hfl.2.2.1.2, hfl.2.2.2.1, hfl.2.2.2.2⟩
    | [], hfl => simp at hfl
    | [_], hfl => simp at hfl
    | [_, _], hfl => simp at hfl
    | [_, _, _], hfl => simp at hfl
    | _ :: _ :: _ :: _ :: _ :: _, hfl => simp at hfl
  obtain ⟨f0, f1, f2, f3, hfe, o0, t0, o1, t1, o2, t2, o3, t3⟩ := hfs
  rw [hfe] at ht
  have hct : Try.prog.cellTypes Try.prog.depth 61 = some [23, 23, 23, 3] := by kernel_rfl
  have hsz : Try.prog.cellsOf 61 = 4 := by kernel_rfl
  have hcn : Try.prog.cellsOf 23 = 1 := by kernel_rfl
  have hci : Try.prog.cellsOf 3 = 1 := by kernel_rfl
  have hun : Try.prog.underlying 23 = some (.slice 34) := by kernel_rfl
  have hu32 : Try.prog.underlying 34 = some (.int .u32) := by kernel_rfl
  have hui : Try.prog.underlying 3 = some (.int .i64) := by kernel_rfl
  simp only [Value.okWide, ht] at hval
  obtain ⟨cs, rfl, hs, ts, hts, _, hrow⟩ := hval
  rw [hct] at hts
  injection hts with hts
  subst hts
  rw [hsz] at hs
  obtain ⟨v0, v1, v2, v3, rfl⟩ := Go.Joins.array4 hs
  obtain ⟨fuel, hfu⟩ := hd
  obtain ⟨y0, y1, y2, y3, m, _, _, h0, h1, h2, h3⟩ := Go.Joins.trod_struct4 ht hfu
  rw [o0, t0, hcn] at h0
  rw [o1, t1, hcn] at h1
  rw [o2, t2, hcn] at h2
  rw [o3, t3, hci] at h3
  have k0 : Value.okWide Try.prog w r b0 23 v0 := by
    obtain ⟨u, hu, hc⟩ := hrow 0 v0 rfl
    simp at hu; subst hu
    simp only [Value.okWide, hun]; exact hc
  have k1 : Value.okWide Try.prog w r b0 23 v1 := by
    obtain ⟨u, hu, hc⟩ := hrow 1 v1 rfl
    simp at hu; subst hu
    simp only [Value.okWide, hun]; exact hc
  have k2 : Value.okWide Try.prog w r b0 23 v2 := by
    obtain ⟨u, hu, hc⟩ := hrow 2 v2 rfl
    simp at hu; subst hu
    simp only [Value.okWide, hun]; exact hc
  have k3 : Value.okWide Try.prog w r b0 3 v3 := by
    obtain ⟨u, hu, hc⟩ := hrow 3 v3 rfl
    simp at hu; subst hu
    simp only [Value.okWide, hui]; exact hc
  obtain ⟨a0, l0, q0, rfl⟩ := okWide_slice hun k0
  obtain ⟨a1, l1, q1, rfl⟩ := okWide_slice hun k1
  obtain ⟨a2, l2, q2, rfl⟩ := okWide_slice hun k2
  obtain ⟨n3, rfl⟩ := okWide_int hui k3
  obtain ⟨A0, xs, c0, e0, hc0, _, s0⟩ := open_row (f := v32) (fun _ => rfl) (fun _ => of_wf32) hun hu32 (by kernel_rfl) k0 ⟨m, h0⟩
  obtain ⟨A1, ys, c1, e1, hc1, _, s1⟩ := open_row (f := v32) (fun _ => rfl) (fun _ => of_wf32) hun hu32 (by kernel_rfl) k1 ⟨m, h1⟩
  obtain ⟨A2, zs, c2, e2, hc2, _, s2⟩ := open_row (f := v32) (fun _ => rfl) (fun _ => of_wf32) hun hu32 (by kernel_rfl) k2 ⟨m, h2⟩
  rw [e0] at k0
  rw [e1] at k1
  rw [e2] at k2
  obtain ⟨n, e3, _, _, hw⟩ := open_int hui k3 ⟨m, h3⟩
  exact ⟨xs, ys, zs, A0, A1, A2, c0, c1, c2, n, by rw [e0, e1, e2, e3], ⟨hc0, s0, slice_blk hun k0⟩, ⟨hc1, s1, slice_blk hun k1⟩, ⟨hc2, s2, slice_blk hun k2⟩, hw⟩
end
end Go.Proofs.Ytkpbjkhgiackpaa
