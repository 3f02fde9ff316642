/- What is owed for each operation, told without a world: operations that make or write memory, calls. For any program. -/
import Derived.Test.YtjleiifcigojoaaPure3
namespace Go.Proofs.Ytjleiifcigojoaa
open Go Go.RowKit
set_option linter.unusedVariables false
set_option linter.unusedSimpArgs false

/-! ### Contracts -/
/-- What comes in: a value, or a slice by what it holds. -/
inductive CA where
  | v (a : AV) | s (cs : Cells)
/-- What goes out: a value, a slice of memory that was made, a slice of such memory or of what came in. -/
inductive CR1 where
  | v (a : AV) | s (cs : Cells) | al (cs : Cells)
inductive CR where
  | one (r : CR1) | tup (rs : List CR1)
abbrev CT := List CA → (CR → Prop) → Prop
def argOk (W : World) : CA → Value → Prop
  | .v a, V => a.good = true ∧ V = a.conc
  | .s cs, V => ∃ A c, V = .slice A cs.len c ∧ cs.len ≤ c ∧ Sl id W A cs.vals ∧ ∀ k, blkA A = some k → k < W.heap.size
def argsOk (W : World) : List CA → List Value → Prop
  | [], [] => True
  | c :: cs, V :: Vs => argOk W c V ∧ argsOk W cs Vs
  | _, _ => False
def resOk1 (vals : List Value) (W W' : World) : CR1 → Value → Prop
  | .v a, V => a.good = true ∧ V = a.conc
  | .s cs, V => ∃ A c, V = .slice A cs.len c ∧ cs.len ≤ c ∧ Sl id W' A cs.vals ∧ ∀ k, blkA A = some k → W.heap.size ≤ k ∧ k < W'.heap.size
  | .al cs, V => ∃ A c, V = .slice A cs.len c ∧ cs.len ≤ c ∧ Sl id W' A cs.vals ∧ ∀ k, blkA A = some k → (W.heap.size ≤ k ∨ ∃ u ∈ vals, blkV u = some k) ∧ k < W'.heap.size
def ressOk (vals : List Value) (W W' : World) : List CR1 → List Value → Prop
  | [], [] => True
  | c :: cs, V :: Vs => resOk1 vals W W' c V ∧ ressOk vals W W' cs Vs
  | _, _ => False
def resOk (vals : List Value) (W W' : World) : CR → Value → Prop
  | .one r, V => resOk1 vals W W' r V
  | .tup rs, V => ∃ Vs, V = .tuple Vs.toArray ∧ ressOk vals W W' rs Vs
/-- There is such a function, and it has a body. -/
def Callable (P : Program) (F : FuncId) : Prop := ∃ fn, P.funcs[F]? = some fn ∧ (fn.name == "runtime.NumGoroutine") = false ∧ fn.body.isNone = false
/-- What a function's contract says. -/
def Sound (P : Program) (F : FuncId) (ct : CT) : Prop :=
  ∀ cas K W vals, argsOk W cas vals → ct cas K → Callable P F ∧ Calls P F vals.toArray W fun e W' => ∃ r V, e = .returned V ∧ resOk vals W W' r V ∧ Below W.heap.size W W' ∧ K r
/-- A function without a body, whose value hangs on no world. -/
abbrev XF := List AV → (AV → Prop) → Prop
def XSound (P : Program) (F : FuncId) (x : XF) : Prop := ∀ vs K, x vs K → ∃ v, v.good = true ∧ K v ∧ (∀ u ∈ vs, u.good = true) ∧ ∀ W, (callFunc F (vs.map AV.conc).toArray).run P W = .ok (.value v.conc) W
/-- What comes behind an operation. -/
abbrev KOp := AV → Mem → Nat → Prop
/-- A function that writes into what it is handed: what is owed, told in the caller's memory. -/
abbrev MT := List AV → Mem → Nat → KOp → Prop
def MSound (P : Program) (F : FuncId) (c : MT) : Prop :=
  ∀ (pv : Nat → Prop) (w0 W : World) (args : List AV) (mem : Mem) (nx : Nat) (K : KOp), c args mem nx K → MRel pv w0 mem W →
    (∀ v ∈ args, v.good = true) ∧ Callable P F ∧ Calls P F (args.map AV.conc).toArray W fun e W' => ∃ v m n, e = .returned v.conc ∧ v.good = true ∧ MRel pv w0 m W' ∧ K v m n
inductive CTE where
  | fn (c : CT) | ext (x : XF) | mem (c : MT)
abbrev CTab := FuncId → CTE
def CTE.ok (P : Program) (F : FuncId) : CTE → Prop
  | .fn c => Sound P F c
  | .ext x => XSound P F x
  | .mem c => MSound P F c
def CTok (P : Program) (ct : CTab) : Prop := ∀ F, (ct F).ok P F
def noCT : CT := fun _ _ => False
theorem sound_none (P : Program) (F : FuncId) : Sound P F noCT := fun _ _ _ _ _ h => h.elim

/-! ### What is owed -/
def zOf (tt : TT) (t : TypeId) : Cells :=
  match tt t with
  | some i => (match i.dsc with
    | .slice e => (match tt e with
      | some ie => ie.zero
      | none => .cv [])
    | _ => .cv [])
  | none => .cv []
def AV.isSl : AV → Bool
  | .nils | .ros .. | .slc .. | .grow .. => true
  | _ => false
def AV.plain : AV → Bool
  | .bad | .raw _ | .nils | .ros .. | .slc .. | .grow .. => false
  | _ => true
def argVC (tt : TT) (mem : Mem) (v : AV) (t : TypeId) (K : CA → Prop) : Prop :=
  if v.isSl then rdVC mem (zOf tt t) v fun cs => K (.s cs) else v.plain = true ∧ K (.v v)
def argsVC (tt : TT) (mem : Mem) : List AV → List TypeId → (List CA → Prop) → Prop
  | [], [], K => K []
  | v :: vs, t :: ts, K => argVC tt mem v t fun c => argsVC tt mem vs ts fun cs => K (c :: cs)
  | _, _, _ => False
/-- The entries of slices of the call's own are let go. -/
def letGo (mem : Mem) : List AV → Mem
  | [] => mem
  | .slc l .. :: r => letGo (delA mem l) r
  | .grow l .. :: r => letGo (delA mem l) r
  | _ :: r => letGo mem r
def bindR1 (args : List AV) (mem : Mem) (nx : Nat) (r : CR1) (K : KO) : Prop :=
  match r with
  | .v a => K a mem nx
  | .s cs => ∀ A c, cs.len ≤ c → K (.ros nx A cs.len c) ((nx, .ro A c cs) :: mem) (nx + 1)
  | .al cs => ∀ A c, cs.len ≤ c → K (.ros nx A cs.len c) ((nx, .ro A c cs) :: letGo mem args) (nx + 1)
def bindRs (args : List AV) (mem : Mem) (nx : Nat) (rs : List CR1) (K : List AV → Mem → Nat → Prop) : Prop :=
  match rs with
  | [] => K [] mem nx
  | r :: rs => bindR1 args mem nx r fun v mem nx => bindRs args mem nx rs fun vs mem nx => K (v :: vs) mem nx
def bindR (args : List AV) (mem : Mem) (nx : Nat) (r : CR) (K : KO) : Prop :=
  match r with
  | .one r => bindR1 args mem nx r K
  | .tup rs => bindRs args mem nx rs fun vs mem nx => K (.tup vs) mem nx
/-- What comes behind, as words that are not looked into. -/
def RetW (args : List AV) (mem : Mem) (nx : Nat) (K : KO) (r : CR) : Prop := bindR args mem nx r K
theorem retW_eq (args : List AV) (mem : Mem) (nx : Nat) (K : KO) (r : CR) : RetW args mem nx K r = bindR args mem nx r K := rfl
def ExtW (mem : Mem) (nx : Nat) (K : KO) (v : AV) : Prop := K v mem nx
theorem extW_eq (mem : Mem) (nx : Nat) (K : KO) (v : AV) : ExtW mem nx K v = K v mem nx := rfl
def RowW (mem : Mem) (nx n : Nat) (e : TypeId) (K : KO) (cs : Cells) : Prop := ∀ g, K (.slc nx g 0 n n) ((nx, .own g e cs) :: mem) (nx + 1)
theorem rowW_eq (mem : Mem) (nx n : Nat) (e : TypeId) (K : KO) (cs : Cells) : RowW mem nx n e K cs = ∀ g, K (.slc nx g 0 n n) ((nx, .own g e cs) :: mem) (nx + 1) := rfl
def callVC (tt : TT) (ct : CTab) (mem : Mem) (nx : Nat) (F : FuncId) (args : List AV) (tys : List TypeId) (K : KO) : Prop :=
  match ct F with
  | .fn c => argsVC tt mem args tys fun cas => c cas (RetW args mem nx K)
  | .ext x => x args (ExtW mem nx K)
  | .mem _ => False
def storeVC (mem : Mem) (i : TI) (x v : AV) (K : Mem → Prop) : Prop :=
  match x with
  | .ptr l g j => (match getA mem l with
    | some (.own g' t cs) => g' = g ∧ (if i.dsc.agg then (match v.cells with
        | some d => if j = 0 ∧ i.size = cs.len then (d.len = i.size ∧ d.ones = true) ∧ K (setA mem l (.own g t d))
          else (d.len = i.size ∧ j + i.size ≤ cs.len) ∧ (match cs.upd j d with
            | some cs' => K (setA mem l (.own g t cs'))
            | none => False)
        | none => False)
      else j < cs.len ∧ (match cs.set j v with
        | some cs' => K (setA mem l (.own g t cs'))
        | none => False))
    | _ => False)
  | .rptr l A j => (match getA mem l with
    | some (.row v' e cs) => (baseV v' = A ∧ i.dsc.agg = false ∧ j < cs.len) ∧ (match cs.set j v with
      | some cs' => K (setA mem l (.row v' e cs'))
      | none => False)
    | _ => False)
  | _ => False
/-- Of what an append goes on: its cells, and what is let go. -/
def appVC (tt : TT) (mem : Mem) (nx : Nat) (t : TypeId) (s x : AV) (K : KO) : Prop :=
  match tt t with
  | some i => (match i.dsc with
    | .slice e => (match tt e with
      | some ie => (ie.size = 1 ∧ 0 < ie.bytes) ∧ rdVC mem ie.zero x fun ys => (match s with
        | .nils => (ys.len * ie.bytes ≤ 140737488355328 ∧ ys.ones = true) ∧ ∀ v, K (.grow nx v ys.len) ((nx, .row v e ys) :: mem) (nx + 1)
        | .slc l g off len cap => (match getA mem l with
          | some (.own g' u cs) => (g' = g ∧ u = e ∧ off = 0 ∧ len ≤ cap ∧ cap = cs.len ∧ cap ≤ 9223372036854775807) ∧ (match (cs.part 0 len).cat ys with
            | some zs => (zs.len * ie.bytes ≤ 140737488355328 ∧ zs.len = len + ys.len ∧ ys.ones = true) ∧ ∀ v, K (.grow nx v zs.len) ((nx, .row v e zs) :: delA mem l) (nx + 1)
            | none => False)
          | _ => False)
        | .grow l v n => (match getA mem l with
          | some (.row v' e' cs) => (v' = v ∧ e' = e ∧ cs.len = n) ∧ (match cs.cat ys with
            | some zs => (zs.len * ie.bytes ≤ 140737488355328 ∧ ys.ones = true) ∧ ∀ v, K (.grow l v zs.len) ((l, .row v e zs) :: delA mem l) nx
            | none => False)
          | _ => False)
        | _ => False)
      | none => False)
    | _ => False)
  | none => False
/-- 'append(s, make([]T, n)...)'. -/
def apzVC (tt : TT) (mem : Mem) (nx : Nat) (t u : TypeId) (s x : AV) (K : KO) : Prop :=
  match tt t, tt u with
  | some i, some j => (match i.dsc, j.dsc, x with
    | .slice e, .int .i64, .int n => (match tt e with
      | some ie => (ie.size = 1 ∧ 0 < ie.bytes ∧ 0 ≤ n) ∧ (match s with
        | .grow l v m => (match getA mem l with
          | some (.row v' e' cs) => (v' = v ∧ e' = e ∧ cs.len = m) ∧ (match cs.cat (ie.zero.rep n.toNat) with
            | some zs => zs.len * ie.bytes ≤ 140737488355328 ∧ ∀ v, K (.grow l v zs.len) ((l, .row v e zs) :: delA mem l) nx
            | none => False)
          | _ => False)
        | _ => False)
      | none => False)
    | _, _, _ => False)
  | _, _ => False
/-- A constant's bytes. -/
def markVC (tt : TT) (mem : Mem) (nx : Nat) (t : TypeId) (l g off n c : Nat) (K : KO) : Prop :=
  match tt t with
  | some i => (match i.dsc with
    | .slice e => (tt e).map TI.dsc = some (.int .u8) ∧ (match getA mem l with
      | some (.own g' u cs) => (g' = g ∧ off + n ≤ cs.len ∧ n ≤ c ∧ cs.len ≤ 9223372036854775807) ∧ K (.ros nx (some ⟨g, off, none⟩) n c) ((nx, .ro (some ⟨g, off, none⟩) c (cs.part off n)) :: delA mem l) (nx + 1)
      | _ => False)
    | _ => False)
  | none => False
def copyVC (mem : Mem) (nx : Nat) (z : Cells) (d s : AV) (K : KO) : Prop :=
  match d with
  | .slc l g off len cap => (match getA mem l with
    | some (.own g' t cs) => (g' = g ∧ off + len ≤ cs.len) ∧ rdVC mem z s fun ys => (match cs.upd off (ys.part 0 (min ys.len len)) with
      | some cs' => K (.int ((min ys.len len : Nat) : Int)) (setA mem l (.own g t cs')) nx
      | none => False)
    | _ => False)
  | _ => False
def opVC (tt : TT) (ct : CTab) (env : Env) (mem : Mem) (nx : Nat) (op : Op) (K : KO) : Prop :=
  match op with
  | .alloc e => (match tt e with
    | some i => ∀ g, K (.ptr nx g 0) ((nx, .own g e i.zero) :: mem) (nx + 1)
    | none => False)
  | .box e x => (match (ev env x).cells with
    | some cs => cs.ones = true ∧ ∀ g, K (.ptr nx g 0) ((nx, .own g e cs) :: mem) (nx + 1)
    | none => False)
  | .buildSlice t n ps => (match tt t with
    | some i => (match i.dsc with
      | .slice e => (match tt e with
        | some ie => (ie.size = 1 ∧ n ≤ 16777216) ∧ fillVC (fun j => some (j, 1)) (ie.zero.rep n) (ps.toList.map fun p => (p.1, ev env p.2)) (RowW mem nx n e K)
        | none => False)
      | _ => False)
    | none => False)
  | .makeSlice t l c => (match tt t with
    | some i => (match i.dsc with
      | .slice e => (match tt e, ev env l, ev env c with
        | some ie, .int n, .int m => (ie.size = 1 ∧ 0 ≤ n ∧ n ≤ m ∧ m * ie.bytes ≤ 140737488355328 ∧ m ≤ 140737488355328) ∧ ∀ g, K (.slc nx g 0 n.toNat m.toNat) ((nx, .own g e (ie.zero.rep m.toNat)) :: mem) (nx + 1)
        | _, _, _ => False)
      | _ => False)
    | none => False)
  | .store t x v => (match tt t with
    | some i => storeVC mem i (ev env x) (ev env v) fun mem => K .bad mem nx
    | none => False)
  | .call c => (match c.callee with
    | .value (.func F) => callVC tt ct mem nx F (c.args.toList.map (ev env)) c.argTypes.toList K
    | .builtin .append => (match c.args.toList, c.argTypes.toList with
      | [s, x], [t, u] => if t = u then appVC tt mem nx t (ev env s) (ev env x) K else apzVC tt mem nx t u (ev env s) (ev env x) K
      | _, _ => False)
    | .builtin .copy => (match c.args.toList, c.argTypes.toList with
      | [d, s], [t, u] => (tt t).map TI.dsc = (tt u).map TI.dsc ∧ (match tt t with
        | some i => (match i.dsc with
          | .slice e => (tt e).map TI.size = some 1 ∧ copyVC mem nx (zOf tt t) (ev env d) (ev env s) K
          | _ => False)
        | none => False)
      | _, _ => False)
    | .builtin b => bltVC tt mem nx b (c.args.toList.map (ev env)) c.argTypes.toList K
    | _ => False)
  | .convert s d x => (match decide (s = d), ev env x with
    | true, .slc l g off n c => markVC tt mem nx s l g off n c K
    | _, _ => pureVC tt env mem nx (.convert s d x) K)
  | op => pureVC tt env mem nx op K
end Go.Proofs.Ytjleiifcigojoaa
