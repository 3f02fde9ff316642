/- What is owed for each operation, told without a world. For any program. -/
import Derived.Test.YtjleiifcigojoaaAbs
namespace Go.Proofs.Ytjleiifcigojoaa
open Go Go.RowKit
set_option linter.unusedVariables false
set_option linter.unusedSimpArgs false
variable {ds : List Deferred}

/-! ### Types -/
inductive TDsc where
  | int (k : IntKind) | iwrap | bool | string | array (n : Nat) (e : TypeId) | slice (e : TypeId) | struct (fs : List (Nat × TypeId × Nat)) | ptr (e : TypeId) | other
def TDsc.agg : TDsc → Bool
  | .array .. | .struct _ => true
  | _ => false
structure TI where
  size : Nat
  bytes : Nat
  zero : Cells
  dsc : TDsc
def TI.zeroV (i : TI) : Value := if i.dsc.agg then .agg i.zero.vals.toArray else i.zero.vals.headD undef
def TDsc.ok (P : Program) (t : TypeId) : TDsc → Prop
  | .int k => P.underlying t = some (.int k)
  | .iwrap => P.underlying t = some (.int .i64)
  | .bool => P.underlying t = some .bool
  | .string => P.underlying t = some .string
  | .array n e => P.underlying t = some (.array n e)
  | .slice e => P.underlying t = some (.slice e)
  | .ptr e => P.underlying t = some (.pointer e)
  | .struct l => ∃ fs, P.underlying t = some (.struct fs) ∧ fs.toList.map (fun f => (f.offset, f.type)) = l.map (fun p => (p.1, p.2.1)) ∧ fs.toList.mapM (fun f => (P.info? f.type).map fun i => (f.offset, i.size)) = some (l.map fun p => (p.1, p.2.2)) ∧ fs.toList.all (fun f => f.name != "_") = true ∧ P.stoodInHeld t = false
  | .other => ∃ d, P.underlying t = some d ∧ (match d with | .struct _ | .array _ _ => true | _ => false) = false
/-- Fields that are arrays of words, one behind the other. -/
def strU (tt : TypeId → Option TI) : Nat → List (Nat × TypeId × Nat) → Nat → Bool
  | off, [], n => off == n
  | off, (o, ft, sz) :: r, n => o == off && (match tt ft with
    | some fi => fi.size == sz && (match fi.dsc with
      | .array m e => m == sz && (match tt e with
        | some ei => (match ei.dsc with
          | .int .u64 => true
          | _ => false)
        | none => false)
      | _ => false)
    | none => false) && strU tt (off + sz) r n
structure TIok (P : Program) (t : TypeId) (i : TI) : Prop where
  info : (P.info? t).map (fun x => (x.zero, x.size, x.bytes)) = some (some i.zeroV, i.size, i.bytes)
  len : i.zero.len = i.size
  ones : i.zero.ones = true
  one : i.dsc.agg = false → i.size = 1
  dsc : i.dsc.ok P t
  eqg : i.dsc.agg = true → P.eqGuardType P.depth t = false
abbrev TT := TypeId → Option TI
def TTok (P : Program) (tt : TT) : Prop := ∀ t i, tt t = some i → TIok P t i

/-! ### Operands -/
def absC : Value → AV
  | .int .u8 n => if 0 ≤ n ∧ n < 256 then .u8 (BitVec.ofNat 8 n.toNat) else .raw (.int .u8 n)
  | .int .u32 n => if 0 ≤ n ∧ n < 4294967296 then .u32 (BitVec.ofNat 32 n.toNat) else .raw (.int .u32 n)
  | .int .u64 n => if 0 ≤ n ∧ n < 18446744073709551616 then .u64 (BitVec.ofNat 64 n.toNat) else .raw (.int .u64 n)
  | .int .i64 n => .int n
  | .bool b => .bool b
  | .slice none 0 0 => .nils
  | .pointer none => .nilp
  | v => .raw v
theorem absC_ok (v : Value) : (absC v).conc = v := by
  unfold absC
  split
  · split
    · rename_i h; simp [AV.conc, i8]; omega
    · rfl
  · split
    · rename_i h; simp [AV.conc, i32]; omega
    · rfl
  · split
    · rename_i h; simp [AV.conc, i64]; omega
    · rfl
  all_goals rfl
def ev (env : Env) : Operand → AV
  | .tmp t => (getA env t).getD .bad
  | .const v => absC v
  | .global g => .raw (.pointer (some ⟨g, 0, none⟩))
  | .func f => .raw (.func (.func f) #[] #[])
structure ERel (ds : List Deferred) (env : Env) (a : Act) (N : Nat) : Prop where
  size : a.tmps.size = N
  defers : a.defers = ds
  get : ∀ d v, getA env d = some v → v.is (a.tmps.getD d undef)
theorem ev_ok {env : Env} {a : Act} {N : Nat} (h : ERel ds env a N) (x : Operand) : (ev env x).is (a.eval x) := by
  cases x with
  | tmp t =>
    simp only [ev, Act.eval]
    cases hg : getA env t with
    | none => exact .inl rfl
    | some v => exact h.get t v hg
  | const v => right; simp only [ev, absC_ok, Act.eval]
  | global g => right; rfl
  | func f => right; rfl
theorem ERel.put {env : Env} {a : Act} {N : Nat} (h : ERel ds env a N) (d : Nat) (hd : d < N) (v : AV) (V : Value) (hv : v.is V) : ERel ds ((d, v) :: env) (a.put (some d) V) N where
  size := by simp [Act.put, h.size]
  defers := h.defers
  get := fun k u hu => by
    simp only [getA] at hu
    simp only [Act.put]
    by_cases hk : d = k
    · subst hk
      simp only [if_true, Option.some.injEq] at hu
      subst hu
      have : d < a.tmps.size := by rw [h.size]; exact hd
      simpa [Array.getD, this] using hv
    · simp only [hk, if_false] at hu
      have := h.get k u hu
      rw [show (a.tmps.setIfInBounds d V).getD k undef = a.tmps.getD k undef from ?_]
      · exact this
      · simp [Array.getD_eq_getD_getElem?, Array.getElem?_setIfInBounds, hk]
theorem ERel.less {env env' : Env} {a : Act} {N : Nat} (h : ERel ds env a N) (hl : ∀ d v, getA env' d = some v → getA env d = some v) : ERel ds env' a N := ⟨h.size, h.defers, fun d v hd => h.get d v (hl d v hd)⟩

/-! ### Reckoning -/
def intIn (n : Int) : Prop := -9223372036854775808 ≤ n ∧ n ≤ 9223372036854775807
def iand (x y : Int) : Int := bits .and .i64 x y
def binInt (op : BinOp) (a b : Int) (K : AV → Prop) : Prop :=
  match op with
  | .add => intIn (a + b) ∧ K (.int (a + b))
  | .sub => intIn (a - b) ∧ K (.int (a - b))
  | .mul => intIn (a * b) ∧ K (.int (a * b))
  | .quo => (0 ≤ a ∧ 0 < b ∧ intIn a) ∧ K (.int (a / b))
  | .rem => (0 ≤ a ∧ 0 < b) ∧ K (.int (a % b))
  | .and => K (.int (iand a b))
  | .eql => K (.bool (decide (a = b)))
  | .neq => K (.bool (!decide (a = b)))
  | .lss => K (.bool (decide (a < b)))
  | .leq => K (.bool (decide (a ≤ b)))
  | .gtr => K (.bool (decide (b < a)))
  | .geq => K (.bool (decide (b ≤ a)))
  | _ => False
def bin8 (op : BinOp) (a b : U8) (K : AV → Prop) : Prop :=
  match op with
  | .add => K (.u8 (a + b))
  | .sub => K (.u8 (a - b))
  | .mul => K (.u8 (a * b))
  | .quo => b ≠ 0 ∧ K (.u8 (a / b))
  | .rem => b ≠ 0 ∧ K (.u8 (a % b))
  | .and => K (.u8 (a &&& b))
  | .or => K (.u8 (a ||| b))
  | .xor => K (.u8 (a ^^^ b))
  | .andNot => K (.u8 (a &&& ~~~b))
  | .shl => K (.u8 (a <<< b.toNat))
  | .shr => K (.u8 (a >>> b.toNat))
  | .eql => K (.bool (decide (a = b)))
  | .neq => K (.bool (!decide (a = b)))
  | .lss => K (.bool (decide (a.toNat < b.toNat)))
  | .leq => K (.bool (decide (a.toNat ≤ b.toNat)))
  | .gtr => K (.bool (decide (b.toNat < a.toNat)))
  | .geq => K (.bool (decide (b.toNat ≤ a.toNat)))
def bin32 (op : BinOp) (a b : U32) (K : AV → Prop) : Prop :=
  match op with
  | .add => K (.u32 (a + b))
  | .sub => K (.u32 (a - b))
  | .mul => K (.u32 (a * b))
  | .quo => b ≠ 0 ∧ K (.u32 (a / b))
  | .rem => b ≠ 0 ∧ K (.u32 (a % b))
  | .and => K (.u32 (a &&& b))
  | .or => K (.u32 (a ||| b))
  | .xor => K (.u32 (a ^^^ b))
  | .andNot => K (.u32 (a &&& ~~~b))
  | .shl => K (.u32 (a <<< b.toNat))
  | .shr => K (.u32 (a >>> b.toNat))
  | .eql => K (.bool (decide (a = b)))
  | .neq => K (.bool (!decide (a = b)))
  | .lss => K (.bool (decide (a.toNat < b.toNat)))
  | .leq => K (.bool (decide (a.toNat ≤ b.toNat)))
  | .gtr => K (.bool (decide (b.toNat < a.toNat)))
  | .geq => K (.bool (decide (b.toNat ≤ a.toNat)))
def bin64 (op : BinOp) (a b : U64) (K : AV → Prop) : Prop :=
  match op with
  | .add => K (.u64 (a + b))
  | .sub => K (.u64 (a - b))
  | .mul => K (.u64 (a * b))
  | .quo => b ≠ 0 ∧ K (.u64 (a / b))
  | .rem => b ≠ 0 ∧ K (.u64 (a % b))
  | .and => K (.u64 (a &&& b))
  | .or => K (.u64 (a ||| b))
  | .xor => K (.u64 (a ^^^ b))
  | .andNot => K (.u64 (a &&& ~~~b))
  | .shl => K (.u64 (a <<< b.toNat))
  | .shr => K (.u64 (a >>> b.toNat))
  | .eql => K (.bool (decide (a = b)))
  | .neq => K (.bool (!decide (a = b)))
  | .lss => K (.bool (decide (a.toNat < b.toNat)))
  | .leq => K (.bool (decide (a.toNat ≤ b.toNat)))
  | .gtr => K (.bool (decide (b.toNat < a.toNat)))
  | .geq => K (.bool (decide (b.toNat ≤ a.toNat)))
/-- A shift by a count. -/
def shVC (op : BinOp) (x : AV) (n : Nat) (K : AV → Prop) : Prop :=
  match op, x with
  | .shl, .u8 a => K (.u8 (a <<< n))
  | .shr, .u8 a => K (.u8 (a >>> n))
  | .shl, .u32 a => K (.u32 (a <<< n))
  | .shr, .u32 a => K (.u32 (a >>> n))
  | .shl, .u64 a => K (.u64 (a <<< n))
  | .shr, .u64 a => K (.u64 (a >>> n))
  | .shl, .int a => (n ≤ 64 ∧ intIn (a * 2 ^ n)) ∧ K (.int (a * 2 ^ n))
  | .shr, .int a => (n ≤ 62 ∧ 0 ≤ a) ∧ K (.int (a / 2 ^ n))
  | _, _ => False
def binVC (op : BinOp) (x y : AV) (K : AV → Prop) : Prop :=
  match x, y with
  | .u8 a, .u8 b => bin8 op a b K
  | .u32 a, .u32 b => bin32 op a b K
  | .u64 a, .u64 b => bin64 op a b K
  | .int a, .int b => (match op with
    | .shl | .shr => 0 ≤ b ∧ shVC op (.int a) b.toNat K
    | _ => binInt op a b K)
  | .str a, .str b => (match op with
    | .eql => K (.bool (decide (a = b)))
    | .neq => K (.bool (!decide (a = b)))
    | _ => False)
  | x, .int b => 0 ≤ b ∧ shVC op x b.toNat K
  | x, .u64 b => shVC op x b.toNat K
  | x, .u32 b => shVC op x b.toNat K
  | x, .u8 b => shVC op x b.toNat K
  | _, _ => False
def iw (n : Int) : Int := IntKind.i64.wrap n
/-- Whole numbers that may run over. -/
def binW (op : BinOp) (x y : AV) (K : AV → Prop) : Prop :=
  match x, y with
  | .int a, .int b => (match op with
    | .add => K (.int (iw (a + b)))
    | .sub => K (.int (iw (a - b)))
    | _ => binVC op (.int a) (.int b) K)
  | x, y => binVC op x y K
/-- Is it told so? -/
def TDsc.isW : TDsc → Bool
  | .iwrap => true
  | .int _ => false
  | .bool => false
  | .string => false
  | .array _ _ => false
  | .slice _ => false
  | .struct _ => false
  | .ptr _ => false
  | .other => false
def wrapT (o : Option TI) : Bool :=
  match o with
  | some i => i.dsc.isW
  | none => false
def binT (w : Bool) (op : BinOp) (x y : AV) (K : AV → Prop) : Prop :=
  match w with
  | true => binW op x y K
  | false => binVC op x y K
def unVC (op : UnOp) (x : AV) (K : AV → Prop) : Prop :=
  match op, x with
  | .not, .bool b => K (.bool (!b))
  | .xor, .u8 a => K (.u8 (~~~a))
  | .xor, .u32 a => K (.u32 (~~~a))
  | .xor, .u64 a => K (.u64 (~~~a))
  | .neg, .int n => intIn (0 - n) ∧ K (.int (0 - n))
  | _, _ => False
def cvVC (k : IntKind) (x : AV) (K : AV → Prop) : Prop :=
  match k, x with
  | .u8, .u8 a => K (.u8 a)
  | .u32, .u8 a => K (.u32 (a.setWidth 32))
  | .u64, .u8 a => K (.u64 (a.setWidth 64))
  | .i64, .u8 a => K (.int a.toNat)
  | .u8, .u32 a => K (.u8 (a.setWidth 8))
  | .u32, .u32 a => K (.u32 a)
  | .u64, .u32 a => K (.u64 (a.setWidth 64))
  | .i64, .u32 a => K (.int a.toNat)
  | .u8, .u64 a => K (.u8 (a.setWidth 8))
  | .u32, .u64 a => K (.u32 (a.setWidth 32))
  | .u64, .u64 a => K (.u64 a)
  | .i64, .u64 a => a.toNat < 9223372036854775808 ∧ K (.int a.toNat)
  | .u8, .int n => K (.u8 (BitVec.ofInt 8 n))
  | .u32, .int n => K (.u32 (BitVec.ofInt 32 n))
  | .u64, .int n => K (.u64 (BitVec.ofInt 64 n))
  | .i64, .int n => intIn n ∧ K (.int n)
  | _, _ => False

/-! ### Memory -/
/-- What a slice holds; 'z' tells of what kind nothing is. -/
def rdVC (mem : Mem) (z : Cells) (v : AV) (K : Cells → Prop) : Prop :=
  match v with
  | .nils => K (z.part 0 0)
  | .ros l A n c => (match getA mem l with
    | some (.ro A' c' cs) => (A' = A ∧ c' = c ∧ cs.len = n) ∧ K cs
    | _ => False)
  | .slc l g off len cap => (match getA mem l with
    | some (.own g' t cs) => (g' = g ∧ off + len ≤ cs.len ∧ len ≤ cap ∧ cs.len ≤ 9223372036854775807) ∧ K (cs.part off len)
    | _ => False)
  | .grow l v n => (match getA mem l with
    | some (.row v' e cs) => (v' = v ∧ cs.len = n) ∧ K cs
    | _ => False)
  | _ => False
def AV.good : AV → Bool
  | .bad => false
  | _ => true
/-- A part of cells as a value of a type. -/
def pickC (i : TI) (cs : Cells) (off : Nat) (K : AV → Prop) : Prop :=
  if i.dsc.agg then off + i.size ≤ cs.len ∧ K (cs.sub off i.size) else off < cs.len ∧ (cs.get off).good = true ∧ K (cs.get off)
/-- Where a slice begins. -/
def baseV : Value → Option Addr
  | .slice A _ _ => A
  | _ => none
def loadVC (mem : Mem) (i : TI) (v : AV) (K : AV → Prop) : Prop :=
  match v with
  | .ptr l g j => (match getA mem l with
    | some (.own g' t cs) => g' = g ∧ (if i.dsc.agg = true ∧ j = 0 ∧ i.size = cs.len then K cs.agg else pickC i cs j K)
    | _ => False)
  | .rptr l A j => (match getA mem l with
    | some (.ro A' c' cs) => A' = A ∧ 0 < cs.len ∧ pickC i cs j K
    | some (.row v' e cs) => baseV v' = A ∧ 0 < cs.len ∧ pickC i cs j K
    | _ => False)
  | _ => False
/-- The parts of a literal, put into the cells. -/
def fillVC (place : Nat → Option (Nat × Nat)) (cs : Cells) (ps : List (Nat × AV)) (K : Cells → Prop) : Prop :=
  match ps with
  | [] => K cs
  | (i, v) :: r => (match place i with
    | some (off, size) => if size = 1 then off < cs.len ∧ (match cs.set off v with
        | some cs' => fillVC place cs' r K
        | none => False) else (match v.cells with
      | some d => (d.len = size ∧ off + size ≤ cs.len) ∧ (match cs.upd off d with
        | some cs' => fillVC place cs' r K
        | none => False)
      | none => False)
    | none => False)
/-- Cells of a literal whose every place is told. -/
def bndVC (o : Option AV) (d : Nat) (K : Nat → Prop) : Prop :=
  match o with
  | none => K d
  | some (.int n) => 0 ≤ n ∧ K n.toNat
  | _ => False
def Cells.rep : Cells → Nat → Cells
  | .c8 xs, n => .c8 (List.replicate n (g8 xs 0))
  | .c32 xs, n => .c32 (List.replicate n (g32 xs 0))
  | .c64 xs, n => .c64 (List.replicate n (g64 xs 0))
  | .cv xs, n => .cv (List.replicate n (xs.getD 0 .nils))

abbrev KO := AV → Mem → Nat → Prop
def sliceVC (tt : TT) (mem : Mem) (nx : Nat) (t : TypeId) (x : AV) (lo hi mx : Option AV) (K : KO) : Prop :=
  (mx.isNone || hi.isSome) = true ∧ match x with
  | .ptr l g i => (match tt t with
    | some ti => (match ti.dsc with
      | .array n e => bndVC mx n fun m => bndVC hi m fun h => bndVC lo 0 fun o => (o ≤ h ∧ h ≤ m ∧ m ≤ n ∧ (o < m ∨ o = 0)) ∧ (tt e).map TI.size = some 1 ∧ K (.slc l g (i + o) (h - o) (m - o)) mem nx
      | _ => False)
    | none => False)
  | .slc l g off len cap => (match tt t with
    | some ti => (match ti.dsc with
      | .slice e => bndVC mx cap fun m => bndVC hi len fun h => bndVC lo 0 fun o => (o ≤ h ∧ h ≤ m ∧ m ≤ cap ∧ (o < m ∨ o = 0)) ∧ (tt e).map TI.size = some 1 ∧ K (.slc l g (off + o) (h - o) (m - o)) mem nx
      | _ => False)
    | none => False)
  | .ros l A n c => (match tt t with
    | some ti => (match ti.dsc with
      | .slice e => (match getA mem l with
        | some (.ro A' c' cs) => (A' = A ∧ c' = c ∧ cs.len = n) ∧ (match mx with
          | none => bndVC hi n fun h => bndVC lo 0 fun o => (o ≤ h ∧ h ≤ n) ∧ (tt e).map TI.size = some 1 ∧ ∀ A1 c1, K (.ros nx A1 (h - o) c1) ((nx, .ro A1 c1 (cs.part o (h - o))) :: mem) (nx + 1)
          | some m => bndVC (some m) n fun m => bndVC hi m fun h => bndVC lo 0 fun o => (o ≤ h ∧ h ≤ m ∧ m ≤ n) ∧ (tt e).map TI.size = some 1 ∧ ∀ A1 c1, K (.ros nx A1 (h - o) c1) ((nx, .ro A1 c1 (cs.part o (h - o))) :: mem) (nx + 1))
        | _ => False)
      | _ => False)
    | none => False)
  | .grow l v n => (match tt t with
    | some ti => (match ti.dsc with
      | .slice e => (match getA mem l with
        | some (.row v' e' cs) => (v' = v ∧ cs.len = n) ∧ mx.isNone = true ∧ bndVC hi n fun h => bndVC lo 0 fun o => (o ≤ h ∧ h ≤ n) ∧ (tt e).map TI.size = some 1 ∧ ∀ A1 c1, K (.ros nx A1 (h - o) c1) ((nx, .ro A1 c1 (cs.part o (h - o))) :: delA mem l) (nx + 1)
        | _ => False)
      | _ => False)
    | none => False)
  | _ => False
/-- A builtin that makes and writes nothing. -/
def bltVC (tt : TT) (mem : Mem) (nx : Nat) (b : Builtin) (args : List AV) (tys : List TypeId) (K : KO) : Prop :=
  match b, args, tys with
  | .len, [x], [t] => (match tt t with
    | some i => (match i.dsc, x with
      | .slice e, .ros l A n c => K (.int n) mem nx
      | .slice e, .slc l g off n c => K (.int n) mem nx
      | .slice e, .grow l v n => (match getA mem l with
        | some (.row v' e' cs) => (v' = v ∧ cs.len = n) ∧ K (.int n) mem nx
        | _ => False)
      | .slice e, .nils => K (.int 0) mem nx
      | .array n e, _ => K (.int n) mem nx
      | _, _ => False)
    | none => False)
  | .max, [.int a, .int b], _ => K (.int (if a < b then b else a)) mem nx
  | .min, [.int a, .int b], _ => K (.int (if b < a then b else a)) mem nx
  | .min, [.u64 a, .u64 b], _ => K (.u64 (if b.toNat < a.toNat then b else a)) mem nx
  | _, _, _ => False
/-- The first where it is true, else the second. -/
def bothP : Bool → Prop → Prop → Prop
  | true, A, _ => A
  | false, _, B => B
@[congr] theorem bothP_congr {b b' : Bool} {A B : Prop} (h : b = b') : bothP b A B = bothP b' A B := by rw [h]
theorem both_true (A B : Prop) : bothP true A B = A := rfl
theorem both_false (A B : Prop) : bothP false A B = B := rfl
theorem both_dec (p : Prop) [Decidable p] (A B : Prop) : bothP (decide p) A B = ((p → A) ∧ (¬ p → B)) := by
  by_cases h : p <;> simp [h, bothP]
theorem both_ndec (p : Prop) [Decidable p] (A B : Prop) : bothP (!decide p) A B = ((¬ p → A) ∧ (p → B)) := by
  by_cases h : p <;> simp [h, bothP]
theorem both_ {b : Bool} {A B : Prop} (h1 : b = true → A) (h2 : b = false → B) : bothP b A B := by
  cases b
  · exact h2 rfl
  · exact h1 rfl
/-- What comes behind, as a word that is not looked into. -/
def AggW (mem : Mem) (nx : Nat) (K : KO) (cs : Cells) : Prop := K cs.agg mem nx
theorem aggW_eq (mem : Mem) (nx : Nat) (K : KO) (cs : Cells) : AggW mem nx K cs = K cs.agg mem nx := rfl
/-- What an operation yields that makes nothing and writes nothing. -/
def pureVC (tt : TT) (env : Env) (mem : Mem) (nx : Nat) (op : Op) (K : KO) : Prop :=
  match op with
  | .move x | .assign x => (ev env x).good = true ∧ K (ev env x) mem nx
  | .pick c a b => (match ev env c with
    | .bool t => bothP t ((ev env a).good = true ∧ K (ev env a) mem nx) ((ev env b).good = true ∧ K (ev env b) mem nx)
    | _ => False)
  | .build t ps => (match tt t with
    | some i => (match i.dsc with
      | .array n e => (match tt e with
        | some ie => fillVC (fun j => some (j * ie.size, ie.size)) i.zero (ps.toList.map fun p => (p.1, ev env p.2)) (AggW mem nx K)
        | none => False)
      | .struct fs => fillVC (fun j => (fs[j]?).map fun p => (p.1, p.2.2)) i.zero (ps.toList.map fun p => (p.1, ev env p.2)) (AggW mem nx K)
      | _ => False)
    | none => False)
  | .load t x => (match tt t with
    | some i => loadVC mem i (ev env x) fun v => K v mem nx
    | none => False)
  | .nilCheck x => (match ev env x with
    | .ptr l g i => K (.ptr l g i) mem nx
    | .rptr l A i => A.isSome = true ∧ K (.rptr l A i) mem nx
    | _ => False)
  | .binOp op t x y _ => (match ev env x, ev env y with
    | .a8 xs, .a8 ys => (match tt t with
      | some i => (match i.dsc with
        | .array n e => ((tt e).map TI.dsc = some (.int .u8) ∧ xs.length = n ∧ ys.length = n) ∧ (match op with
          | .eql => K (.bool (decide (xs = ys))) mem nx
          | .neq => K (.bool (!decide (xs = ys))) mem nx
          | _ => False)
        | _ => False)
      | none => False)
    | .a32 xs, .a32 ys => (match tt t with
      | some i => (match i.dsc with
        | .array n e => ((tt e).map TI.dsc = some (.int .u32) ∧ xs.length = n ∧ ys.length = n) ∧ (match op with
          | .eql => K (.bool (decide (xs = ys))) mem nx
          | .neq => K (.bool (!decide (xs = ys))) mem nx
          | _ => False)
        | _ => False)
      | none => False)
    | .a64 xs, .a64 ys => (match tt t with
      | some i => (match i.dsc with
        | .array n e => ((tt e).map TI.dsc = some (.int .u64) ∧ xs.length = n ∧ ys.length = n) ∧ (match op with
          | .eql => K (.bool (decide (xs = ys))) mem nx
          | .neq => K (.bool (!decide (xs = ys))) mem nx
          | _ => False)
        | .struct fs => (strU tt 0 fs xs.length = true ∧ ys.length = xs.length) ∧ (match op with
          | .eql => K (.bool (decide (xs = ys))) mem nx
          | .neq => K (.bool (!decide (xs = ys))) mem nx
          | _ => False)
        | _ => False)
      | none => False)
    | .bool a, .bool b => (tt t).map TI.dsc = some .bool ∧ (match op with
      | .eql => K (.bool (a == b)) mem nx
      | .neq => K (.bool (a != b)) mem nx
      | _ => False)
    | u, v => binT (wrapT (tt t)) op u v fun v => K v mem nx)
  | .unOp op _ x => unVC op (ev env x) fun v => K v mem nx
  | .convert s d x => (match tt s, tt d with
    | some si, some di => (match si.dsc, di.dsc with
      | .int _, .int k => cvVC k (ev env x) fun v => K v mem nx
      | .slice e, .string => (tt e).map TI.dsc = some (.int .u8) ∧ rdVC mem (.c8 []) (ev env x) fun cs => (match cs with
        | .c8 bs => K (.str bs) mem nx
        | _ => False)
      | _, _ => False)
    | _, _ => False)
  | .sliceToArrayPointer t x => (match tt t with
    | some i => (match i.dsc with
      | .array n e => (match ev env x with
        | .ros l A m c => (match getA mem l with
          | some (.ro A' c' cs) => (A' = A ∧ cs.len = m ∧ n ≤ m ∧ 0 < n) ∧ K (.rptr l A 0) mem nx
          | _ => False)
        | .slc l g off len cap => n ≤ len ∧ K (.ptr l g off) mem nx
        | _ => False)
      | _ => False)
    | none => False)
  | .fieldAddr t x f => (match tt t with
    | some i => (match i.dsc with
      | .struct fs => (match fs[f]? with
        | some (o, ft, sz) => (match ev env x with
          | .ptr l g j => (tt ft).map TI.size = some sz ∧ sz ≠ 0 ∧ K (.ptr l g (j + o)) mem nx
          | _ => False)
        | none => False)
      | _ => False)
    | none => False)
  | .field t x f => (match tt t with
    | some i => (match i.dsc with
      | .struct fs => (match fs[f]? with
        | some (o, ft, sz) => (match tt ft, ev env x with
          | some fi, .a64 xs => pickC fi (.c64 xs) o fun v => K v mem nx
          | some fi, .av xs => pickC fi (.cv xs) o fun v => K v mem nx
          | _, _ => False)
        | none => False)
      | _ => False)
    | none => False)
  | .indexAddr t x ix => (match tt t, ev env ix with
    | some i, .int n => (match i.dsc, ev env x with
      | .array m e, .ptr l g j => (tt e).map TI.size = some 1 ∧ (0 ≤ n ∧ n < m) ∧ K (.ptr l g (j + n.toNat)) mem nx
      | .slice e, .slc l g off len cap => (tt e).map TI.size = some 1 ∧ (0 ≤ n ∧ n < len) ∧ K (.ptr l g (off + n.toNat)) mem nx
      | .slice e, .ros l A len c => (tt e).map TI.size = some 1 ∧ (0 ≤ n ∧ n < len) ∧ (match getA mem l with
        | some (.ro A' c' cs) => (A' = A ∧ c' = c ∧ cs.len = len) ∧ K (.rptr l A n.toNat) mem nx
        | _ => False)
      | .slice e, .grow l v len => (tt e).map TI.size = some 1 ∧ (0 ≤ n ∧ n < len) ∧ (match getA mem l with
        | some (.row v' e' cs) => (v' = v ∧ cs.len = len) ∧ K (.rptr l (baseV v) n.toNat) mem nx
        | _ => False)
      | _, _ => False)
    | _, _ => False)
  | .index t x ix => (match tt t, ev env ix with
    | some i, .int n => (match i.dsc with
      | .array m e => (tt e).map TI.size = some 1 ∧ (tt e).map (fun j => j.dsc.agg) = some false ∧ (0 ≤ n ∧ n < m) ∧ (match ev env x with
        | .a8 xs => n.toNat < xs.length ∧ K (.u8 (g8 xs n.toNat)) mem nx
        | .a32 xs => n.toNat < xs.length ∧ K (.u32 (g32 xs n.toNat)) mem nx
        | .a64 xs => n.toNat < xs.length ∧ K (.u64 (g64 xs n.toNat)) mem nx
        | _ => False)
      | _ => False)
    | _, _ => False)
  | .extract x i => (match ev env x with
    | .tup xs => (match xs[i]? with
      | some v => v.good = true ∧ K v mem nx
      | none => False)
    | _ => False)
  | .slice t x lo hi mx => sliceVC tt mem nx t (ev env x) (lo.map (ev env)) (hi.map (ev env)) (mx.map (ev env)) K
  | .call c => (match c.callee with
    | .builtin b => bltVC tt mem nx b (c.args.toList.map (ev env)) c.argTypes.toList K
    | _ => False)
  | _ => False
end Go.Proofs.Ytjleiifcigojoaa
