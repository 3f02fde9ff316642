/- Values told without a world, and what of a world such values speak of: blocks of the call's own, slices that are read, rows that grow. For any program. -/
import Derived.Test.YtjleiifcigojoaaLaw
namespace Go.Proofs.Ytjleiifcigojoaa
open Go Go.RowKit
set_option linter.unusedVariables false
set_option linter.unusedSimpArgs false

inductive AV where
  | bad
  | u8 (x : U8) | u32 (x : U32) | u64 (x : U64) | int (n : Int) | bool (b : Bool) | str (bs : List U8)
  | ptr (l g i : Nat)
  | rptr (l : Nat) (A : Option Addr) (i : Nat)
  | slc (l g off len cap : Nat)
  | ros (l : Nat) (A : Option Addr) (n c : Nat)
  | grow (l : Nat) (v : Value) (n : Nat)
  | nils | nilp
  | a8 (xs : List U8) | a32 (xs : List U32) | a64 (xs : List U64)
  | av (xs : List AV) | tup (xs : List AV)
  | raw (v : Value)
mutual
def AV.conc : AV → Value
  | .bad => undef
  | .u8 x => .int .u8 (i8 x)
  | .u32 x => .int .u32 (i32 x)
  | .u64 x => .int .u64 (i64 x)
  | .int n => .int .i64 n
  | .bool b => .bool b
  | .str bs => .string (strF bs)
  | .ptr _ g i => .pointer (some ⟨g, i, none⟩)
  | .rptr _ A i => .pointer (A.map (·.add i))
  | .slc _ g off len cap => .slice (some ⟨g, off, none⟩) len cap
  | .ros _ A n c => .slice A n c
  | .grow _ v _ => v
  | .nils => .slice none 0 0
  | .nilp => .pointer none
  | .a8 xs => .agg (cs8 xs)
  | .a32 xs => .agg (cs32 xs)
  | .a64 xs => .agg (cs64 xs)
  | .av xs => .agg (AV.concs xs).toArray
  | .tup xs => .tuple (AV.concs xs).toArray
  | .raw v => v
def AV.concs : List AV → List Value
  | [] => []
  | x :: r => x.conc :: AV.concs r
end
theorem concs_map : ∀ xs : List AV, AV.concs xs = xs.map AV.conc
  | [] => rfl
  | x :: r => by rw [AV.concs, concs_map r]; rfl
/-- Of 'bad' nothing is said. -/
def AV.is (v : AV) (V : Value) : Prop := v = .bad ∨ V = v.conc
theorem AV.is_refl (v : AV) : v.is v.conc := .inr rfl
/-- Does it take one cell? -/
def AV.one : AV → Bool
  | .bad | .a8 _ | .a32 _ | .a64 _ | .av _ | .tup _ | .raw _ | .grow .. => false
  | _ => true
theorem AV.one_ok (v : AV) (h : v.one = true) : v.conc.oneCell' = true := by
  cases v <;> simp [AV.one] at h <;> rfl

inductive Cells where
  | c8 (xs : List U8) | c32 (xs : List U32) | c64 (xs : List U64) | cv (xs : List AV)
def Cells.vals : Cells → List Value
  | .c8 xs => xs.map v8
  | .c32 xs => xs.map v32
  | .c64 xs => xs.map v64
  | .cv xs => xs.map AV.conc
def Cells.len : Cells → Nat
  | .c8 xs => xs.length
  | .c32 xs => xs.length
  | .c64 xs => xs.length
  | .cv xs => xs.length
def Cells.ones : Cells → Bool
  | .cv xs => xs.all AV.one
  | _ => true
def Cells.get : Cells → Nat → AV
  | .c8 xs, i => .u8 (g8 xs i)
  | .c32 xs, i => .u32 (g32 xs i)
  | .c64 xs, i => .u64 (g64 xs i)
  | .cv xs, i => xs.getD i .bad
/-- A part, as an aggregate. -/
def Cells.sub : Cells → Nat → Nat → AV
  | .c8 xs, i, n => .a8 ((xs.drop i).take n)
  | .c32 xs, i, n => .a32 ((xs.drop i).take n)
  | .c64 xs, i, n => .a64 ((xs.drop i).take n)
  | .cv xs, i, n => .av ((xs.drop i).take n)
def Cells.part : Cells → Nat → Nat → Cells
  | .c8 xs, i, n => .c8 ((xs.drop i).take n)
  | .c32 xs, i, n => .c32 ((xs.drop i).take n)
  | .c64 xs, i, n => .c64 ((xs.drop i).take n)
  | .cv xs, i, n => .cv ((xs.drop i).take n)
def Cells.agg : Cells → AV
  | .c8 xs => .a8 xs
  | .c32 xs => .a32 xs
  | .c64 xs => .a64 xs
  | .cv xs => .av xs
def AV.cells : AV → Option Cells
  | .a8 xs => some (.c8 xs)
  | .a32 xs => some (.c32 xs)
  | .a64 xs => some (.c64 xs)
  | .av xs => some (.cv xs)
  | .u8 x => some (.c8 [x])
  | .u32 x => some (.c32 [x])
  | .u64 x => some (.c64 [x])
  | .bad | .tup _ | .raw _ | .grow .. => none
  | v => some (.cv [v])
/-- The cells with others put in from i on. -/
def Cells.upd : Cells → Nat → Cells → Option Cells
  | .c8 xs, i, .c8 ys => some (.c8 (xs.take i ++ ys ++ xs.drop (i + ys.length)))
  | .c32 xs, i, .c32 ys => some (.c32 (xs.take i ++ ys ++ xs.drop (i + ys.length)))
  | .c64 xs, i, .c64 ys => some (.c64 (xs.take i ++ ys ++ xs.drop (i + ys.length)))
  | .cv xs, i, .cv ys => if ys.all AV.one then some (.cv (xs.take i ++ ys ++ xs.drop (i + ys.length))) else none
  | _, _, _ => none
def Cells.set : Cells → Nat → AV → Option Cells
  | .c8 xs, i, .u8 x => some (.c8 (xs.set i x))
  | .c32 xs, i, .u32 x => some (.c32 (xs.set i x))
  | .c64 xs, i, .u64 x => some (.c64 (xs.set i x))
  | .cv xs, i, x => if x.one then some (.cv (xs.set i x)) else none
  | _, _, _ => none
def Cells.cat : Cells → Cells → Option Cells
  | .c8 xs, .c8 ys => some (.c8 (xs ++ ys))
  | .c32 xs, .c32 ys => some (.c32 (xs ++ ys))
  | .c64 xs, .c64 ys => some (.c64 (xs ++ ys))
  | .cv xs, .cv ys => if ys.all AV.one then some (.cv (xs ++ ys)) else none
  | _, _ => none
theorem Cells.vals_length (c : Cells) : c.vals.length = c.len := by cases c <;> simp [vals, len]
theorem Cells.vals_get (c : Cells) (i : Nat) (h : i < c.len) : (c.get i).is (c.vals.getD i undef) ∧ c.vals[i]? = some (c.vals.getD i undef) := by
  have h2 : i < c.vals.length := by rw [vals_length]; exact h
  refine ⟨?_, by simp [h2]⟩
  cases c <;> simp only [len] at h <;> right <;> simp [vals, get, AV.conc, g8, g32, g64, v8, v32, v64, h]
theorem Cells.vals_part (c : Cells) (i n : Nat) : (c.part i n).vals = (c.vals.drop i).take n := by
  cases c <;> simp [part, vals, List.map_take, List.map_drop]
theorem Cells.part_len (c : Cells) (i n : Nat) : (c.part i n).len = min n (c.len - i) := by
  cases c <;> simp [part, len]
theorem Cells.sub_eq (c : Cells) (i n : Nat) : c.sub i n = (c.part i n).agg := by cases c <;> rfl
theorem Cells.agg_conc (c : Cells) : c.agg.conc = .agg c.vals.toArray := by
  cases c <;> simp [agg, AV.conc, vals, cs8, cs32, cs64, concs_map]
theorem Cells.ones_ok (c : Cells) (h : c.ones = true) : ∀ v ∈ c.vals, v.oneCell' = true := by
  intro v hv
  cases c with
  | c8 xs => obtain ⟨x, _, rfl⟩ := List.mem_map.1 hv; rfl
  | c32 xs => obtain ⟨x, _, rfl⟩ := List.mem_map.1 hv; rfl
  | c64 xs => obtain ⟨x, _, rfl⟩ := List.mem_map.1 hv; rfl
  | cv xs =>
    obtain ⟨x, hx, rfl⟩ := List.mem_map.1 hv
    exact AV.one_ok x ((List.all_eq_true.1 h) x hx)
theorem AV.cells_ok (v : AV) (c : Cells) (h : v.cells = some c) (V : Value) (hV : v.is V) : V.cells = c.vals.toArray := by
  rcases hV with rfl | rfl
  · cases h
  · cases v <;> simp only [AV.cells, Option.some.injEq, reduceCtorEq] at h <;> subst h <;> simp [AV.conc, Value.cells, Cells.vals, cs8, cs32, cs64, v8, v32, v64, concs_map]
theorem Cells.set_ok (c : Cells) (i : Nat) (v : AV) (c' : Cells) (h : c.set i v = some c') : c'.vals = c.vals.set i v.conc ∧ c'.len = c.len ∧ v.conc.oneCell' = true ∧ v ≠ .bad := by
  cases c <;> cases v <;> simp only [set, Option.some.injEq, reduceCtorEq] at h <;> first
    | (subst h; exact ⟨by simp [vals, List.map_set, AV.conc, v8, v32, v64], by simp [len], rfl, by simp⟩)
    | (split at h
       · rename_i h1
         injection h with h; subst h
         exact ⟨by simp [vals, List.map_set], by simp [len], AV.one_ok _ h1, by intro e; rw [e] at h1; cases h1⟩
       · cases h)
theorem Cells.upd_ok (c : Cells) (i : Nat) (d c' : Cells) (h : c.upd i d = some c') (hi : i + d.len ≤ c.len) : c'.vals = c.vals.take i ++ d.vals ++ c.vals.drop (i + d.vals.length) ∧ c'.len = c.len := by
  cases c <;> cases d <;> simp only [upd, Option.some.injEq, reduceCtorEq, Option.ite_none_right_eq_some] at h <;> (try replace h := h.2) <;> (try simp only [Option.some.injEq] at h) <;> subst h <;> simp only [len] at hi <;>
    exact ⟨by simp [vals, List.map_take, List.map_drop], by simp [len]; omega⟩
theorem Cells.upd_ones (c : Cells) (i : Nat) (d c' : Cells) (h : c.upd i d = some c') (h1 : c.ones = true) : c'.ones = true := by
  cases c <;> cases d <;> simp only [upd, Option.some.injEq, reduceCtorEq, Option.ite_none_right_eq_some] at h <;> first
    | (subst h; rfl)
    | (obtain ⟨h2, h⟩ := h
       (try simp only [Option.some.injEq] at h)
       subst h
       simp only [ones, List.all_eq_true, List.mem_append] at h1 h2 ⊢
       rintro x ((hx | hx) | hx)
       · exact h1 x (List.mem_of_mem_take hx)
       · exact h2 x hx
       · exact h1 x (List.mem_of_mem_drop hx))
theorem Cells.cat_ones (c d c' : Cells) (h : c.cat d = some c') (h1 : c.ones = true) : c'.ones = true := by
  cases c <;> cases d <;> simp only [cat, Option.some.injEq, reduceCtorEq, Option.ite_none_right_eq_some] at h <;> first
    | (subst h; rfl)
    | (obtain ⟨h2, h⟩ := h
       (try simp only [Option.some.injEq] at h)
       subst h
       simp only [ones, List.all_eq_true, List.mem_append] at h1 h2 ⊢
       rintro x (hx | hx)
       · exact h1 x hx
       · exact h2 x hx)
theorem Cells.set_ones (c : Cells) (i : Nat) (v : AV) (c' : Cells) (h : c.set i v = some c') (h1 : c.ones = true) : c'.ones = true := by
  cases c <;> cases v <;> simp only [set, Option.some.injEq, reduceCtorEq] at h <;> first
    | (subst h; rfl)
    | (split at h
       · rename_i ho1
         injection h with h
         subst h
         simp only [ones, List.all_eq_true] at h1 ⊢
         intro x hx
         rcases List.mem_or_eq_of_mem_set hx with hx | rfl
         · exact h1 x hx
         · exact ho1
       · cases h)
theorem Cells.cat_ok (c d c' : Cells) (h : c.cat d = some c') : c'.vals = c.vals ++ d.vals ∧ c'.len = c.len + d.len := by
  cases c <;> cases d <;> simp only [cat, Option.some.injEq, reduceCtorEq, Option.ite_none_right_eq_some] at h <;> (try replace h := h.2) <;> (try simp only [Option.some.injEq] at h) <;> subst h <;> exact ⟨by simp [vals], by simp [len]⟩

/-! ### What of a world is known -/
inductive ME where
  | own (g : Nat) (t : TypeId) (cs : Cells)
  | ro (A : Option Addr) (c : Nat) (cs : Cells)
  | row (v : Value) (e : TypeId) (cs : Cells)
  | fix (g : Nat) (o : Obj)
abbrev Mem := List (Nat × ME)
abbrev Env := List (Nat × AV)
def getA {α : Type} : List (Nat × α) → Nat → Option α
  | [], _ => none
  | (d, v) :: r, k => if d = k then some v else getA r k
def setA {α : Type} : List (Nat × α) → Nat → α → List (Nat × α)
  | [], _, _ => []
  | (d, v) :: r, k, e => if d = k then (d, e) :: r else (d, v) :: setA r k e
def delA {α : Type} : List (Nat × α) → Nat → List (Nat × α)
  | [], _ => []
  | (d, v) :: r, k => if d = k then delA r k else (d, v) :: delA r k
theorem getA_setA {α : Type} (m : List (Nat × α)) (k : Nat) (e : α) (j : Nat) : getA (setA m k e) j = if j = k then (getA m k).map (fun _ => e) else getA m j := by
  induction m with
  | nil => simp [setA, getA]
  | cons p r ih =>
    obtain ⟨d, v⟩ := p
    simp only [setA]
    by_cases hd : d = k
    · subst hd
      by_cases hj : j = d
      · subst hj; simp [getA]
      · simp [getA, hj, Ne.symm hj]
    · simp only [hd, if_false, getA, ih]
      by_cases hj : j = k
      · subst hj; simp [hd]
      · simp only [hj, if_false]
theorem getA_delA {α : Type} (m : List (Nat × α)) (k : Nat) (j : Nat) : getA (delA m k) j = if j = k then none else getA m j := by
  induction m with
  | nil => simp [delA, getA]
  | cons p r ih =>
    obtain ⟨d, v⟩ := p
    simp only [delA]
    by_cases hd : d = k
    · subst hd
      simp only [if_true, ih]
      by_cases hj : j = d
      · simp [hj]
      · simp [getA, hj, Ne.symm hj]
    · simp only [hd, if_false, getA, ih]
      by_cases hj : j = k
      · subst hj; simp [hd]
      · simp [hj]
def blkA : Option Addr → Option Nat
  | some a => some a.block
  | none => none
def blkV : Value → Option Nat
  | .slice (some a) _ _ => some a.block
  | _ => none
def ME.blk : ME → Option Nat
  | .own g _ _ => some g
  | .ro A _ _ => blkA A
  | .row v _ _ => blkV v
  | .fix g _ => some g
/-- Is it written to? -/
def ME.mine : ME → Bool
  | .ro .. => false
  | .fix .. => false
  | _ => true
def MEok (pv : Nat → Prop) (w0 W : World) : ME → Prop
  | .own g t cs => Own W g t cs.vals.toArray ∧ w0.heap.size ≤ g ∧ cs.ones = true
  | .ro A c cs => Sl id W A cs.vals ∧ cs.len ≤ c ∧ (∀ k, blkA A = some k → k < W.heap.size ∧ (w0.heap.size ≤ k ∨ pv k))
  | .row v e cs => W.ownsRow w0.heap.size e 1 v cs.len cs.vals ∧ cs.ones = true
  | .fix g o => W.heap[g]? = some o ∧ w0.heap.size ≤ g
structure MRel (pv : Nat → Prop) (w0 : World) (m : Mem) (W : World) : Prop where
  below : Below w0.heap.size w0 W
  ok : ∀ l e, getA m l = some e → MEok pv w0 W e
  sep : ∀ l e l' e', getA m l = some e → getA m l' = some e' → l ≠ l' → e.mine = true → ∀ k, e.blk = some k → e'.blk ≠ some k
theorem MEok.blk_lt {pv : Nat → Prop} {w0 W : World} {e : ME} (h : MEok pv w0 W e) : ∀ k, e.blk = some k → k < W.heap.size := by
  intro k hk
  cases e with
  | own g t cs => injection hk with hk; subst hk; exact h.1.lt
  | fix g o => injection hk with hk; subst hk; exact (Array.getElem?_eq_some_iff.1 h.1).1
  | ro A c cs => exact (h.2.2 k hk).1
  | row v e cs =>
    rcases h.1.2 with ⟨rfl, _⟩ | ⟨g, cap, cur, rfl, _, hg, _⟩
    · cases hk
    · injection hk with hk; subst hk; exact (Array.getElem?_eq_some_iff.1 hg).1
theorem MEok.prov {pv : Nat → Prop} {w0 W : World} {e : ME} (h : MEok pv w0 W e) : ∀ k, e.blk = some k → w0.heap.size ≤ k ∨ pv k := by
  intro k hk
  cases e with
  | own g t cs => injection hk with hk; subst hk; exact .inl h.2.1
  | fix g o => injection hk with hk; subst hk; exact .inl h.2
  | ro A c cs => exact (h.2.2 k hk).2
  | row v e cs =>
    rcases h.1.2 with ⟨rfl, _⟩ | ⟨g, cap, cur, rfl, hg0, _⟩
    · cases hk
    · injection hk with hk; subst hk; exact .inl hg0
/-- No blocks but those of the others. -/
def NoNew (mem m : Mem) : Prop := ∀ l e k, getA m l = some e → e.blk = some k → ∃ l0 e0, getA mem l0 = some e0 ∧ e0.blk = some k
/-- No blocks but those of the others and such as were made since. -/
def Near (mem m : Mem) (B : Nat) : Prop := ∀ l e k, getA m l = some e → e.blk = some k → (∃ l0 e0, getA mem l0 = some e0 ∧ e0.blk = some k) ∨ B ≤ k
def blkOf (mem : Mem) (k : Nat) : Prop := ∃ l e, getA mem l = some e ∧ e.blk = some k
/-- All but these blocks are as they were. -/
def Frm (mem : Mem) (W W' : World) : Prop := W.heap.size ≤ W'.heap.size ∧ ∀ k, k < W.heap.size → ¬ blkOf mem k → W'.heap[k]? = W.heap[k]?
theorem Frm.of_below (mem : Mem) {W W' : World} (h : Below W.heap.size W W') : Frm mem W W' := ⟨h.size, fun k hk _ => h.block k hk⟩
theorem Frm.row {mem : Mem} {W : World} {l g : Nat} {e : ME} (he : getA mem l = some e) (hb : e.blk = some g) (cs : Array Value) : Frm mem W (W.setRow g cs) :=
  ⟨by simp, fun k hk hn => setRow_other W g k cs fun e2 => hn ⟨l, e, he, by rw [hb, e2]⟩⟩
theorem Near.set {mem : Mem} {l : Nat} {e e1 : ME} (he : getA mem l = some e) (hb : e1.blk = e.blk) (B : Nat) : Near mem (setA mem l e1) B := fun k d b hd hk => by
  rw [getA_setA] at hd
  split at hd
  · rw [he] at hd; injection hd with hd; subst hd; exact .inl ⟨l, e, he, by rw [← hb]; exact hk⟩
  · exact .inl ⟨k, d, hd, hk⟩
theorem Near.setOwn {mem : Mem} {l g : Nat} {t t' : TypeId} {cs cs' : Cells} {B : Nat} (he : getA mem l = some (.own g t cs)) : Near mem (setA mem l (.own g t' cs')) B := Near.set he (by rfl) B
theorem Near.put {mem : Mem} {l n B : Nat} {e1 : ME} (h1 : ∀ k, e1.blk = some k → blkOf mem k ∨ B ≤ k) : Near mem ((n, e1) :: delA mem l) B := fun k d b hd hk => by
  simp only [getA] at hd
  split at hd
  · injection hd with hd; subst hd; exact h1 b hk
  · rw [getA_delA] at hd
    split at hd
    · cases hd
    · exact .inl ⟨k, d, hd, hk⟩
theorem Near.cons {mem : Mem} {n B : Nat} {e1 : ME} (h1 : ∀ k, e1.blk = some k → blkOf mem k ∨ B ≤ k) : Near mem ((n, e1) :: mem) B := fun k d b hd hk => by
  simp only [getA] at hd
  split at hd
  · injection hd with hd; subst hd; exact h1 b hk
  · exact .inl ⟨k, d, hd, hk⟩
theorem NoNew.refl (m : Mem) : NoNew m m := fun l e k h1 h2 => ⟨l, e, h1, h2⟩
theorem NoNew.near {mem m : Mem} (h : NoNew mem m) (B : Nat) : Near mem m B := fun l e k h1 h2 => .inl (h l e k h1 h2)
/-- A world that differs at most in blocks that this entry does not speak of. -/
theorem MEok.keep {pv : Nat → Prop} {w0 W W' : World} {e : ME} (h : MEok pv w0 W e) (hs : W.heap.size ≤ W'.heap.size) (hb : ∀ k, e.blk = some k → W'.heap[k]? = W.heap[k]?) : MEok pv w0 W' e := by
  cases e with
  | own g t cs => exact ⟨(hb g rfl).trans h.1, h.2⟩
  | fix g o => exact ⟨(hb g rfl).trans h.1, h.2⟩
  | ro A c cs =>
    refine ⟨⟨h.1.1, fun i x hx => ?_⟩, h.2.1, fun k hk => ⟨Nat.lt_of_lt_of_le (h.2.2 k hk).1 hs, (h.2.2 k hk).2⟩⟩
    obtain ⟨b, o, rfl, hc⟩ := h.1.2 i x hx
    exact ⟨b, o, rfl, (World.cell?_of_block (w := W) (w' := W') (a := ⟨b, o + i, none⟩) (hb b rfl)).trans hc⟩
  | row v e cs =>
    refine ⟨⟨h.1.1, ?_⟩, h.2⟩
    rcases h.1.2 with hn | ⟨g, cap, cur, rfl, hg0, hg, hrest⟩
    · exact .inl hn
    · exact .inr ⟨g, cap, cur, rfl, hg0, (hb g rfl).trans hg, hrest⟩
section
variable {pv : Nat → Prop} {w0 W W' : World} {m m' : Mem}
theorem MRel.size (h : MRel pv w0 m W) : w0.heap.size ≤ W.heap.size := h.below.size
theorem MRel.down (h : MRel pv w0 m W) (hb : Below W.heap.size W W') : MRel pv w0 m W' where
  below := h.below.trans (hb.mono h.below.size)
  ok := fun l e he => (h.ok l e he).keep hb.size fun k hk => hb.block k ((h.ok l e he).blk_lt k hk)
  sep := h.sep
/-- Less is known. -/
theorem MRel.less (h : MRel pv w0 m W) (hm : ∀ l e, getA m' l = some e → getA m l = some e) : MRel pv w0 m' W where
  below := h.below
  ok := fun l e he => h.ok l e (hm l e he)
  sep := fun l e l' e' he he' => h.sep l e l' e' (hm l e he) (hm l' e' he')
theorem MRel.drop (h : MRel pv w0 m W) (l : Nat) : MRel pv w0 (delA m l) W := h.less fun k e hk => by
  rw [getA_delA] at hk
  split at hk
  · cases hk
  · exact hk
/-- One more entry, of a block that none of the others has, or that is only read. -/
theorem MRel.add (h : MRel pv w0 m W) (l : Nat) (e : ME) (he : MEok pv w0 W e) (hs : ∀ l' e', getA m l' = some e' → (e.mine = true ∨ e'.mine = true) → ∀ k, e.blk = some k → e'.blk ≠ some k) : MRel pv w0 ((l, e) :: m) W where
  below := h.below
  ok := fun k d hd => by
    simp only [getA] at hd
    split at hd
    · injection hd with hd; subst hd; exact he
    · exact h.ok k d hd
  sep := fun k d k' d' hd hd' hne hm b hb hb' => by
    simp only [getA] at hd hd'
    split at hd <;> split at hd'
    · omega
    · injection hd with hd; subst hd; exact hs k' d' hd' (.inl hm) b hb hb'
    · injection hd' with hd'; subst hd'; exact hs k d hd (.inr hm) b hb' hb
    · exact h.sep k d k' d' hd hd' hne hm b hb hb'
/-- An entry turned into one of the same block. -/
theorem MRel.turn (h : MRel pv w0 m W) (l : Nat) (e e1 : ME) (he : getA m l = some e) (hb : Below w0.heap.size w0 W') (he1 : MEok pv w0 W' e1) (hblk : e1.blk = e.blk ∨ (∀ k, e1.blk = some k → W.heap.size ≤ k)) (hm : e1.mine = true → e.mine = true) (hmine : e.mine = true)
    (hs : W.heap.size ≤ W'.heap.size) (hk : ∀ k, k < W.heap.size → e.blk ≠ some k → W'.heap[k]? = W.heap[k]?) : MRel pv w0 (setA m l e1) W' where
  below := hb
  ok := fun k d hd => by
    rw [getA_setA] at hd
    split at hd
    · rw [he] at hd; injection hd with hd; subst hd; exact he1
    · rename_i hne
      exact (h.ok k d hd).keep hs fun b hb => hk b ((h.ok k d hd).blk_lt b hb) fun h2 => h.sep l e k d he hd (Ne.symm hne) hmine b h2 hb
  sep := fun k d k' d' hd hd' hne hmi b hb hb' => by
    rw [getA_setA] at hd hd'
    split at hd <;> split at hd'
    · omega
    · rename_i hkl hkl'
      rw [he] at hd; injection hd with hd; subst hd
      rcases hblk with hblk | hblk
      · exact h.sep l e k' d' he hd' (Ne.symm hkl') hmine b (hblk ▸ hb) hb'
      · have := (h.ok k' d' hd').blk_lt b hb'
        have := hblk b hb
        omega
    · rename_i hkl hkl'
      rw [he] at hd'; injection hd' with hd'; subst hd'
      rcases hblk with hblk | hblk
      · exact h.sep l e k d he hd (Ne.symm hkl) hmine b (hblk ▸ hb') hb
      · have := (h.ok k d hd).blk_lt b hb
        have := hblk b hb'
        omega
    · exact h.sep k d k' d' hd hd' hne hmi b hb hb'
/-- A block that is made. -/
theorem MRel.alloc (h : MRel pv w0 m W) (l : Nat) (t : TypeId) (cs : Cells) (h1 : cs.ones = true) : MRel pv w0 ((l, .own W.heap.size t cs) :: m) (W.alloc (.cells cs.vals.toArray t)) := by
  have hd : MRel pv w0 m (W.alloc (.cells cs.vals.toArray t)) := h.down ((Below.refl _ W).alloc (Nat.le_refl _) _)
  refine hd.add l _ ⟨Own.new W t _, h.size, h1⟩ fun l' e' he' _ k hk hk' => ?_
  have := (h.ok l' e' he').blk_lt k hk'
  injection hk with hk
  omega
/-- A block's cells turned. -/
theorem MRel.write (h : MRel pv w0 m W) {l g : Nat} {t : TypeId} {cs cs' : Cells} (he : getA m l = some (.own g t cs)) (h1 : cs'.ones = true) : MRel pv w0 (setA m l (.own g t cs')) (W.setRow g cs'.vals.toArray) := by
  obtain ⟨ho, hg, _⟩ := h.ok l _ he
  exact h.turn l _ _ he (below_row h.below hg _) ⟨ho.row _, hg, h1⟩ (.inl rfl) (fun _ => rfl) rfl (by simp) fun k _ hne => setRow_other W g k _ (fun e => hne (by rw [e]; rfl))
theorem MRel.drew (h : MRel pv w0 m W) : MRel pv w0 m W.drew := ⟨h.below.drew, h.ok, h.sep⟩
theorem MRel.fresh (pv : Nat → Prop) (w0 : World) : MRel pv w0 [] w0 := ⟨Below.refl _ _, fun _ _ h => (by cases h), fun _ _ _ _ h => (by cases h)⟩
end
end Go.Proofs.Ytjleiifcigojoaa
