/- The hashes' engines: what they stand for. Plain laws; no program in sight. -/
import Derived.Test.YtlcaobnojbkmbaaG5
namespace Go.Proofs.Ytlcaobnojbkmbaa
open Go Go.RowKit
set_option linter.unusedVariables false
set_option linter.unusedSimpArgs false
def sizeF (alg : Int) : Int := if alg = 2 then 20 else if alg = 11 then 28 else if alg = 8 then 32 else if alg = 9 then 48 else if alg = 10 then 64 else 0
def hashOf (alg : Int) (b : List U8) : List U8 :=
  if alg = 2 then sumF b else if alg = 11 then (H7.sumF false b).take 28 else if alg = 8 then H7.sumF true b else if alg = 9 then (H8.sumF false b).take 48 else if alg = 10 then H8.sumF true b else []
theorem hashOf_length (alg : Int) (b : List U8) : ((hashOf alg b).length : Int) = sizeF alg := by
  unfold hashOf sizeF
  split
  · rw [sumF_length]; rfl
  split
  · rw [List.length_take, H7.sumF_length]; rfl
  split
  · rw [H7.sumF_length]; rfl
  split
  · rw [List.length_take, H8.sumF_length]; rfl
  split
  · rw [H8.sumF_length]; rfl
  · rfl
theorem hashOf2 (p : List U8) : hashOf 2 p = sumF p := by simp [hashOf]
theorem hashOf11 (p : List U8) : hashOf 11 p = (H7.sumF (decide ((11 : Int) = 8)) p).take 28 := by simp [hashOf]
theorem hashOf8 (p : List U8) : hashOf 8 p = H7.sumF (decide ((8 : Int) = 8)) p := by simp [hashOf]
theorem hashOf9 (p : List U8) : hashOf 9 p = (H8.sumF (decide ((9 : Int) = 10)) p).take 48 := by simp [hashOf]
theorem hashOf10 (p : List U8) : hashOf 10 p = H8.sumF (decide ((10 : Int) = 10)) p := by simp [hashOf]
theorem take_outK7 (l : List U32) (n : Nat) (h : n ≤ 32) : (H7.outK l 32).take n = H7.outL l n := by
  rw [← H7.outK_all]
  unfold H7.outL
  rw [← List.map_take, List.take_range, Nat.min_eq_left h]
theorem take_outK8 (l : List U64) (n : Nat) (h : n ≤ 64) : (H8.outK l 64).take n = H8.outL l n := by
  rw [← H8.outK_all]
  unfold H8.outL
  rw [← List.map_take, List.take_range, Nat.min_eq_left h]
theorem len_mul (n : Nat) : BitVec.ofNat 64 n * 8#64 = BitVec.ofNat 64 (n * 8) := by
  apply BitVec.eq_of_toNat_eq; simp
theorem z8_0 : z8 0 = [] := rfl
theorem sum1_law (p : List U8) : outL1 (fdS blockF 64 (fdS blockF 64 startF p) (tlo5 (fdR 64 p) (BitVec.ofNat 64 p.length))).l 20 = sumF p := by
  have hz : zc ((fdR 64 p).length + 1) = zc (p.length + 1) := by rw [fdR_mod (by decide)]; unfold zc; omega
  have ht : tlo5 (fdR 64 p) (BitVec.ofNat 64 p.length) = fdR 64 p ++ ([128] ++ List.replicate (zc (p.length + 1)) 0 ++ lenB (BitVec.ofNat 64 (p.length * 8)) 8) := by
    unfold tlo5; rw [hz, len_mul, z8_0]; simp only [List.append_assoc, List.nil_append]
  have hp : padF p = p ++ ([128] ++ List.replicate (zc (p.length + 1)) 0 ++ lenB (BitVec.ofNat 64 (p.length * 8)) 8) := by unfold padF; simp only [List.append_assoc]
  rw [outL1_all, sumF, hashF, blocks1, hp, bks_tail (by decide), ht]
  rfl
theorem sum7_law (large : Bool) (p : List U8) (n : Nat) (hn : n ≤ 32) : H7.outL (fdS H7.blockF 64 (fdS H7.blockF 64 (H7.startF large) p) (tls8 (fdR 64 p) (BitVec.ofNat 64 p.length))).l n = (H7.sumF large p).take n := by
  have hz : H7.zc ((fdR 64 p).length + 1) = H7.zc (p.length + 1) := by rw [fdR_mod (by decide)]; unfold H7.zc; omega
  have ht : tls8 (fdR 64 p) (BitVec.ofNat 64 p.length) = fdR 64 p ++ ([128] ++ List.replicate (H7.zc (p.length + 1)) 0 ++ z8 0 ++ H7.lenB (BitVec.ofNat 64 (p.length * 8)) 8) := by
    unfold tls8; rw [hz, len_mul]; simp only [List.append_assoc]
  have hp : H7.padF p = p ++ ([128] ++ List.replicate (H7.zc (p.length + 1)) 0 ++ z8 0 ++ H7.lenB (BitVec.ofNat 64 (p.length * 8)) 8) := by unfold H7.padF; simp only [List.append_assoc]
  rw [H7.sumF, take_outK7 _ _ hn, H7.hashF, blocks7, hp, bks_tail (by decide), ht]
  rfl
theorem sum8_law (large : Bool) (p : List U8) (n : Nat) (hn : n ≤ 64) : H8.outL (fdS H8.blockF 128 (fdS H8.blockF 128 (H8.startF large) p) (tlw8 (fdR 128 p) (BitVec.ofNat 64 p.length))).l n = (H8.sumF large p).take n := by
  have hz : H8.zc ((fdR 128 p).length + 1) = H8.zc (p.length + 1) := by rw [fdR_mod (by decide)]; unfold H8.zc; omega
  have ht : tlw8 (fdR 128 p) (BitVec.ofNat 64 p.length) = fdR 128 p ++ ([128] ++ List.replicate (H8.zc (p.length + 1)) 0 ++ z8 8 ++ H8.lenB (BitVec.ofNat 64 (p.length * 8)) 8) := by
    unfold tlw8; rw [hz, len_mul]; simp only [List.append_assoc]
  have hp : H8.padF p = p ++ ([128] ++ List.replicate (H8.zc (p.length + 1)) 0 ++ z8 8 ++ H8.lenB (BitVec.ofNat 64 (p.length * 8)) 8) := by unfold H8.padF; simp only [List.append_assoc]
  rw [H8.sumF, take_outK8 _ _ hn, H8.hashF, blocks8, hp, bks_tail (by decide), ht]
  rfl
/-- An engine, of whatever kind. -/
inductive Eng where
  | o5 (v : V5) (rest : List U8) (cnt : U64) (A : Option Addr) (c : Nat)
  | s8 (v : H7.V8) (rest : List U8) (cnt : U64) (A : Option Addr) (c : Nat) (A4 : Option Addr) (c4 : Nat) (many : Int)
  | w8 (v : H8.V8) (rest : List U8) (cnt : U64) (A : Option Addr) (c : Nat) (A4 : Option Addr) (c4 : Nat) (many : Int)
def Eng.pt : Eng → Nat
  | .o5 .. => 62
  | .s8 .. => 70
  | .w8 .. => 75
/-- Its blocks, from l on. -/
def Eng.mem (l g : Nat) : Eng → Mem
  | .o5 v r n A c => Eo5 l g v r n A c
  | .s8 v r n A c A4 c4 many => Es8 l g v r n A c A4 c4 many
  | .w8 v r n A c A4 c4 many => Ew8 l g v r n A c A4 c4 many
def Eng.e0 (l g : Nat) : Eng → ME
  | .o5 v r n A c => .own g 69 (.m32 v.l [.ros (l + 1) A r.length c, .u64 n, .int 64, .int 8, .fnv 33 [], .fnv 35 []])
  | .s8 v r n A c A4 c4 many => .own g 74 (.m32 v.l [.ros (l + 1) A r.length c, .u64 n, .int 64, .int 8, .fnv 38 [], .fnv 40 [.rptr (l + 2) A4 0]])
  | .w8 v r n A c A4 c4 many => .own g 82 (.m64 v.l [.ros (l + 1) A r.length c, .u64 n, .int 128, .int 16, .fnv 42 [], .fnv 44 [.rptr (l + 2) A4 0]])
def Eng.e1 : Eng → ME
  | .o5 v r n A c => .ro A c (.c8 r)
  | .s8 v r n A c A4 c4 many => .ro A c (.c8 r)
  | .w8 v r n A c A4 c4 many => .ro A c (.c8 r)
def Eng.e2 : Eng → ME
  | .o5 v r n A c => .ro none 0 (.c8 [])
  | .s8 v r n A c A4 c4 many => .ro A4 c4 (.cv [.int many])
  | .w8 v r n A c A4 c4 many => .ro A4 c4 (.cv [.int many])
/-- A hash that goes on: its own block, and its engine's. -/
def HM (e : Eng) (gh g l : Nat) : Mem := [(l, .own gh 48 (.cv [.ifc e.pt (.ptr (l + 1) g 0)])), (l + 1, e.e0 (l + 1) g), (l + 2, e.e1), (l + 3, e.e2)]
/-- What it stands for: bytes that were written. -/
def Eng.Has : Eng → Int → List U8 → Prop
  | .o5 v r n _ _, alg, p => alg = 2 ∧ v = fdS blockF 64 startF p ∧ r = fdR 64 p ∧ n = BitVec.ofNat 64 p.length
  | .s8 v r n _ _ _ _ many, alg, p => (alg = 11 ∨ alg = 8) ∧ many = sizeF alg ∧ v = fdS H7.blockF 64 (H7.startF (decide (alg = 8))) p ∧ r = fdR 64 p ∧ n = BitVec.ofNat 64 p.length
  | .w8 v r n _ _ _ _ many, alg, p => (alg = 9 ∨ alg = 10) ∧ many = sizeF alg ∧ v = fdS H8.blockF 128 (H8.startF (decide (alg = 10))) p ∧ r = fdR 128 p ∧ n = BitVec.ofNat 64 p.length
theorem len_add (a b : List U8) : BitVec.ofNat 64 a.length + BitVec.ofInt 64 (b.length : Int) = BitVec.ofNat 64 (a ++ b).length := by
  apply BitVec.eq_of_toNat_eq; simp
theorem sum1_of {v : V5} {r : List U8} {n : U64} {A : Option Addr} {c : Nat} {alg : Int} {p : List U8} (h : (Eng.o5 v r n A c).Has alg p) : r.length < 64 ∧ outL1 (fdS blockF 64 v (tlo5 r n)).l 20 = hashOf alg p := by
  obtain ⟨rfl, rfl, rfl, rfl⟩ := h
  exact ⟨fdR_len _ (by decide) p, by rw [sum1_law, hashOf2]⟩
theorem sum7_of {v : H7.V8} {r : List U8} {n : U64} {A : Option Addr} {c : Nat} {A4 : Option Addr} {c4 : Nat} {many alg : Int} {p : List U8} (h : (Eng.s8 v r n A c A4 c4 many).Has alg p) :
    (r.length < 64 ∧ 0 ≤ many ∧ many ≤ 32) ∧ H7.outL (fdS H7.blockF 64 v (tls8 r n)).l many.toNat = hashOf alg p := by
  obtain ⟨ha, rfl, rfl, rfl, rfl⟩ := h
  rcases ha with rfl | rfl
  · exact ⟨⟨fdR_len _ (by decide) p, by decide, by decide⟩, by rw [show (sizeF 11).toNat = 28 from rfl, sum7_law _ _ _ (by decide), hashOf11]⟩
  · refine ⟨⟨fdR_len _ (by decide) p, by decide, by decide⟩, ?_⟩
    rw [show (sizeF 8).toNat = 32 from rfl, sum7_law _ _ _ (by decide), List.take_of_length_le (by rw [H7.sumF_length]; exact Nat.le_refl _), hashOf8]
theorem sum8_of {v : H8.V8} {r : List U8} {n : U64} {A : Option Addr} {c : Nat} {A4 : Option Addr} {c4 : Nat} {many alg : Int} {p : List U8} (h : (Eng.w8 v r n A c A4 c4 many).Has alg p) :
    (r.length < 128 ∧ 0 ≤ many ∧ many ≤ 64) ∧ H8.outL (fdS H8.blockF 128 v (tlw8 r n)).l many.toNat = hashOf alg p := by
  obtain ⟨ha, rfl, rfl, rfl, rfl⟩ := h
  rcases ha with rfl | rfl
  · exact ⟨⟨fdR_len _ (by decide) p, by decide, by decide⟩, by rw [show (sizeF 9).toNat = 48 from rfl, sum8_law _ _ _ (by decide), hashOf9]⟩
  · refine ⟨⟨fdR_len _ (by decide) p, by decide, by decide⟩, ?_⟩
    rw [show (sizeF 10).toNat = 64 from rfl, sum8_law _ _ _ (by decide), List.take_of_length_le (by rw [H8.sumF_length]; exact Nat.le_refl _), hashOf10]
theorem wr1_of {v : V5} {r : List U8} {n : U64} {A : Option Addr} {c : Nat} {alg : Int} {p : List U8} (b : List U8) (A1 : Option Addr) (c1 : Nat) (h : (Eng.o5 v r n A c).Has alg p) :
    (Eng.o5 (fdS blockF 64 v (r ++ b)) (fdR 64 (r ++ b)) (n + BitVec.ofInt 64 (b.length : Int)) A1 c1).Has alg (p ++ b) := by
  obtain ⟨rfl, rfl, rfl, rfl⟩ := h
  obtain ⟨h1, h2⟩ := fd_app (f := blockF) (n := 64) (by decide) startF p b
  exact ⟨rfl, h1, h2, len_add p b⟩
theorem wr7_of {v : H7.V8} {r : List U8} {n : U64} {A : Option Addr} {c : Nat} {A4 : Option Addr} {c4 : Nat} {many alg : Int} {p : List U8} (b : List U8) (A1 : Option Addr) (c1 : Nat) (h : (Eng.s8 v r n A c A4 c4 many).Has alg p) :
    (Eng.s8 (fdS H7.blockF 64 v (r ++ b)) (fdR 64 (r ++ b)) (n + BitVec.ofInt 64 (b.length : Int)) A1 c1 A4 c4 many).Has alg (p ++ b) := by
  obtain ⟨ha, rfl, rfl, rfl, rfl⟩ := h
  obtain ⟨h1, h2⟩ := fd_app (f := H7.blockF) (n := 64) (by decide) (H7.startF (decide (alg = 8))) p b
  exact ⟨ha, rfl, h1, h2, len_add p b⟩
theorem wr8_of {v : H8.V8} {r : List U8} {n : U64} {A : Option Addr} {c : Nat} {A4 : Option Addr} {c4 : Nat} {many alg : Int} {p : List U8} (b : List U8) (A1 : Option Addr) (c1 : Nat) (h : (Eng.w8 v r n A c A4 c4 many).Has alg p) :
    (Eng.w8 (fdS H8.blockF 128 v (r ++ b)) (fdR 128 (r ++ b)) (n + BitVec.ofInt 64 (b.length : Int)) A1 c1 A4 c4 many).Has alg (p ++ b) := by
  obtain ⟨ha, rfl, rfl, rfl, rfl⟩ := h
  obtain ⟨h1, h2⟩ := fd_app (f := H8.blockF) (n := 128) (by decide) (H8.startF (decide (alg = 10))) p b
  exact ⟨ha, rfl, h1, h2, len_add p b⟩
theorem Eng.e0_eqv (e : Eng) (l l' g : Nat) : ME.eqv (e.e0 l g) (e.e0 l' g) := by
  cases e <;> exact ME.eqv_own rfl rfl
end Go.Proofs.Ytlcaobnojbkmbaa
