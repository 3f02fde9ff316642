/- How many bits a word has. -/
import Derived.Test.YtkpbjkhgiackpaaQd
import Derived.Test.YtkpbjkhgiackpaaQb0
namespace Go.Proofs.Ytkpbjkhgiackpaa
open Go Go.RowKit Go.Shelf
set_option linter.unusedVariables false
set_option linter.unusedSimpArgs false

attribute [local go_sem] Oper.semAt_some
theorem len_fin {c k : Nat} (hk : k < 256) (hc : c ≤ 24) : wrap64 ((c : Int) + wrap64 (((D0[k]'(by rw [D0_size]; exact hk)).toNat : Nat) : Int)) = ((c + blN k : Nat) : Int) := by
  have h1 := blN_le (k := k) (s := 8) (by omega)
  rw [D0_get k hk]
  simp only [wrap64]
  omega
theorem len_fin0 {k : Nat} (hk : k < 256) : wrap64 (wrap64 (((D0[k]'(by rw [D0_size]; exact hk)).toNat : Nat) : Int)) = ((blN k : Nat) : Int) := by
  have h1 := blN_le (k := k) (s := 8) (by omega)
  rw [D0_get k hk]
  simp only [wrap64]
  omega
set_option maxRecDepth 10000000 in
set_option maxHeartbeats 2000000 in
theorem len32_in (F : Fence) (n : Nat) (h6 : F.fn 89) (hro : F.round = none) (x : U32) (w : World) :
    CallsIn F n Try.prog 89 #[.int .u32 (i32 x)] w fun e w' => e = .returned (.int .i64 (blN x.toNat : Nat)) ∧ w' = w := by
  refine callsIn_of_wp Try.func89 rfl h6 ?_ hro
  simp only [Try.ntmps89, List.size_toArray, List.length_cons, List.length_nil, Nat.reduceAdd, Nat.reduceSub, Array.replicate_succ, Array.replicate_zero, List.push_toArray, List.append_toArray, List.nil_append, List.cons_append]
  have hx := x.isLt
  gi_wp2
  · have h1 : 65536 ≤ x.toNat := by rename_i a b c; simp only [i32] at a; omega
    have h2 : 256 ≤ x.toNat / 65536 := by rename_i a b c; simp only [i32] at b; omega
    refine bodyPost_ret (results_tmp (t := 2) rfl _ _ _) rfl ⟨congrArg (fun y => Ending.returned (Value.int .i64 y)) ?_, rfl⟩
    have e : (i32 x / 65536 / 256 % 256).toNat = x.toNat / 65536 / 256 := by simp only [i32]; omega
    have e2 : blN x.toNat = 24 + blN (x.toNat / 65536 / 256) := by
      rw [blN_shift (k := x.toNat) (s := 16) (by omega), show (2 : Nat) ^ 16 = 65536 from rfl, blN_shift (k := x.toNat / 65536) (s := 8) (by omega), show (2 : Nat) ^ 8 = 256 from rfl]; omega
    rw [e2]
    simp only [e]
    exact len_fin (c := 24) (by omega) (by decide)
  · have h1 : 65536 ≤ x.toNat := by rename_i a b c; simp only [i32] at a; omega
    have h2 : x.toNat / 65536 < 256 := by rename_i a b c; simp only [i32] at b; omega
    refine bodyPost_ret (results_tmp (t := 2) rfl _ _ _) rfl ⟨congrArg (fun y => Ending.returned (Value.int .i64 y)) ?_, rfl⟩
    have e : (i32 x / 65536).toNat = x.toNat / 65536 := by simp only [i32]; omega
    rw [blN_shift (k := x.toNat) (s := 16) (by omega), show (2 : Nat) ^ 16 = 65536 from rfl]
    simp only [e]
    exact len_fin (c := 16) h2 (by decide)
  · have h1 : x.toNat < 65536 := by rename_i a b c; simp only [i32] at a; omega
    have h2 : 256 ≤ x.toNat := by rename_i a b c; simp only [i32] at b; omega
    refine bodyPost_ret (results_tmp (t := 2) rfl _ _ _) rfl ⟨congrArg (fun y => Ending.returned (Value.int .i64 y)) ?_, rfl⟩
    have e : (i32 x / 256).toNat = x.toNat / 256 := by simp only [i32]; omega
    rw [blN_shift (k := x.toNat) (s := 8) (by omega), show (2 : Nat) ^ 8 = 256 from rfl]
    simp only [e]
    exact len_fin (c := 8) (by omega) (by decide)
  · have h1 : x.toNat < 256 := by rename_i a b c; simp only [i32] at b; omega
    refine bodyPost_ret (results_tmp (t := 2) rfl _ _ _) rfl ⟨congrArg (fun y => Ending.returned (Value.int .i64 y)) ?_, rfl⟩
    have e : (i32 x % 256).toNat = x.toNat := by simp only [i32]; omega
    simp only [e]
    exact len_fin0 h1
end Go.Proofs.Ytkpbjkhgiackpaa
