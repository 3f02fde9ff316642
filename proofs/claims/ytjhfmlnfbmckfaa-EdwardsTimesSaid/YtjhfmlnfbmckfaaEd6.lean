/- The curve's points as bytes, and back. No program in sight. -/
import Derived.Test.YtjhfmlnfbmckfaaEd5
import Derived.Test.YtjhfmlnfbmckfaaFb1
namespace Go.Proofs.Ytjhfmlnfbmckfaa
open Go Go.RowKit
set_option linter.unusedVariables false
def packN (a : Pt) : Nat := a.2 + 57896044618658097711785492504343953926634992332820282019728792003956564819968 * (a.1 % 2)
theorem byts_top {y b : Nat} (hy : y < 57896044618658097711785492504343953926634992332820282019728792003956564819968) (hb : b < 2) {x : U8} (hx : x.toNat = y / 452312848583266388373324160190187140051835877600158453279131187530910662656 + 128 * b) : (byts 32 y).set 31 x = byts 32 (y + 57896044618658097711785492504343953926634992332820282019728792003956564819968 * b) := by
  refine list8_ext (by rw [List.length_set, byts_len, byts_len]) fun j hj => ?_
  rw [List.length_set, byts_len] at hj
  by_cases h : j = 31
  · subst h
    rw [g8_set_eq (by rw [byts_len]; decide), g8_byts _ _ _ (by decide)]
    apply BitVec.eq_of_toNat_eq
    rw [BitVec.toNat_ofNat, hx, show (2 : Nat) ^ (8 * 31) = 452312848583266388373324160190187140051835877600158453279131187530910662656 from by decide]
    omega
  · rw [g8_set_ne (fun e => h e.symm), g8_byts _ _ _ hj, g8_byts _ _ _ hj]
    have e : 57896044618658097711785492504343953926634992332820282019728792003956564819968 * b = 2 ^ (8 * j) * (256 * (2 ^ (247 - 8 * j) * b)) := by
      rw [show (57896044618658097711785492504343953926634992332820282019728792003956564819968 : Nat) = 2 ^ (8 * j) * (256 * 2 ^ (247 - 8 * j)) from ?_, Nat.mul_assoc, Nat.mul_assoc]
      rw [show (256 : Nat) = 2 ^ 8 from rfl, ← Nat.pow_add, ← Nat.pow_add, show 8 * j + (8 + (247 - 8 * j)) = 255 by omega]
    rw [e, Nat.add_mul_div_left _ _ (Nat.two_pow_pos _)]
    apply BitVec.eq_of_toNat_eq
    rw [BitVec.toNat_ofNat, BitVec.toNat_ofNat]
    omega
theorem low_w (n : Nat) (r : List U64) : g64 (words 4 n ++ r) 0 = BitVec.ofNat 64 n := rfl
theorem low_bit8 (n : Nat) : (((BitVec.ofNat 64 n &&& 1#64).setWidth 8) <<< 7 : U8).toNat = 128 * (n % 2) := by
  have e : (BitVec.ofNat 64 n &&& 1#64).toNat = n % 2 := by
    rw [BitVec.toNat_and, BitVec.toNat_ofNat, show (1#64).toNat = 2 ^ 1 - 1 from rfl, Nat.and_two_pow_sub_one_eq_mod]; omega
  rw [BitVec.toNat_shiftLeft, BitVec.toNat_setWidth, e, Nat.shiftLeft_eq]
  omega
theorem low_bit1 (n : Nat) : (BitVec.ofNat 64 n % 2#64 = 1#64) = (n % 2 = 1) := by
  have e : (BitVec.ofNat 64 n % 2#64).toNat = n % 2 := by
    rw [BitVec.toNat_umod, BitVec.toNat_ofNat, show (2#64).toNat = 2 from rfl]; omega
  refine propext ⟨fun h => ?_, fun h => BitVec.eq_of_toNat_eq ?_⟩
  · rw [← e, h]; rfl
  · rw [e, h]; rfl
theorem top_byte {y : Nat} (hy : y < 57896044618658097711785492504343953926634992332820282019728792003956564819968) : (g8 (byts 32 y) 31).toNat = y / 452312848583266388373324160190187140051835877600158453279131187530910662656 := by
  rw [g8_byts _ _ _ (by decide), BitVec.toNat_ofNat, show (2 : Nat) ^ (8 * 31) = 452312848583266388373324160190187140051835877600158453279131187530910662656 from by decide]
  omega
theorem or_top : ∀ (a b : U8), a.toNat < 128 → (b.toNat = 0 ∨ b.toNat = 128) → (a ||| b).toNat = a.toNat + b.toNat := by
  intro a b ha hb
  rcases hb with h | h
  · have : b = 0#8 := BitVec.eq_of_toNat_eq h
    rw [this]; simp
  · have : b = 128#8 := BitVec.eq_of_toNat_eq h
    subst this
    revert a; decide
theorem PP_H {y : Nat} (h : y < PP) : y < 57896044618658097711785492504343953926634992332820282019728792003956564819968 := Nat.lt_trans h (by decide)
theorem pack_or {a : Pt} (h : a.2 < PP) : (byts 32 a.2).set 31 (g8 (byts 32 a.2) 31 ||| ((BitVec.ofNat 64 a.1 &&& 1#64).setWidth 8) <<< 7) = byts 32 (packN a) := by
  have hy := PP_H h
  refine byts_top hy (by omega) ?_
  have h1 := low_bit8 a.1
  rw [or_top _ _ (by rw [top_byte hy]; omega) (by rw [h1]; omega), h1, top_byte hy]
theorem pack_add {a : Pt} (h : a.2 < PP) (h1 : a.1 % 2 = 1) : (byts 32 a.2).set 31 (g8 (byts 32 a.2) 31 + 128#8) = byts 32 (packN a) := by
  have hy := PP_H h
  refine byts_top hy (by omega) ?_
  rw [BitVec.toNat_add, top_byte hy, show (128#8 : U8).toNat = 128 from rfl, h1]
  omega
theorem pack_not {a : Pt} (h1 : ¬ a.1 % 2 = 1) : packN a = a.2 := by unfold packN; rw [show a.1 % 2 = 0 by omega]; rfl
/-! ### And back -/
def unS (y : Nat) : Nat := fM (fS (fM y y) 1) (fI (fA (fM DD (fM y y)) 1))
def unF (v : Nat) : Pt × Bool :=
  if v % 57896044618658097711785492504343953926634992332820282019728792003956564819968 < PP then
    (if (rootF (unS (v % 57896044618658097711785492504343953926634992332820282019728792003956564819968))).2 = false ∨ (v / 57896044618658097711785492504343953926634992332820282019728792003956564819968 % 2 = 1 ∧ (rootF (unS (v % 57896044618658097711785492504343953926634992332820282019728792003956564819968))).1 = 0) then (zeroP, false)
     else (((if v / 57896044618658097711785492504343953926634992332820282019728792003956564819968 % 2 = 1 then fS 0 (rootF (unS (v % 57896044618658097711785492504343953926634992332820282019728792003956564819968))).1 else (rootF (unS (v % 57896044618658097711785492504343953926634992332820282019728792003956564819968))).1), v % 57896044618658097711785492504343953926634992332820282019728792003956564819968), true))
  else (zeroP, false)
theorem bval_top {bs : List U8} (h : bs.length = 32) : bval bs = bval (bs.take 31) + 452312848583266388373324160190187140051835877600158453279131187530910662656 * (g8 bs 31).toNat ∧ bval (bs.take 31) < 452312848583266388373324160190187140051835877600158453279131187530910662656 := by
  have e := bval_take_succ bs 31 (by omega)
  rw [List.take_of_length_le (by omega)] at e
  have hl := bval_lt (bs.take 31)
  rw [List.length_take, h] at hl
  exact ⟨e, hl⟩
theorem bval_set {bs : List U8} (h : bs.length = 32) {x : U8} (hx : x.toNat = (g8 bs 31).toNat % 128) : bval (bs.set 31 x) = bval bs % 57896044618658097711785492504343953926634992332820282019728792003956564819968 := by
  obtain ⟨e1, e2⟩ := bval_top h
  obtain ⟨e3, _⟩ := bval_top (bs := bs.set 31 x) (by rw [List.length_set]; exact h)
  rw [List.take_set, List.set_eq_of_length_le (l := List.take 31 bs) (by rw [List.length_take]; omega), g8_set_eq (by omega), hx] at e3
  rw [e3, e1]
  have := (g8 bs 31).isLt
  omega
theorem odd_top {bs : List U8} (h : bs.length = 32) : (128 ≤ (g8 bs 31).toNat) = (bval bs / 57896044618658097711785492504343953926634992332820282019728792003956564819968 % 2 = 1) := by
  obtain ⟨e1, e2⟩ := bval_top h
  have := (g8 bs 31).isLt
  exact propext ⟨fun h => by omega, fun h => by omega⟩
theorem and127 (x : U8) : (x &&& 127#8).toNat = x.toNat % 128 := by rw [BitVec.toNat_and]; exact Nat.and_two_pow_sub_one_eq_mod x.toNat 7
theorem mod128 (x : U8) : (x % 128#8).toNat = x.toNat % 128 := by rw [BitVec.toNat_umod]; rfl
theorem and128 : ∀ x : U8, (x &&& 128#8 = 0#8) = ¬ 128 ≤ x.toNat := by decide
theorem bval_and {bs : List U8} (h : bs.length = 32) : bval (bs.set 31 (g8 bs 31 &&& 127#8)) = bval bs % 57896044618658097711785492504343953926634992332820282019728792003956564819968 := bval_set h (and127 _)
theorem bval_mod {bs : List U8} (h : bs.length = 32) : bval (bs.set 31 (g8 bs 31 % 128#8)) = bval bs % 57896044618658097711785492504343953926634992332820282019728792003956564819968 := bval_set h (mod128 _)
theorem rootF_lt (a : Nat) : (rootF a).1 < PP := by
  by_cases h : (rootF a).2 = true
  · exact (root_told h).2.2
  · by_cases hs : rootR a * rootR a % PP = a % PP
    · exfalso
      unfold rootF at h
      rw [if_pos hs] at h
      exact h rfl
    · rw [(root_none2 rfl hs).1]; decide
theorem w4_zero {a : Nat} (h : a < PP) : (words 4 a = [0#64, 0#64, 0#64, 0#64]) = (a = 0) := by
  rw [← zero_w]; exact words_inj h (by decide)
theorem rd_lt {v : Nat} (h : v < PP) : rdF v = (words 4 v, true) := rdF_yes h
theorem powP_z (n : Nat) (h : 0 < n) : powP 0 n = 0 := by
  simp only [powP]
  rw [Nat.zero_pow h]; rfl
theorem rootF_zero : rootF 0 = (0, true) := by
  have e : rootR 0 = 0 := by
    rw [rootR_one (by rw [powP_z _ (by decide)]), powP_z _ (by decide)]
  exact root_even e rfl rfl
/-- The even one of two roots. -/
theorem rootF_sq {x : Nat} (hx : x < PP) : rootF (x * x % PP) = (if x % 2 = 1 then PP - x else x, true) := by
  by_cases h0 : x = 0
  · subst h0; exact rootF_zero
  · have hm := Nat.mod_eq_of_lt hx
    obtain ⟨r, e1, e2, e3⟩ := root_sq (a := x) (by rw [hm]; exact h0)
    obtain ⟨_, hev, _⟩ := root_told e2
    rw [e1] at hev
    rw [hm] at e3
    have hP : PP % 2 = 1 := by decide
    refine Prod.ext ?_ e2
    show (rootF (x * x % PP)).1 = _
    rw [e1]
    dsimp only
    have e4 : (PP - x) % PP = PP - x := Nat.mod_eq_of_lt (by omega)
    rw [e4] at e3
    split
    · rcases e3 with rfl | rfl <;> omega
    · rcases e3 with rfl | rfl <;> omega
theorem fS_zero {x : Nat} (hx : x < PP) : fS 0 x = if x = 0 then 0 else PP - x := by
  unfold fS
  rw [Nat.mod_eq_of_lt hx, Nat.zero_mod, Nat.zero_add]
  split
  · subst_vars; simp
  · exact Nat.mod_eq_of_lt (by omega)
/-- What divides there is not nought. -/
theorem un_nz (y : Int) : ¬ MM ∣ DD * (y * y) + 1 := fun h => by
  have h1 := Int.dvd_sub II_sq h
  have h2 := d_nsq (x := II) (y := y) (by rwa [show (II : Int) * II + 1 - (DD * (y * y) + 1) = II * II - DD * (y * y) by omega] at h1)
  have h3 := Int.dvd_sub h (dr (DD : Int) (dr y h2))
  rw [show (DD : Int) * (y * y) + 1 - DD * (y * y) = 1 by omega] at h3
  exact not_one h3
theorem unS_of {x y : Nat} (h : onP (x, y)) : unS y = fM x x := by
  have hE := onP_E h
  have a := (((Cg.self y).M (Cg.self y)).S (Cg.self 1))
  have b := ((Cg.self DD).M ((Cg.self y).M (Cg.self y))).A (Cg.self 1)
  refine (Cg.div (z := (x : Int) * x) a b (un_nz y) ?_).uniq (fM_lt _ _) (fM_lt _ _) ((Cg.self x).M (Cg.self x))
  dsimp only at hE
  rwa [show ((y : Int) * y - (1 : Nat) - (x : Int) * x * (DD * ((y : Int) * y) + (1 : Nat))) = EE DD x y by unfold EE; grind]
theorem onP_un {x y : Nat} (hx : x < PP) (hy : y < PP) (h : x * x % PP = unS y % PP) : onP (x, y) := by
  refine onP_of hx hy ?_
  dsimp only
  have a := (((Cg.self y).M (Cg.self y)).S (Cg.self 1))
  have b := ((Cg.self DD).M ((Cg.self y).M (Cg.self y))).A (Cg.self 1)
  have hb := Cg.back a b (un_nz y)
  have h1 : Eq_ ((unS y : Nat) : Int) ((x : Int) * x) := by
    have := modZ.1 h.symm
    rw [Int.natCast_mul] at this
    exact this
  have h2 := (h1.symm.l (DD * ((y : Int) * y) + (1 : Nat))).trans hb
  have h3 := Int.dvd_neg.2 h2
  rwa [show -((x : Int) * x * (DD * ((y : Int) * y) + (1 : Nat)) - ((y : Int) * y - (1 : Nat))) = EE DD x y by unfold EE; grind] at h3
theorem packN_lt {a : Pt} (h : a.2 < PP) : packN a % 57896044618658097711785492504343953926634992332820282019728792003956564819968 = a.2 ∧ packN a / 57896044618658097711785492504343953926634992332820282019728792003956564819968 % 2 = a.1 % 2 := by
  have := PP_H h
  unfold packN
  omega
/-- A point is unpacked as it was packed. -/
theorem un_pack {a : Pt} (h : onP a) : unF (packN a) = (a, true) := by
  obtain ⟨x, y⟩ := a
  obtain ⟨e1, e2⟩ := packN_lt h.2.1
  dsimp only at e1 e2
  have hx : x < PP := h.1
  have hP : PP % 2 = 1 := by decide
  unfold unF
  rw [e1, e2, if_pos h.2.1, unS_of h, show fM x x = x * x % PP from rfl, rootF_sq hx]
  dsimp only
  by_cases hb : x % 2 = 1
  · rw [if_pos hb, if_neg (by simp only [hb, Bool.true_eq_false, false_or, true_and]; omega), if_pos hb, fS_zero (by omega), if_neg (by omega)]
    rw [show PP - (PP - x) = x by omega]
  · rw [if_neg hb, if_neg (by simp [hb]), if_neg hb]
/-- What is unpacked is a point, packed as those bytes. -/
theorem pack_un {v : Nat} (hv : v < 115792089237316195423570985008687907853269984665640564039457584007913129639936) (h : (unF v).2 = true) : onP (unF v).1 ∧ packN (unF v).1 = v := by
  have hP : PP % 2 = 1 := by decide
  unfold unF at h ⊢
  by_cases hy : v % 57896044618658097711785492504343953926634992332820282019728792003956564819968 < PP
  · rw [if_pos hy] at h ⊢
    obtain ⟨r, hr⟩ : ∃ r, rootF (unS (v % 57896044618658097711785492504343953926634992332820282019728792003956564819968)) = r := ⟨_, rfl⟩
    have hlt := rootF_lt (unS (v % 57896044618658097711785492504343953926634992332820282019728792003956564819968))
    have ht := root_told (a := unS (v % 57896044618658097711785492504343953926634992332820282019728792003956564819968))
    rw [hr] at h hlt ht ⊢
    split at h
    · cases h
    · rename_i hn
      rw [if_neg hn]
      obtain ⟨r1, r2⟩ := r
      dsimp only at hn hlt ht ⊢
      have hr2 : r2 = true := by cases r2 <;> simp_all
      obtain ⟨t1, t2, _⟩ := ht hr2
      by_cases hb : v / 57896044618658097711785492504343953926634992332820282019728792003956564819968 % 2 = 1
      · have hr0 : r1 ≠ 0 := fun e => hn (.inr ⟨hb, e⟩)
        rw [if_pos hb, fS_zero hlt, if_neg hr0]
        have e2 : (PP - r1) * (PP - r1) % PP = r1 * r1 % PP := by
          rw [modZ]
          refine ⟨(PP : Int) - 2 * r1, ?_⟩
          have : ((PP - r1 : Nat) : Int) = (PP : Int) - r1 := by omega
          rw [Int.natCast_mul, Int.natCast_mul, this]
          grind
        refine ⟨onP_un (by omega) hy (e2.trans t1), ?_⟩
        unfold packN
        dsimp only
        rw [show (PP - r1) % 2 = 1 by omega]
        omega
      · rw [if_neg hb]
        refine ⟨onP_un hlt hy t1, ?_⟩
        unfold packN
        dsimp only
        rw [t2]
        omega
  · rw [if_neg hy] at h; cases h
theorem un_false {v : Nat} (h : (unF v).2 = false) : (unF v).1 = zeroP := by
  unfold unF at h ⊢
  split
  · rename_i h1
    rw [if_pos h1] at h
    split
    · rfl
    · rename_i h2; rw [if_neg h2] at h; cases h
  · rfl
theorem unF_lt (v : Nat) : (unF v).1.1 < PP ∧ (unF v).1.2 < PP := by
  by_cases h : (unF v).2 = true
  · unfold unF at h ⊢
    by_cases hy : v % 57896044618658097711785492504343953926634992332820282019728792003956564819968 < PP
    · rw [if_pos hy] at h ⊢
      split at h
      · cases h
      · rename_i hn
        rw [if_neg hn]
        refine ⟨?_, hy⟩
        dsimp only
        split
        · exact fS_lt _ _
        · exact rootF_lt _
    · rw [if_neg hy] at h; cases h
  · rw [un_false (by simpa using h)]; decide
/-! ### The base -/
def baseP : Pt := (15112221349535400772501151409588531511454012693041857206046113283949847762202, 46316835694926478169428394003475163141307993866256225615783033603165251855960)
set_option maxRecDepth 100000 in
theorem onP_base : onP baseP := onP_of (by decide) (by decide) (by decide +kernel)
theorem base_y : fM 4 (fI 5) = 46316835694926478169428394003475163141307993866256225615783033603165251855960 := Cg.divz (a := 4) (b := 5) (by decide) (by decide) (by show MM ∣ _; decide +kernel)
theorem un_base : unF 46316835694926478169428394003475163141307993866256225615783033603165251855960 = (baseP, true) := by
  have := un_pack onP_base
  rwa [show packN baseP = 46316835694926478169428394003475163141307993866256225615783033603165251855960 from by decide] at this
theorem mkP_base : mkP baseP = [0xc9562d608f25d51a#64, 0x692cc7609525a7b2#64, 0xc0a4e231fdd6dc5c#64, 0x216936d3cd6e53fe#64, 0x6666666666666658#64, 0x6666666666666666#64, 0x6666666666666666#64, 0x6666666666666666#64] := by decide
end Go.Proofs.Ytjhfmlnfbmckfaa
