/- Primes, and the two that the curve hangs on, by Pocklington's way. No program in sight. -/
namespace Go.Proofs.Ytjhfmlnfbmckfaa
set_option linter.unusedVariables false
def Pr (r : Nat) : Prop := 1 < r ∧ ∀ d, d ∣ r → d = 1 ∨ d = r
theorem Pr.cop {r a : Nat} (h : Pr r) (ha : ¬ r ∣ a) : Nat.Coprime r a := by
  rcases h.2 (Nat.gcd r a) (Nat.gcd_dvd_left r a) with e | e
  · exact e
  · have h2 := Nat.gcd_dvd_right r a
    rw [e] at h2
    exact absurd h2 ha
theorem Pr.euclid {r a b : Nat} (h : Pr r) (hd : r ∣ a * b) : r ∣ a ∨ r ∣ b := by
  by_cases ha : r ∣ a
  · exact .inl ha
  · exact .inr ((h.cop ha).dvd_of_dvd_mul_left hd)
/-! ### Binomials -/
def ch : Nat → Nat → Nat
  | _, 0 => 1
  | 0, _ + 1 => 0
  | n + 1, k + 1 => ch n k + ch n (k + 1)
theorem ch_zero (n : Nat) : ch n 0 = 1 := by cases n <;> rfl
theorem ch_zs (k : Nat) : ch 0 (k + 1) = 0 := rfl
theorem ch_ss (n k : Nat) : ch (n + 1) (k + 1) = ch n k + ch n (k + 1) := rfl
theorem ch_absorb : ∀ n k, (k + 1) * ch (n + 1) (k + 1) = (n + 1) * ch n k
  | 0, 0 => rfl
  | 0, k + 1 => by simp [ch]
  | n + 1, 0 => by
    have h := ch_absorb n 0
    rw [ch_zero] at h
    rw [ch_ss (n + 1) 0, ch_zero]
    omega
  | n + 1, j + 1 => by
    have h1 := ch_absorb n j
    have h2 := ch_absorb n (j + 1)
    rw [ch_ss (n + 1) (j + 1), Nat.mul_add, h2]
    rw [show (j + 1 + 1) * ch (n + 1) (j + 1) = (j + 1) * ch (n + 1) (j + 1) + ch (n + 1) (j + 1) from Nat.succ_mul _ _, h1]
    rw [show (n + 1 + 1) * ch (n + 1) (j + 1) = (n + 1) * ch (n + 1) (j + 1) + ch (n + 1) (j + 1) from Nat.succ_mul _ _, ch_ss n j, Nat.mul_add]
    omega
theorem ch_big : ∀ n k, n < k → ch n k = 0
  | _, 0, h => by omega
  | 0, k + 1, _ => rfl
  | n + 1, k + 1, h => by rw [ch_ss, ch_big n k (by omega), ch_big n (k + 1) (by omega)]
theorem ch_self : ∀ n, ch n n = 1
  | 0 => rfl
  | n + 1 => by rw [ch_ss, ch_self n, ch_big n (n + 1) (by omega)]
def chs (n x : Nat) : Nat → Nat
  | 0 => 0
  | m + 1 => chs n x m + ch n m * x ^ m
theorem chs_step (n x : Nat) : ∀ m, chs (n + 1) x (m + 1) = chs n x (m + 1) + x * chs n x m
  | 0 => by simp [chs, ch_zero]
  | m + 1 => by
    have ih := chs_step n x m
    rw [chs, ih, ch_ss, chs.eq_2 n x (m + 1), chs.eq_2 n x m, Nat.add_mul, Nat.mul_add, Nat.pow_succ]
    have e : ch n m * (x ^ m * x) = x * (ch n m * x ^ m) := by rw [← Nat.mul_assoc, Nat.mul_comm]
    omega
theorem pow_chs (x : Nat) : ∀ n, (x + 1) ^ n = chs n x (n + 1)
  | 0 => by simp [chs, ch]
  | n + 1 => by
    rw [Nat.pow_succ, pow_chs x n, chs_step, Nat.mul_add, Nat.mul_one, Nat.mul_comm _ x, chs.eq_2 n x (n + 1), ch_big n (n + 1) (by omega)]
    omega
theorem Pr.chsum {n : Nat} (h : Pr (n + 1)) (x : Nat) : ∀ m, m ≤ n → chs (n + 1) x (m + 1) % (n + 1) = 1
  | 0, _ => by
    have := h.1
    simp only [chs, ch_zero, Nat.pow_zero, Nat.mul_one, Nat.zero_add]
    exact Nat.mod_eq_of_lt this
  | m + 1, hm => by
    have ih := Pr.chsum h x m (by omega)
    have hd : n + 1 ∣ ch (n + 1) (m + 1) := by
      rcases h.euclid (a := m + 1) (b := ch (n + 1) (m + 1)) ⟨_, ch_absorb n m⟩ with h2 | h2
      · exact absurd (Nat.le_of_dvd (by omega) h2) (by omega)
      · exact h2
    obtain ⟨k, hk⟩ := hd
    rw [chs, hk, Nat.mul_assoc, Nat.add_mul_mod_self_left]
    exact ih
theorem Pr.frob {r : Nat} (h : Pr r) (x : Nat) : (x + 1) ^ r % r = (x ^ r + 1) % r := by
  have h1 := h.1
  obtain ⟨n, rfl⟩ : ∃ n, r = n + 1 := ⟨r - 1, by omega⟩
  rw [pow_chs, chs, ch_self, Nat.one_mul, Nat.add_mod, h.chsum x n (Nat.le_refl _), Nat.add_comm (x ^ (n + 1)) 1]
  conv => rhs; rw [Nat.add_mod, Nat.mod_eq_of_lt (a := 1) h1]
theorem Pr.little {r : Nat} (h : Pr r) : ∀ x : Nat, x ^ r % r = x % r
  | 0 => by rw [Nat.zero_pow (by have := h.1; omega)]
  | x + 1 => by rw [h.frob x, Nat.add_mod, h.little x, ← Nat.add_mod]
theorem Pr.fermat {r a : Nat} (h : Pr r) (ha : ¬ r ∣ a) : a ^ (r - 1) % r = 1 := by
  have h1 := h.1
  have h0 : 0 < a := by
    rcases Nat.eq_zero_or_pos a with e | e
    · subst e; exact absurd ⟨0, rfl⟩ ha
    · exact e
  have hp : 0 < a ^ (r - 1) := Nat.pow_pos h0
  have e : a ^ r = a * a ^ (r - 1) := by
    conv => lhs; rw [show r = (r - 1) + 1 by omega]
    rw [Nat.pow_succ, Nat.mul_comm]
  have h2 : r ∣ a * (a ^ (r - 1) - 1) := by
    rw [Nat.mul_sub, Nat.mul_one, ← e]
    have h3 := h.little a
    have h4 : a ≤ a ^ r := by rw [e]; exact Nat.le_mul_of_pos_right _ hp
    have h5 := Nat.div_add_mod (a ^ r) r
    have h6 := Nat.div_add_mod a r
    refine ⟨a ^ r / r - a / r, ?_⟩
    rw [Nat.mul_sub]
    omega
  rcases h.euclid h2 with h3 | h3
  · exact absurd h3 ha
  · obtain ⟨k, hk⟩ := h3
    rw [show a ^ (r - 1) = 1 + r * k by omega, Nat.add_mul_mod_self_left, Nat.mod_eq_of_lt h1]
theorem pr_dvd : ∀ n : Nat, 1 < n → ∃ r, Pr r ∧ r ∣ n := by
  intro n
  induction n using Nat.strongRecOn with
  | ind n ih =>
    intro hn
    by_cases hp : Pr n
    · exact ⟨n, hp, Nat.dvd_refl n⟩
    · have : ∃ d, d ∣ n ∧ d ≠ 1 ∧ d ≠ n := by
        refine Classical.byContradiction fun hc => hp ⟨hn, fun d hd => ?_⟩
        refine Classical.byContradiction fun hc2 => hc ⟨d, hd, fun e => hc2 (.inl e), fun e => hc2 (.inr e)⟩
      obtain ⟨d, hd, h1, h2⟩ := this
      have hle := Nat.le_of_dvd (by omega) hd
      have h0 : d ≠ 0 := by
        rintro rfl
        have := Nat.eq_zero_of_zero_dvd hd
        omega
      obtain ⟨r, hr, hrd⟩ := ih d (by omega) (by omega)
      exact ⟨r, hr, Nat.dvd_trans hrd hd⟩
theorem pr_of_sq {n : Nat} (hn : 1 < n) (h : ∀ r, Pr r → r ∣ n → n < r * r) : Pr n := by
  refine ⟨hn, fun d hd => ?_⟩
  refine Classical.byContradiction fun hc => ?_
  obtain ⟨e, he⟩ := hd
  have hd1 : d ≠ 1 := fun x => hc (.inl x)
  have hdn : d ≠ n := fun x => hc (.inr x)
  have hd0 : d ≠ 0 := by rintro rfl; omega
  have he0 : e ≠ 0 := by rintro rfl; omega
  have he1 : e ≠ 1 := by rintro rfl; omega
  obtain ⟨r, hr, hrd⟩ := pr_dvd d (by omega)
  obtain ⟨s, hs, hse⟩ := pr_dvd e (by omega)
  have h1 := h r hr (he ▸ Nat.dvd_trans hrd (Nat.dvd_mul_right d e))
  have h2 := h s hs (he ▸ Nat.dvd_trans hse (Nat.dvd_mul_left e d))
  have h3 : r * s ≤ n := he ▸ Nat.mul_le_mul (Nat.le_of_dvd (by omega) hrd) (Nat.le_of_dvd (by omega) hse)
  rcases Nat.le_total r s with hrs | hrs
  · have := Nat.mul_le_mul_left r hrs
    omega
  · have := Nat.mul_le_mul_right s hrs
    omega
theorem pow_gcd {x r : Nat} (m n : Nat) : x ^ m % r = 1 % r → x ^ n % r = 1 % r → x ^ Nat.gcd m n % r = 1 % r := by
  induction m, n using Nat.gcd.induction with
  | H0 n => intro _ h; rwa [Nat.gcd_zero_left]
  | H1 m n hm ih =>
    intro h1 h2
    rw [Nat.gcd_rec]
    refine ih ?_ h1
    have e : x ^ n % r = x ^ (n % m) % r := by
      conv => lhs; rw [← Nat.div_add_mod n m, Nat.pow_add, Nat.mul_mod, Nat.pow_mul, Nat.pow_mod, h1, ← Nat.pow_mod, Nat.one_pow, ← Nat.mul_mod, Nat.one_mul]
    rw [← e, h2]
/-- A power, square by square. -/
def pm (n : Nat) : Nat → Nat → Nat → Nat
  | 0, _, _ => 1 % n
  | f + 1, a, k => if k = 0 then 1 % n else if k % 2 = 1 then pm n f (a * a % n) (k / 2) * a % n else pm n f (a * a % n) (k / 2)
theorem pm_ok (n : Nat) : ∀ (f a k : Nat), k < 2 ^ f → pm n f a k = a ^ k % n
  | 0, a, k, h => by
    have : k = 0 := by simpa using h
    subst this; rfl
  | f + 1, a, k, h => by
    have hh : k / 2 < 2 ^ f := by rw [Nat.pow_succ] at h; omega
    have ih := pm_ok n f (a * a % n) (k / 2) hh
    rw [← Nat.pow_mod, ← Nat.pow_two, ← Nat.pow_mul, Nat.pow_two] at ih
    unfold pm
    split
    · rename_i h0; subst h0; rfl
    · rw [ih]
      split
      · rename_i hb
        rw [Nat.mod_mul_mod, ← Nat.pow_succ]
        congr 2; omega
      · congr 2; omega
def pockB (n q e : Nat) : Bool := decide (n - 1 = q * e) && decide (pm n 300 2 (n - 1) = 1) && decide (Nat.gcd (pm n 300 2 e + (n - 1)) n = 1) && decide (n < 2 ^ 300)
theorem pock_dvd {n q e r : Nat} (hq : Pr q) (hb : pockB n q e = true) (hn : 1 < n) (hr : Pr r) (hd : r ∣ n) : q ∣ r - 1 := by
  simp only [pockB, Bool.and_eq_true, decide_eq_true_eq] at hb
  obtain ⟨⟨⟨h1, h2⟩, h3⟩, h4⟩ := hb
  have hr1 := hr.1
  have he : e ≤ n - 1 := by rw [h1]; exact Nat.le_mul_of_pos_left _ (by have := hq.1; omega)
  rw [pm_ok n 300 2 (n - 1) (by omega)] at h2
  rw [pm_ok n 300 2 e (by omega)] at h3
  have hmod : ∀ z : Nat, z % n % r = z % r := fun z => Nat.mod_mod_of_dvd z hd
  have hbq : (2 ^ e) ^ q % r = 1 % r := by
    rw [← Nat.pow_mul, Nat.mul_comm, ← h1, ← hmod, h2]
  have hb1 : ¬ 2 ^ e % r = 1 % r := by
    intro hc
    have hdv : r ∣ 2 ^ e % n + (n - 1) := by
      obtain ⟨k, hk⟩ := hd
      have h5 : 2 ^ e % n % r = 1 := by rw [hmod, hc, Nat.mod_eq_of_lt hr1]
      have h6 := Nat.div_add_mod (2 ^ e % n) r
      rw [h5] at h6
      refine ⟨2 ^ e % n / r + k, ?_⟩
      rw [Nat.mul_add, ← hk]
      omega
    have := Nat.dvd_gcd hdv hd
    rw [h3] at this
    have := Nat.le_of_dvd (by omega) this
    omega
  have hnd : ¬ r ∣ 2 ^ e := by
    rintro ⟨k, hk⟩
    rw [hk, Nat.mul_pow, Nat.mod_eq_of_lt hr1] at hbq
    have hq0 : q = q - 1 + 1 := by have := hq.1; omega
    rw [hq0, Nat.pow_succ, Nat.mul_assoc, Nat.mul_comm, Nat.mul_assoc, Nat.mul_mod_right] at hbq
    omega
  refine Classical.byContradiction fun hc => hb1 ?_
  have hf := hr.fermat hnd
  have := pow_gcd q (r - 1) hbq (by rw [hf, Nat.mod_eq_of_lt hr1])
  rwa [hq.cop hc, Nat.pow_one] at this
theorem pock1 {n q e : Nat} (hq : Pr q) (hb : pockB n q e = true) (hn : 1 < n) (hs : n < q * q) : Pr n :=
  pr_of_sq hn fun r hr hd => by
    have h1 := pock_dvd hq hb hn hr hd
    have h2 := hr.1
    have h3 := Nat.le_of_dvd (by omega) h1
    have := Nat.mul_le_mul (show q ≤ r by omega) (show q ≤ r by omega)
    omega
theorem pock2 {n q e q2 e2 : Nat} (hq : Pr q) (hb : pockB n q e = true) (hq2 : Pr q2) (hb2 : pockB n q2 e2 = true) (hne : ¬ q ∣ q2) (hn : 1 < n) (hs : n < (q * q2) * (q * q2)) : Pr n :=
  pr_of_sq hn fun r hr hd => by
    have h1 := pock_dvd hq hb hn hr hd
    have h1' := pock_dvd hq2 hb2 hn hr hd
    have h2 := hr.1
    have h3 := Nat.le_of_dvd (by omega) ((hq.cop hne).mul_dvd_of_dvd_of_dvd h1 h1')
    have := Nat.mul_le_mul (show q * q2 ≤ r by omega) (show q * q2 ≤ r by omega)
    omega
def trialB (n : Nat) : Bool := decide (1 < n) && (List.range n).all fun d => decide (d < 2) || decide (¬ n % d = 0)
theorem pr_trial {n : Nat} (h : trialB n = true) : Pr n := by
  simp only [trialB, Bool.and_eq_true, decide_eq_true_eq, List.all_eq_true, List.mem_range, Bool.or_eq_true] at h
  refine ⟨h.1, fun d hd => ?_⟩
  refine Classical.byContradiction fun hc => ?_
  have hle := Nat.le_of_dvd (by omega) hd
  have h1 := h.2 d (by omega)
  have h0 : d ≠ 0 := by
    rintro rfl
    have := Nat.eq_zero_of_zero_dvd hd
    omega
  rcases h1 with h1 | h1
  · omega
  · exact h1 (Nat.mod_eq_zero_of_dvd hd)
theorem pr_991 : Pr 991 := pr_trial (by decide +kernel)
theorem pr_103 : Pr 103 := pr_trial (by decide +kernel)
theorem pr_8574133 : Pr 8574133 := pock2 pr_991 (e := 8652) (by decide +kernel) pr_103 (e2 := 83244) (by decide +kernel) (by decide) (by decide) (by decide)
theorem pr_127 : Pr 127 := pr_trial (by decide +kernel)
theorem pr_big4 : Pr 1919519569386763 := pock2 pr_8574133 (e := 223873314) (by decide +kernel) pr_127 (e2 := 15114327318006) (by decide +kernel) (by decide) (by decide) (by decide)
theorem pr_419 : Pr 419 := pr_trial (by decide +kernel)
theorem pr_97 : Pr 97 := pr_trial (by decide +kernel)
theorem pr_569003 : Pr 569003 := pock2 pr_419 (e := 1358) (by decide +kernel) pr_97 (e2 := 5866) (by decide +kernel) (by decide) (by decide) (by decide)
theorem pr_2773320623 : Pr 2773320623 := pock1 pr_569003 (e := 4874) (by decide +kernel) (by decide) (by decide)
theorem pr_72106336199 : Pr 72106336199 := pock1 pr_2773320623 (e := 26) (by decide +kernel) (by decide) (by decide)
theorem pr_big10 : Pr 75445702479781427272750846543864801 := pock2 pr_big4 (e := 39304471641247389600) (by decide +kernel) pr_72106336199 (e2 := 1046311689884858398375200) (by decide +kernel) (by decide) (by decide) (by decide)
theorem pr_1723 : Pr 1723 := pr_trial (by decide +kernel)
theorem pr_430751 : Pr 430751 := pock1 pr_1723 (e := 250) (by decide +kernel) (by decide) (by decide)
theorem pr_4153 : Pr 4153 := pr_trial (by decide +kernel)
theorem pr_big14 : Pr 31757755568855353 := pock2 pr_430751 (e := 73726481352) (by decide +kernel) pr_4153 (e2 := 7646943310584) (by decide +kernel) (by decide) (by decide) (by decide)
theorem pr_big15 : Pr 74058212732561358302231226437062788676166966415465897661863160754340907 := pock2 pr_big10 (e := 981609426360740691344999861639072106) (by decide +kernel) pr_big14 (e2 := 2331972502653487852620185443007392165117953542933313402) (by decide +kernel) (by decide) (by decide) (by decide)
theorem pr_P : Pr 57896044618658097711785492504343953926634992332820282019728792003956564819949 := pock1 pr_big15 (e := 781764) (by decide +kernel) (by decide) (by decide)
theorem pr_2551 : Pr 2551 := pr_trial (by decide +kernel)
theorem pr_1224481 : Pr 1224481 := pock1 pr_2551 (e := 480) (by decide +kernel) (by decide) (by decide)
theorem pr_3797 : Pr 3797 := pr_trial (by decide +kernel)
theorem pr_531581 : Pr 531581 := pock1 pr_3797 (e := 140) (by decide +kernel) (by decide) (by decide)
theorem pr_big21 : Pr 1257559732178653 := pock2 pr_1224481 (e := 1027014492) (by decide +kernel) pr_531581 (e2 := 2365697292) (by decide +kernel) (by decide) (by decide) (by decide)
theorem pr_big22 : Pr 4434155615661930479 := pock1 pr_big21 (e := 3526) (by decide +kernel) (by decide) (by decide)
theorem pr_big23 : Pr 172054593956031949258510691 := pock1 pr_big22 (e := 38802110) (by decide +kernel) (by decide) (by decide)
theorem pr_big24 : Pr 19757330305831588566944191468367130476339 := pock1 pr_big23 (e := 114831751082918) (by decide +kernel) (by decide) (by decide)
theorem pr_big25 : Pr 276602624281642239937218680557139826668747 := pock1 pr_big24 (e := 14) (by decide +kernel) (by decide) (by decide)
theorem pr_L : Pr 7237005577332262213973186563042994240857116359379907606001950938285454250989 := pock1 pr_big25 (e := 26163907866482859529727157400808004) (by decide +kernel) (by decide) (by decide)

end Go.Proofs.Ytjhfmlnfbmckfaa
