/- Plain algebra of residues modulo x^16 + x^12 + x^5 + 1 over GF(2), as BitVec 16: no program, no memory. -/
namespace Go.Proofs.Ytbgnkjaikbhdoaa.Alg

/-- A residue times x. -/
def T (a : BitVec 16) : BitVec 16 := if a.msb then (a <<< 1) ^^^ 0x1021#16 else a <<< 1

/-- A residue times x^n. -/
def Tn : Nat → BitVec 16 → BitVec 16
  | 0, a => a
  | n + 1, a => T (Tn n a)

theorem T_xor (a b : BitVec 16) : T (a ^^^ b) = T a ^^^ T b := by
  unfold T
  rw [BitVec.msb_xor, BitVec.shiftLeft_xor_distrib]
  cases a.msb <;> cases b.msb <;> simp [BitVec.xor_assoc]
  · rw [BitVec.xor_comm (b <<< 1)]
  · rw [← BitVec.xor_assoc 4129#16, BitVec.xor_comm 4129#16, BitVec.xor_assoc (b <<< 1), BitVec.xor_self]; simp

theorem T_zero : T 0#16 = 0#16 := by decide
theorem Tn_zero (n : Nat) : Tn n 0#16 = 0#16 := by
  induction n with
  | zero => rfl
  | succ n ih => simp only [Tn, ih, T_zero]
theorem Tn_xor (n : Nat) (a b : BitVec 16) : Tn n (a ^^^ b) = Tn n a ^^^ Tn n b := by
  induction n with
  | zero => rfl
  | succ n ih => simp only [Tn, ih, T_xor]
theorem Tn_add (m n : Nat) (a : BitVec 16) : Tn (m + n) a = Tn m (Tn n a) := by
  induction m with
  | zero => simp [Tn]
  | succ m ih => rw [Nat.succ_add]; simp only [Tn, ih]
theorem Tn_T (n : Nat) (a : BitVec 16) : Tn n (T a) = T (Tn n a) := by
  rw [show T a = Tn 1 a from rfl, ← Tn_add]; rfl
theorem Tn_succ' (n : Nat) (a : BitVec 16) : Tn (n + 1) a = Tn n (T a) := by rw [Tn_T]; rfl
theorem Tn_comm (m n : Nat) (a : BitVec 16) : Tn m (Tn n a) = Tn n (Tn m a) := by
  rw [← Tn_add, ← Tn_add, Nat.add_comm]

/-- The sum of x^i a over the set bits i < n of b. -/
def S : Nat → BitVec 16 → BitVec 16 → BitVec 16
  | 0, _, _ => 0#16
  | n + 1, b, a => S n b a ^^^ (if b.getLsbD n then Tn n a else 0#16)

theorem xor4 (a b c d : BitVec 16) : (a ^^^ b) ^^^ (c ^^^ d) = (a ^^^ c) ^^^ (b ^^^ d) := by
  rw [BitVec.xor_assoc, BitVec.xor_assoc, ← BitVec.xor_assoc b, BitVec.xor_comm b c, BitVec.xor_assoc c]

theorem S_xor (n : Nat) (b a c : BitVec 16) : S n b (a ^^^ c) = S n b a ^^^ S n b c := by
  induction n with
  | zero => simp [S]
  | succ n ih => simp only [S, ih]; rw [xor4]; split <;> simp [Tn_xor]
theorem S_xor_left (n : Nat) (b c a : BitVec 16) : S n (b ^^^ c) a = S n b a ^^^ S n c a := by
  induction n with
  | zero => simp [S]
  | succ n ih =>
    simp only [S, ih]; rw [xor4]; congr 1
    rw [BitVec.getLsbD_xor]; cases b.getLsbD n <;> cases c.getLsbD n <;> simp
theorem S_zero (n : Nat) (b : BitVec 16) : S n b 0#16 = 0#16 := by
  induction n with
  | zero => rfl
  | succ n ih => simp [S, ih, Tn_zero]
theorem S_zero_left (n : Nat) (a : BitVec 16) : S n 0#16 a = 0#16 := by
  induction n with
  | zero => rfl
  | succ n ih => simp [S, ih]
theorem S_Tn (n k : Nat) (b a : BitVec 16) : S n b (Tn k a) = Tn k (S n b a) := by
  induction n with
  | zero => simp [S, Tn_zero]
  | succ n ih => simp only [S, ih, Tn_xor]; congr 1; split <;> simp [Tn_zero, Tn_comm]
theorem S_comm (m n : Nat) (b c a : BitVec 16) : S m b (S n c a) = S n c (S m b a) := by
  induction m with
  | zero => simp [S, S_zero]
  | succ m ih => simp only [S, ih, S_xor]; congr 1; split <;> simp [S_zero, S_Tn]

theorem pow_bit : ∀ n, n < 16 → Tn n 1#16 = BitVec.twoPow 16 n := by decide
theorem S_one_bits (n : Nat) (hn : n ≤ 16) (b : BitVec 16) (j : Nat) (hj : j < 16) : (S n b 1#16).getLsbD j = (decide (j < n) && b.getLsbD j) := by
  induction n with
  | zero => simp [S]
  | succ n ih =>
    simp only [S, BitVec.getLsbD_xor, ih (by omega)]
    rw [pow_bit n (by omega)]
    by_cases e : j = n
    · subst e
      cases h : b.getLsbD j <;> simp [hj]
    · have e' : ¬ n = j := fun h => e h.symm
      by_cases l : j < n
      · have l2 : j < n + 1 := by omega
        cases h : b.getLsbD n <;> simp [BitVec.getLsbD_twoPow, l, l2, e']
      · have l2 : ¬ j < n + 1 := by omega
        cases h : b.getLsbD n <;> simp [BitVec.getLsbD_twoPow, l, l2, e']
theorem S_one (b : BitVec 16) : S 16 b 1#16 = b := by
  apply BitVec.eq_of_getLsbD_eq
  intro j hj
  rw [S_one_bits 16 (Nat.le_refl _) b j hj]; simp [hj]

/-- The product of two residues. -/
def mul (a b : BitVec 16) : BitVec 16 := S 16 b a
theorem mul_comm (a b : BitVec 16) : mul a b = mul b a := by
  have h : S 16 b (S 16 a 1#16) = S 16 a (S 16 b 1#16) := S_comm _ _ _ _ _
  rw [S_one, S_one] at h; exact h
theorem mul_assoc (a b c : BitVec 16) : mul (mul a b) c = mul a (mul b c) := by
  rw [mul_comm a (mul b c)]; unfold mul
  have h1 : S 16 b a = S 16 b (S 16 a 1#16) := by rw [S_one]
  have h2 : S 16 c b = S 16 c (S 16 b 1#16) := by rw [S_one]
  rw [h1, h2, S_comm 16 16 b a, S_comm 16 16 c a]
theorem mul_xor (a b c : BitVec 16) : mul a (b ^^^ c) = mul a b ^^^ mul a c := S_xor_left _ _ _ _
theorem mul_one (a : BitVec 16) : mul a 1#16 = a := by rw [mul_comm]; exact S_one a
theorem one_mul (a : BitVec 16) : mul 1#16 a = a := S_one a
theorem mul_Tn (a b : BitVec 16) (n : Nat) : mul a (Tn n b) = Tn n (mul a b) := by
  rw [mul_comm, mul_comm a b]; exact S_Tn _ _ _ _
theorem Tn_mul (a b : BitVec 16) (n : Nat) : mul (Tn n a) b = Tn n (mul a b) := S_Tn _ _ _ _

/-- x^n. -/
def pow (n : Nat) : BitVec 16 := Tn n 1#16
theorem pow_mul (m n : Nat) : mul (pow m) (pow n) = pow (m + n) := by
  unfold pow; rw [mul_Tn, mul_one, Nat.add_comm, Tn_add]
theorem mul_pow (a : BitVec 16) (n : Nat) : mul a (pow n) = Tn n a := by unfold pow; rw [mul_Tn, mul_one]

/-- Horner's rule, from the highest bit on: k steps. -/
def horner (a b : BitVec 16) : Nat → BitVec 16
  | 0 => 0#16
  | k + 1 => if b.getLsbD (15 - k) then T (horner a b k) ^^^ a else T (horner a b k)
theorem horner_eq (a b : BitVec 16) (k : Nat) (hk : k ≤ 16) : Tn (16 - k) (horner a b k) ^^^ S (16 - k) b a = S 16 b a := by
  induction k with
  | zero => simp [horner, Tn_zero]
  | succ k ih =>
    rw [← ih (by omega)]
    have e : 16 - k = (16 - (k + 1)) + 1 := by omega
    have e2 : 15 - k = 16 - (k + 1) := by omega
    rw [e]; simp only [horner, S, Tn, e2]
    rw [← Tn_T]
    split
    · rw [Tn_xor, BitVec.xor_assoc, BitVec.xor_comm (Tn _ a)]
    · simp
theorem horner_mul (a b : BitVec 16) : horner a b 16 = mul a b := by
  have h := horner_eq a b 16 (Nat.le_refl _); simpa [S, Tn, mul] using h

/-! ### T has no kernel; the order of x -/
theorem T_eq_zero {a : BitVec 16} (h : T a = 0#16) : a = 0#16 := by
  unfold T at h
  apply BitVec.eq_of_getLsbD_eq
  intro j hj
  simp only [BitVec.getLsbD_zero]
  cases hm : a.msb with
  | true =>
    rw [hm, if_pos rfl] at h
    have := congrArg (fun x => x.getLsbD 0) h
    simp at this
  | false =>
    rw [hm] at h
    simp only [Bool.false_eq_true, if_false] at h
    by_cases e : j = 15
    · subst e; rw [BitVec.msb_eq_getLsbD_last] at hm; exact hm
    · have := congrArg (fun x => x.getLsbD (j + 1)) h
      simp only [BitVec.getLsbD_shiftLeft, BitVec.getLsbD_zero] at this
      have l1 : j + 1 < 16 := by omega
      have l2 : ¬ (j + 1 < 1) := by omega
      simpa [l1, l2] using this
theorem Tn_eq_zero {n : Nat} {a : BitVec 16} (h : Tn n a = 0#16) : a = 0#16 := by
  induction n with
  | zero => exact h
  | succ n ih => exact ih (T_eq_zero h)
theorem Tn_inj {n : Nat} {a b : BitVec 16} (h : Tn n a = Tn n b) : a = b := by
  have : Tn n (a ^^^ b) = 0#16 := by rw [Tn_xor, h, BitVec.xor_self]
  have := Tn_eq_zero this
  have e : a ^^^ b ^^^ b = 0#16 ^^^ b := by rw [this]
  simpa [BitVec.xor_assoc] using e
theorem pow_ne_zero (n : Nat) : pow n ≠ 0#16 := fun h => absurd (Tn_eq_zero h) (by decide)

/-- x^n by squarings: for reckoning alone. -/
def powF : Nat → Nat → BitVec 16
  | 0, _ => 1#16
  | f + 1, n => if n = 0 then 1#16 else let h := powF f (n / 2); let q := mul h h; if n % 2 = 1 then T q else q
theorem powF_eq (f n : Nat) (h : n < 2 ^ f) : powF f n = pow n := by
  induction f generalizing n with
  | zero => have : n = 0 := by simpa using h
            subst this; rfl
  | succ f ih =>
    unfold powF
    by_cases e : n = 0
    · subst e; rfl
    · rw [if_neg e]
      have h2 : n / 2 < 2 ^ f := by rw [Nat.pow_succ] at h; omega
      simp only [ih _ h2, pow_mul]
      split
      · have e2 : n = (n / 2 + n / 2) + 1 := by omega
        conv => rhs; rw [e2]
        rfl
      · have e2 : n = n / 2 + n / 2 := by omega
        conv => rhs; rw [e2]
theorem pow_32767 : pow 32767 = 1#16 := by rw [← powF_eq 15 32767 (by decide)]; decide +kernel
theorem pow_4681 : pow 4681 ≠ 1#16 := by rw [← powF_eq 15 4681 (by decide)]; decide +kernel
theorem pow_1057 : pow 1057 ≠ 1#16 := by rw [← powF_eq 15 1057 (by decide)]; decide +kernel
theorem pow_217 : pow 217 ≠ 1#16 := by rw [← powF_eq 15 217 (by decide)]; decide +kernel
theorem pow_add (m n : Nat) : pow (m + n) = Tn m (pow n) := Tn_add _ _ _
theorem pow_sub {a b : Nat} (ha : pow a = 1#16) (hb : pow (a + b) = 1#16) : pow b = 1#16 := by
  rw [Nat.add_comm, pow_add, ha] at hb; exact hb
theorem pow_times {g : Nat} (h : pow g = 1#16) (k : Nat) : pow (g * k) = 1#16 := by
  induction k with
  | zero => rfl
  | succ k ih => rw [Nat.mul_succ, Nat.add_comm, pow_add, ih]; exact h
theorem pow_mod {g n : Nat} (h : pow g = 1#16) : pow (n % g) = pow n := by
  conv => rhs; rw [← Nat.div_add_mod n g]
  rw [Nat.add_comm, pow_add, pow_times h]; rfl
theorem pow_gcd {a b : Nat} (ha : pow a = 1#16) (hb : pow b = 1#16) : pow (Nat.gcd a b) = 1#16 := by
  induction a, b using Nat.gcd.induction with
  | H0 n => simpa using hb
  | H1 m n hm ih =>
    rw [Nat.gcd_rec]
    exact ih (by rw [pow_mod ha]; exact hb) ha
theorem parts_of {g k : Nat} (h : g * k = 32767) (hg : g ≠ 32767) : (g ∣ 4681) ∨ (g ∣ 1057) ∨ (g ∣ 217) := by
  have hp : ∀ p, p ∣ 7 → p = 1 ∨ p = 7 := by intro p hp; have := Nat.le_of_dvd (by decide) hp; revert hp; revert p; decide
  have hp2 : ∀ p, p ∣ 31 → p = 1 ∨ p = 31 := by intro p hp; have := Nat.le_of_dvd (by decide) hp; revert hp; revert p; decide
  have hp3 : ∀ p, p ∣ 151 → p = 1 ∨ p = 151 := by
    intro p hp; have hle := Nat.le_of_dvd (by decide) hp
    have : ∀ q, q ≤ 151 → q ∣ 151 → q = 1 ∨ q = 151 := by decide +kernel
    exact this p hle hp
  rcases hp _ (Nat.gcd_dvd_right k 7) with h7 | h7
  · rcases hp2 _ (Nat.gcd_dvd_right k 31) with h31 | h31
    · rcases hp3 _ (Nat.gcd_dvd_right k 151) with h151 | h151
      · exfalso
        have d : k ∣ 7 * (31 * 151) := ⟨g, by rw [Nat.mul_comm k g]; exact h.symm⟩
        have d1 := Nat.Coprime.dvd_of_dvd_mul_left (show Nat.Coprime k 7 from h7) d
        have d2 := Nat.Coprime.dvd_of_dvd_mul_left (show Nat.Coprime k 31 from h31) d1
        have d3 : k ∣ Nat.gcd k 151 := Nat.dvd_gcd (Nat.dvd_refl _) d2
        rw [h151] at d3
        have : k = 1 := Nat.dvd_one.1 d3
        subst this; exact hg (by simpa using h)
      · have d : 151 ∣ k := by rw [← h151]; exact Nat.gcd_dvd_left _ _
        obtain ⟨m, rfl⟩ := d
        exact .inr (.inr ⟨m, by have : 151 * (g * m) = 151 * 217 := by rw [Nat.mul_left_comm, h]
                                exact (Nat.eq_of_mul_eq_mul_left (by decide) this).symm⟩)
    · have d : 31 ∣ k := by rw [← h31]; exact Nat.gcd_dvd_left _ _
      obtain ⟨m, rfl⟩ := d
      exact .inr (.inl ⟨m, by have : 31 * (g * m) = 31 * 1057 := by rw [Nat.mul_left_comm, h]
                              exact (Nat.eq_of_mul_eq_mul_left (by decide) this).symm⟩)
  · have d : 7 ∣ k := by rw [← h7]; exact Nat.gcd_dvd_left _ _
    obtain ⟨m, rfl⟩ := d
    exact .inl ⟨m, by have : 7 * (g * m) = 7 * 4681 := by rw [Nat.mul_left_comm, h]
                      exact (Nat.eq_of_mul_eq_mul_left (by decide) this).symm⟩
theorem pow_ne_one {d : Nat} (h0 : 0 < d) (h : d < 32767) : pow d ≠ 1#16 := by
  intro e
  have g1 := pow_gcd e pow_32767
  obtain ⟨k, hk⟩ := Nat.gcd_dvd_right d 32767
  have hlt : Nat.gcd d 32767 ≠ 32767 := by
    have := Nat.le_of_dvd h0 (Nat.gcd_dvd_left d 32767); omega
  rcases parts_of hk.symm hlt with ⟨m, hm⟩ | ⟨m, hm⟩ | ⟨m, hm⟩
  · exact pow_4681 (by rw [hm]; exact pow_times g1 m)
  · exact pow_1057 (by rw [hm]; exact pow_times g1 m)
  · exact pow_217 (by rw [hm]; exact pow_times g1 m)
theorem pow_inj {i j : Nat} (hi : i < 32767) (hj : j < 32767) (h : pow i = pow j) : i = j := by
  rcases Nat.lt_trichotomy i j with l | l | l
  · exfalso
    have e : j = i + (j - i) := by omega
    rw [e, pow_add] at h
    have : Tn i 1#16 = Tn i (pow (j - i)) := h
    exact pow_ne_one (d := j - i) (by omega) (by omega) (Tn_inj this).symm
  · exact l
  · exfalso
    have e : i = j + (i - j) := by omega
    rw [e, pow_add] at h
    have : Tn j (pow (i - j)) = Tn j 1#16 := h
    exact pow_ne_one (d := i - j) (by omega) (by omega) (Tn_inj this)

/-! ### parity: the generator has an even number of terms -/
def par : Nat → BitVec 16 → Bool
  | 0, _ => false
  | n + 1, a => par n a ^^ a.getLsbD n
theorem par_xor (n : Nat) (a b : BitVec 16) : par n (a ^^^ b) = (par n a ^^ par n b) := by
  induction n with
  | zero => rfl
  | succ n ih => simp only [par, ih, BitVec.getLsbD_xor]; cases par n a <;> cases par n b <;> cases a.getLsbD n <;> cases b.getLsbD n <;> rfl
theorem par_zero (n : Nat) : par n 0#16 = false := by induction n with
  | zero => rfl
  | succ n ih => simp [par, ih]
theorem par_shift (n : Nat) (hn : n < 16) (a : BitVec 16) : par (n + 1) (a <<< 1) = par n a := by
  induction n with
  | zero => simp [par]
  | succ n ih =>
    rw [par, ih (by omega)]
    simp only [par, BitVec.getLsbD_shiftLeft]
    have l : n + 1 < 16 := hn
    simp [l]
theorem par_T (a : BitVec 16) : par 16 (T a) = par 16 a := by
  have h : par 16 (a <<< 1) = par 15 a := par_shift 15 (by omega) a
  have h2 : par 16 a = (par 15 a ^^ a.msb) := by rw [BitVec.msb_eq_getLsbD_last]; rfl
  unfold T
  rw [h2]
  cases a.msb
  · simpa using h
  · rw [if_pos rfl, par_xor, h]; rfl
theorem par_Tn (n : Nat) (a : BitVec 16) : par 16 (Tn n a) = par 16 a := by
  induction n with
  | zero => rfl
  | succ n ih => rw [Tn, par_T, ih]
theorem par_pow (n : Nat) : par 16 (pow n) = true := by unfold pow; rw [par_Tn]; rfl

/-! ### strings of bytes -/
/-- A byte as a residue. -/
def b16 (c : UInt8) : BitVec 16 := BitVec.ofNat 16 c.toNat
/-- The remainder of a string's polynomial. -/
def rem (l : List UInt8) : BitVec 16 := l.foldl (fun s c => Tn 8 s ^^^ b16 c) 0#16
/-- The check sum of a string that follows one of the sum s. -/
def crcU (s : BitVec 16) (l : List UInt8) : BitVec 16 := l.foldl (fun s c => Tn 8 (s ^^^ (b16 c <<< 8))) s

/-- A residue below x^n, for n + m ≤ 16: m times x is a shift. -/
theorem Tn_small (m n : Nat) (hmn : m + n ≤ 16) (a : BitVec 16) (h : a.toNat < 2 ^ n) : Tn m a = a <<< m := by
  induction m generalizing n with
  | zero => simp [Tn]
  | succ m ih =>
    rw [Tn, ih n (by omega) h]
    have hm : (a <<< m).msb = false := by
      rw [BitVec.msb_eq_getLsbD_last, BitVec.getLsbD_shiftLeft]
      have : a.getLsbD (16 - 1 - m) = false := by
        exact Nat.testBit_lt_two_pow (Nat.lt_of_lt_of_le h (Nat.pow_le_pow_right (by decide) (by omega)))
      simp [this]
    unfold T
    rw [hm, ← BitVec.shiftLeft_add]
    simp
theorem b16_shift (c : UInt8) : b16 c <<< 8 = Tn 8 (b16 c) := by
  rw [Tn_small 8 8 (by omega)]
  have := c.toNat_lt
  simp [b16]; omega
theorem rem_append (l m : List UInt8) : rem (l ++ m) = m.foldl (fun s c => Tn 8 s ^^^ b16 c) (rem l) := by
  simp [rem]
theorem rem_snoc (l : List UInt8) (c : UInt8) : rem (l ++ [c]) = Tn 8 (rem l) ^^^ b16 c := by simp [rem]
theorem crcU_snoc (s : BitVec 16) (l : List UInt8) (c : UInt8) : crcU s (l ++ [c]) = Tn 8 (crcU s l ^^^ (b16 c <<< 8)) := by simp [crcU]
theorem crcU_append (s : BitVec 16) (l m : List UInt8) : crcU s (l ++ m) = crcU (crcU s l) m := by simp [crcU]
theorem snoc_ind {α : Type} {P : List α → Prop} (h0 : P []) (h1 : ∀ l a, P l → P (l ++ [a])) (l : List α) : P l := by
  rw [← List.reverse_reverse l]
  induction l.reverse with
  | nil => exact h0
  | cons a l ih => rw [List.reverse_cons]; exact h1 _ _ ih
theorem crcU_eq (s : BitVec 16) (l : List UInt8) : crcU s l = Tn (8 * l.length) s ^^^ Tn 16 (rem l) := by
  induction l using snoc_ind with
  | h0 => simp [crcU, rem, Tn_zero]; rfl
  | h1 l c ih =>
    rw [crcU_snoc, ih, rem_snoc, b16_shift, Tn_xor, Tn_xor, Tn_xor, ← Tn_add, ← Tn_add 8 16, ← Tn_add 8 8, ← Tn_add 16 8, List.length_append]
    rw [show 8 + 8 * l.length = 8 * (l.length + [c].length) by simp; omega, BitVec.xor_assoc]
/-- The check sum. -/
def crc (l : List UInt8) : BitVec 16 := crcU 0#16 l
theorem crc_rem (l : List UInt8) : crc l = Tn 16 (rem l) := by unfold crc; rw [crcU_eq, Tn_zero]; simp
/-- The two bytes of a sum. -/
def hi (s : BitVec 16) : UInt8 := UInt8.ofNat (s.toNat / 256)
def lo (s : BitVec 16) : UInt8 := UInt8.ofNat (s.toNat % 256)
theorem hilo (s : BitVec 16) : (b16 (hi s) <<< 8) ^^^ b16 (lo s) = s := by
  have hs := s.isLt
  have e : b16 (hi s) = s >>> 8 := by
    apply BitVec.eq_of_toNat_eq
    simp [b16, hi, BitVec.toNat_ushiftRight, Nat.shiftRight_eq_div_pow]
    omega
  have e2 : b16 (lo s) = s &&& 0xff#16 := by
    apply BitVec.eq_of_toNat_eq
    simp [b16, lo]
    rw [show 255 = 2 ^ 8 - 1 from rfl, Nat.and_two_pow_sub_one_eq_mod]; omega
  rw [e, e2]
  apply BitVec.eq_of_getLsbD_eq
  intro j hj
  have : ∀ j, j < 16 → (s >>> 8 <<< 8 ^^^ s &&& 0xff#16).getLsbD j = s.getLsbD j := by
    intro j hj
    simp only [BitVec.getLsbD_xor, BitVec.getLsbD_shiftLeft, BitVec.getLsbD_ushiftRight, BitVec.getLsbD_and]
    have hm : ∀ j, j < 16 → (0xff#16).getLsbD j = decide (j < 8) := by decide
    rw [hm j hj]
    by_cases l : j < 8
    · simp [l]
    · have e : 8 + (j - 8) = j := by omega
      simp [l, hj, e]
  exact this j hj
theorem lohi_of (a b : UInt8) : hi ((b16 a <<< 8) ^^^ b16 b) = a ∧ lo ((b16 a <<< 8) ^^^ b16 b) = b := by
  have ha := a.toNat_lt; have hb := b.toNat_lt
  have e : ((b16 a <<< 8) ^^^ b16 b).toNat = a.toNat * 256 + b.toNat := by
    simp only [b16, BitVec.toNat_xor, BitVec.toNat_shiftLeft, BitVec.toNat_ofNat]
    rw [Nat.mod_eq_of_lt (show a.toNat < 2 ^ 16 by omega), Nat.mod_eq_of_lt (show b.toNat < 2 ^ 16 by omega), Nat.shiftLeft_eq, Nat.mod_eq_of_lt (by omega)]
    have h := Nat.two_pow_add_eq_or_of_lt (i := 8) (b := b.toNat) (by omega) a.toNat
    rw [show a.toNat * 2 ^ 8 = 2 ^ 8 * a.toNat from Nat.mul_comm _ _]
    apply Nat.eq_of_testBit_eq
    intro i
    rw [show 2 ^ 8 * a.toNat + b.toNat = 2 ^ 8 * a.toNat ||| b.toNat from h, Nat.testBit_xor, Nat.testBit_or]
    by_cases l : i < 8
    · have hz : (2 ^ 8 * a.toNat).testBit i = false := by rw [Nat.testBit_two_pow_mul, decide_eq_false (by omega)]; rfl
      rw [hz]; simp
    · have : b.toNat.testBit i = false := Nat.testBit_lt_two_pow (Nat.lt_of_lt_of_le (show b.toNat < 2 ^ 8 by omega) (Nat.pow_le_pow_right (by decide) (by omega)))
      simp [this]
  constructor
  · unfold hi; rw [e]; rw [show (a.toNat * 256 + b.toNat) / 256 = a.toNat by omega]; simp
  · unfold lo; rw [e]; rw [show (a.toNat * 256 + b.toNat) % 256 = b.toNat by omega]; simp
/-- A string's syndrome is the remainder of its polynomial. -/
theorem syndrome_eq (l : List UInt8) (a b : UInt8) : crc l ^^^ ((b16 a <<< 8) ^^^ b16 b) = rem (l ++ [a, b]) := by
  rw [show l ++ [a, b] = (l ++ [a]) ++ [b] by simp, rem_snoc, rem_snoc, crc_rem, b16_shift, Tn_xor, ← Tn_add, BitVec.xor_assoc]
/-- The protected string. -/
def protect (l : List UInt8) : List UInt8 := l ++ [hi (crc l), lo (crc l)]
theorem rem_protect (l : List UInt8) : rem (protect l) = 0#16 := by
  unfold protect; rw [← syndrome_eq, hilo, BitVec.xor_self]
theorem protect_of {l : List UInt8} {a b : UInt8} (h : rem (l ++ [a, b]) = 0#16) : l ++ [a, b] = protect l := by
  rw [← syndrome_eq] at h
  have e : (b16 a <<< 8) ^^^ b16 b = crc l := by
    have : crc l ^^^ (crc l ^^^ ((b16 a <<< 8) ^^^ b16 b)) = crc l ^^^ 0#16 := by rw [h]
    rw [← BitVec.xor_assoc, BitVec.xor_self] at this; simpa using this
  unfold protect
  rw [← e, (lohi_of a b).1, (lohi_of a b).2]
theorem rem_zero_iff {l : List UInt8} {a b : UInt8} : rem (l ++ [a, b]) = 0#16 ↔ l ++ [a, b] = protect l :=
  ⟨protect_of, fun h => by rw [h]; exact rem_protect l⟩

/-! ### exclusive or of strings, and a turned bit -/
def xors (l m : List UInt8) : List UInt8 := List.zipWith (· ^^^ ·) l m
theorem b16_xor (a b : UInt8) : b16 (a ^^^ b) = b16 a ^^^ b16 b := by
  apply BitVec.eq_of_toNat_eq
  simp [b16]
theorem fold_xors (l m : List UInt8) (h : l.length = m.length) (s t : BitVec 16) :
    (xors l m).foldl (fun s c => Tn 8 s ^^^ b16 c) (s ^^^ t) = l.foldl (fun s c => Tn 8 s ^^^ b16 c) s ^^^ m.foldl (fun s c => Tn 8 s ^^^ b16 c) t := by
  induction l generalizing m s t with
  | nil => cases m with
    | nil => rfl
    | cons _ _ => simp at h
  | cons a l ih => cases m with
    | nil => simp at h
    | cons b m =>
      simp only [xors, List.zipWith_cons_cons, List.foldl_cons]
      rw [Tn_xor, b16_xor, xor4]
      exact ih m (by simpa using h) _ _
theorem rem_xors (l m : List UInt8) (h : l.length = m.length) : rem (xors l m) = rem l ^^^ rem m := by
  have := fold_xors l m h 0#16 0#16
  simpa [rem] using this
theorem xors_length (l m : List UInt8) (h : l.length = m.length) : (xors l m).length = l.length := by simp [xors, h]
theorem crc_xors (l m : List UInt8) (h : l.length = m.length) : crc (xors l m) = crc l ^^^ crc m := by
  rw [crc_rem, crc_rem, crc_rem, rem_xors l m h, Tn_xor]
/-- A string in which bit i, counted from the last one, is turned. -/
def flip (l : List UInt8) (i : Nat) : List UInt8 := l.set (l.length - 1 - i / 8) (l.getD (l.length - 1 - i / 8) 0 ^^^ (1 <<< UInt8.ofNat (i % 8)))
theorem flip_length (l : List UInt8) (i : Nat) : (flip l i).length = l.length := by simp [flip]
theorem b16_bit : ∀ k, k < 8 → b16 (1 <<< UInt8.ofNat k) = Tn k 1#16 := by decide
theorem rem_set (l : List UInt8) (j : Nat) (hj : j < l.length) (c : UInt8) : rem (l.set j (l.getD j 0 ^^^ c)) = rem l ^^^ Tn (8 * (l.length - 1 - j)) (b16 c) := by
  induction l using snoc_ind with
  | h0 => simp at hj
  | h1 l a ih =>
    simp only [List.length_append, List.length_singleton] at hj ⊢
    by_cases e : j = l.length
    · subst e
      have e1 : (l ++ [a]).getD l.length 0 = a := by simp
      rw [e1, List.set_append_right _ _ (Nat.le_refl _)]
      simp only [Nat.sub_self, List.set_cons_zero, rem_snoc, b16_xor]
      simp [Tn, BitVec.xor_assoc]
    · have hl : j < l.length := by omega
      have e1 : (l ++ [a]).getD j 0 = l.getD j 0 := by simp [List.getD_eq_getElem?_getD, List.getElem?_append_left hl]
      rw [e1, List.set_append_left _ _ hl, rem_snoc, ih hl, rem_snoc, Tn_xor, ← Tn_add]
      rw [show 8 + 8 * (l.length - 1 - j) = 8 * (l.length + 1 - 1 - j) by omega]
      rw [BitVec.xor_assoc, BitVec.xor_assoc, BitVec.xor_comm (b16 a)]
theorem rem_flip (l : List UInt8) (i : Nat) (hi : i < 8 * l.length) : rem (flip l i) = rem l ^^^ pow i := by
  unfold flip
  rw [rem_set l _ (by omega), b16_bit _ (by omega), ← Tn_add]
  rw [show 8 * (l.length - 1 - (l.length - 1 - i / 8)) + i % 8 = i by omega]; rfl
end Go.Proofs.Ytbgnkjaikbhdoaa.Alg
