/- Plain algebra of residues modulo x^16 + x^12 + x^5 + 1 over GF(2), as BitVec 16: no program, no memory. (cut to what is reached: wip/tools/slimout2.py) -/
namespace Go.Proofs.Ytbgnkjaikbhdoaa.Alg
def T (a : BitVec 16) : BitVec 16 := if a.msb then (a <<< 1) ^^^ 0x1021#16 else a <<< 1
def Tn : Nat → BitVec 16 → BitVec 16
  | 0, a => a
  | n + 1, a => T (Tn n a)
theorem T_xor (a b : BitVec 16) : T (a ^^^ b) = T a ^^^ T b := by
  unfold T
  rw [BitVec.msb_xor, BitVec.shiftLeft_xor_distrib]
  cases a.msb <;> cases b.msb <;> simp [BitVec.xor_assoc]
  · rw [BitVec.xor_comm (b <<< 1)]
  · rw [← BitVec.xor_assoc 4129#16, BitVec.xor_comm 4129#16, BitVec.xor_assoc (b <<< 1), BitVec.xor_self]; simp
theorem T_zero : T 0#16 = 0#16 := by decide
theorem Tn_zero (n : Nat) : Tn n 0#16 = 0#16 := by
  induction n with
  | zero => rfl
  | succ n ih => simp only [Tn, ih, T_zero]
theorem Tn_xor (n : Nat) (a b : BitVec 16) : Tn n (a ^^^ b) = Tn n a ^^^ Tn n b := by
  induction n with
  | zero => rfl
  | succ n ih => simp only [Tn, ih, T_xor]
theorem Tn_add (m n : Nat) (a : BitVec 16) : Tn (m + n) a = Tn m (Tn n a) := by
  induction m with
  | zero => simp [Tn]
  | succ m ih => rw [Nat.succ_add]; simp only [Tn, ih]
theorem Tn_T (n : Nat) (a : BitVec 16) : Tn n (T a) = T (Tn n a) := by
  rw [show T a = Tn 1 a from rfl, ← Tn_add]; rfl
theorem Tn_succ' (n : Nat) (a : BitVec 16) : Tn (n + 1) a = Tn n (T a) := by rw [Tn_T]; rfl
theorem Tn_comm (m n : Nat) (a : BitVec 16) : Tn m (Tn n a) = Tn n (Tn m a) := by
  rw [← Tn_add, ← Tn_add, Nat.add_comm]
def S : Nat → BitVec 16 → BitVec 16 → BitVec 16
  | 0, _, _ => 0#16
  | n + 1, b, a => S n b a ^^^ (if b.getLsbD n then Tn n a else 0#16)
theorem xor4 (a b c d : BitVec 16) : (a ^^^ b) ^^^ (c ^^^ d) = (a ^^^ c) ^^^ (b ^^^ d) := by
  rw [BitVec.xor_assoc, BitVec.xor_assoc, ← BitVec.xor_assoc b, BitVec.xor_comm b c, BitVec.xor_assoc c]
theorem S_xor (n : Nat) (b a c : BitVec 16) : S n b (a ^^^ c) = S n b a ^^^ S n b c := by
  induction n with
  | zero => simp [S]
  | succ n ih => simp only [S, ih]; rw [xor4]; split <;> simp [Tn_xor]
theorem S_zero (n : Nat) (b : BitVec 16) : S n b 0#16 = 0#16 := by
  induction n with
  | zero => rfl
  | succ n ih => simp [S, ih, Tn_zero]
theorem S_Tn (n k : Nat) (b a : BitVec 16) : S n b (Tn k a) = Tn k (S n b a) := by
  induction n with
  | zero => simp [S, Tn_zero]
  | succ n ih => simp only [S, ih, Tn_xor]; congr 1; split <;> simp [Tn_zero, Tn_comm]
theorem S_comm (m n : Nat) (b c a : BitVec 16) : S m b (S n c a) = S n c (S m b a) := by
  induction m with
  | zero => simp [S, S_zero]
  | succ m ih => simp only [S, ih, S_xor]; congr 1; split <;> simp [S_zero, S_Tn]
theorem pow_bit : ∀ n, n < 16 → Tn n 1#16 = BitVec.twoPow 16 n := by decide
theorem S_one_bits (n : Nat) (hn : n ≤ 16) (b : BitVec 16) (j : Nat) (hj : j < 16) : (S n b 1#16).getLsbD j = (decide (j < n) && b.getLsbD j) := by
  induction n with
  | zero => simp [S]
  | succ n ih =>
    simp only [S, BitVec.getLsbD_xor, ih (by omega)]
    rw [pow_bit n (by omega)]
    by_cases e : j = n
    · subst e
      cases h : b.getLsbD j <;> simp [hj]
    · have e' : ¬ n = j := fun h => e h.symm
      by_cases l : j < n
      · have l2 : j < n + 1 := by omega
        cases h : b.getLsbD n <;> simp [BitVec.getLsbD_twoPow, l, l2, e']
      · have l2 : ¬ j < n + 1 := by omega
        cases h : b.getLsbD n <;> simp [BitVec.getLsbD_twoPow, l, l2, e']
theorem S_one (b : BitVec 16) : S 16 b 1#16 = b := by
  apply BitVec.eq_of_getLsbD_eq
  intro j hj
  rw [S_one_bits 16 (Nat.le_refl _) b j hj]; simp [hj]
def mul (a b : BitVec 16) : BitVec 16 := S 16 b a
theorem mul_comm (a b : BitVec 16) : mul a b = mul b a := by
  have h : S 16 b (S 16 a 1#16) = S 16 a (S 16 b 1#16) := S_comm _ _ _ _ _
  rw [S_one, S_one] at h; exact h
theorem mul_assoc (a b c : BitVec 16) : mul (mul a b) c = mul a (mul b c) := by
  rw [mul_comm a (mul b c)]; unfold mul
  have h1 : S 16 b a = S 16 b (S 16 a 1#16) := by rw [S_one]
  have h2 : S 16 c b = S 16 c (S 16 b 1#16) := by rw [S_one]
  rw [h1, h2, S_comm 16 16 b a, S_comm 16 16 c a]
theorem mul_one (a : BitVec 16) : mul a 1#16 = a := by rw [mul_comm]; exact S_one a
theorem one_mul (a : BitVec 16) : mul 1#16 a = a := S_one a
def b16 (c : UInt8) : BitVec 16 := BitVec.ofNat 16 c.toNat
def rem (l : List UInt8) : BitVec 16 := l.foldl (fun s c => Tn 8 s ^^^ b16 c) 0#16
def crcU (s : BitVec 16) (l : List UInt8) : BitVec 16 := l.foldl (fun s c => Tn 8 (s ^^^ (b16 c <<< 8))) s
theorem Tn_small (m n : Nat) (hmn : m + n ≤ 16) (a : BitVec 16) (h : a.toNat < 2 ^ n) : Tn m a = a <<< m := by
  induction m generalizing n with
  | zero => simp [Tn]
  | succ m ih =>
    rw [Tn, ih n (by omega) h]
    have hm : (a <<< m).msb = false := by
      rw [BitVec.msb_eq_getLsbD_last, BitVec.getLsbD_shiftLeft]
      have : a.getLsbD (16 - 1 - m) = false := by
        exact Nat.testBit_lt_two_pow (Nat.lt_of_lt_of_le h (Nat.pow_le_pow_right (by decide) (by omega)))
      simp [this]
    unfold T
    rw [hm, ← BitVec.shiftLeft_add]
    simp
theorem b16_shift (c : UInt8) : b16 c <<< 8 = Tn 8 (b16 c) := by
  rw [Tn_small 8 8 (by omega)]
  have := c.toNat_lt
  simp [b16]; omega
theorem rem_snoc (l : List UInt8) (c : UInt8) : rem (l ++ [c]) = Tn 8 (rem l) ^^^ b16 c := by simp [rem]
theorem crcU_snoc (s : BitVec 16) (l : List UInt8) (c : UInt8) : crcU s (l ++ [c]) = Tn 8 (crcU s l ^^^ (b16 c <<< 8)) := by simp [crcU]
theorem snoc_ind {α : Type} {P : List α → Prop} (h0 : P []) (h1 : ∀ l a, P l → P (l ++ [a])) (l : List α) : P l := by
  rw [← List.reverse_reverse l]
  induction l.reverse with
  | nil => exact h0
  | cons a l ih => rw [List.reverse_cons]; exact h1 _ _ ih
theorem crcU_eq (s : BitVec 16) (l : List UInt8) : crcU s l = Tn (8 * l.length) s ^^^ Tn 16 (rem l) := by
  induction l using snoc_ind with
  | h0 => simp [crcU, rem, Tn_zero]; rfl
  | h1 l c ih =>
    rw [crcU_snoc, ih, rem_snoc, b16_shift, Tn_xor, Tn_xor, Tn_xor, ← Tn_add, ← Tn_add 8 16, ← Tn_add 8 8, ← Tn_add 16 8, List.length_append]
    rw [show 8 + 8 * l.length = 8 * (l.length + [c].length) by simp; omega, BitVec.xor_assoc]
def crc (l : List UInt8) : BitVec 16 := crcU 0#16 l
theorem crc_rem (l : List UInt8) : crc l = Tn 16 (rem l) := by unfold crc; rw [crcU_eq, Tn_zero]; simp
def hi (s : BitVec 16) : UInt8 := UInt8.ofNat (s.toNat / 256)
def lo (s : BitVec 16) : UInt8 := UInt8.ofNat (s.toNat % 256)
theorem syndrome_eq (l : List UInt8) (a b : UInt8) : crc l ^^^ ((b16 a <<< 8) ^^^ b16 b) = rem (l ++ [a, b]) := by
  rw [show l ++ [a, b] = (l ++ [a]) ++ [b] by simp, rem_snoc, rem_snoc, crc_rem, b16_shift, Tn_xor, ← Tn_add, BitVec.xor_assoc]
def protect (l : List UInt8) : List UInt8 := l ++ [hi (crc l), lo (crc l)]
end Go.Proofs.Ytbgnkjaikbhdoaa.Alg
