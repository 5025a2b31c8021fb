/- What the printed functions of crc and of its reference come to, in the words of the plain algebra. -/
import Derived.Test.YtkhkmmabbpfngaaQ
import Derived.Test.YtkhkmmabbpfngaaCrcA
namespace Go.Proofs.Ytkhkmmabbpfngaa.Ev
open Go.RowKit Go.Proofs.Ytkhkmmabbpfngaa.Q Go.Proofs.Ytkhkmmabbpfngaa.Alg Go.Proofs.Ytkhkmmabbpfngaa.CrcA Go.Proofs.YtkhkmmabbpfngaaW.PrintWords Go.Proofs.YtkhkmmabbpfngaaW.PrintLast Go.Proofs.YtkhkmmabbpfngaaW.PrintMore

/-- A residue as a number. -/
abbrev n (a : BitVec 16) : Int := (a.toNat : Int)
theorem n_inj {a b : BitVec 16} : n a = n b ↔ a = b := by
  constructor
  · intro h; exact BitVec.eq_of_toNat_eq (by unfold n at h; omega)
  · rintro rfl; rfl
theorem n_of {a : Int} (h0 : 0 ≤ a) (h1 : a < 65536) : ∃ x : BitVec 16, a = n x := by
  refine ⟨BitVec.ofNat 16 a.toNat, ?_⟩
  unfold n
  rw [BitVec.toNat_ofNat, Nat.mod_eq_of_lt (by omega), Int.toNat_of_nonneg h0]
theorem wr {a : Int} (h0 : -9223372036854775808 ≤ a) (h1 : a ≤ 9223372036854775807) : wrap64 a = a := by unfold wrap64; omega

theorem times_ev (a : BitVec 16) : crc_times.f (n a) = some (n (T a)) := by
  unfold crc_times.f n
  rw [top_int, shl1_int, show (4129 : Int) = ((4129#16).toNat : Int) from rfl, xor_int]
  unfold T
  cases a.msb <;> simp
theorem rtimes_ev (a : BitVec 16) : hopmeshref03_Times.f (n a) = some (n (T a)) := by
  unfold hopmeshref03_Times.f n
  rw [shl1_int, show (4129 : Int) = ((4129#16).toNat : Int) from rfl, xor_int]
  unfold T
  rw [BitVec.msb_eq_decide]
  by_cases h : 2 ^ (16 - 1) ≤ a.toNat
  · rw [if_pos (by omega), decide_eq_true h, if_pos rfl]
  · rw [if_neg (by omega), decide_eq_false h, if_neg (by decide)]

theorem bit_int (b : BitVec 16) (j : Nat) (hj : j < 16) : (Go.bits .and .u16 (shr .u16 (n b) (j : Int)) 1 = 1) ↔ b.getLsbD j = true := by
  have hb := b.isLt
  have e : shr .u16 (n b) (j : Int) = ((b.toNat / 2 ^ j : Nat) : Int) := by
    unfold shr n
    rw [Int.toNat_natCast, Nat.min_eq_left (show j ≤ IntKind.u16.bits by show j ≤ 16; omega)]
    simp
  have hl : b.toNat / 2 ^ j < 65536 := Nat.lt_of_le_of_lt (Nat.div_le_self _ _) hb
  rw [e, show (1 : Int) = ((1 : Nat) : Int) from rfl, u16_and_nat _ _ hl (by decide), nat_mask1, BitVec.getLsbD, Nat.testBit_eq_decide_div_mod_eq, decide_eq_true_eq]
  generalize b.toNat / 2 ^ j = q
  omega

theorem mul_loop (a b : BitVec 16) (d : Nat) : ∀ (k i : Nat), i + d = 16 → d < k →
    crc_Multiply.l0 k (n a) (n b) (n (horner a b i)) (i : Int) = some (n (mul a b)) := by
  induction d with
  | zero =>
    intro k i hi hk
    obtain ⟨k, rfl⟩ : ∃ m, k = m + 1 := ⟨k - 1, by omega⟩
    simp only [crc_Multiply.l0]
    rw [if_neg (by omega)]
    obtain rfl : i = 16 := by omega
    rw [horner_mul]
  | succ d ih =>
    intro k i hi hk
    obtain ⟨k, rfl⟩ : ∃ m, k = m + 1 := ⟨k - 1, by omega⟩
    simp only [crc_Multiply.l0]
    rw [if_pos (by omega), times_ev]; simp only [Option.bind_some]
    rw [wr (a := 15 - (i : Int)) (by omega) (by omega), if_pos (by omega), show (15 - (i : Int)) = ((15 - i : Nat) : Int) by omega]
    rw [wr (a := (i : Int) + 1) (by omega) (by omega), show ((i : Int) + 1) = ((i + 1 : Nat) : Int) by omega]
    have h := ih k (i + 1) (by omega) (by omega)
    rw [horner] at h
    by_cases hb : b.getLsbD (15 - i) = true
    · rw [if_pos hb] at h
      rw [if_pos ((bit_int b (15 - i) (by omega)).2 hb)]
      rw [show Go.bits .xor .u16 (n (T (horner a b i))) (n a) = n (T (horner a b i) ^^^ a) from xor_int _ _]
      exact h
    · rw [if_neg hb] at h
      rw [if_neg (fun e => hb ((bit_int b (15 - i) (by omega)).1 e))]
      exact h
theorem mul_ev (a b : BitVec 16) (k : Nat) (hk : 16 < k) : crc_Multiply.f k (n a) (n b) = some (n (mul a b)) :=
  mul_loop a b 16 k 0 (by omega) hk
theorem rmul_loop (a b : BitVec 16) (d : Nat) : ∀ (k i : Nat), i + d = 16 → d < k →
    hopmeshref03_Multiply.l0 k (n a) (n b) (n (horner a b i)) (15 - (i : Int)) = some (n (mul a b)) := by
  induction d with
  | zero =>
    intro k i hi hk
    obtain ⟨k, rfl⟩ : ∃ m, k = m + 1 := ⟨k - 1, by omega⟩
    simp only [hopmeshref03_Multiply.l0]
    rw [if_neg (by omega)]
    obtain rfl : i = 16 := by omega
    rw [horner_mul]
  | succ d ih =>
    intro k i hi hk
    obtain ⟨k, rfl⟩ : ∃ m, k = m + 1 := ⟨k - 1, by omega⟩
    simp only [hopmeshref03_Multiply.l0]
    rw [if_pos (by omega), rtimes_ev]; simp only [Option.bind_some]
    have h := ih k (i + 1) (by omega) (by omega)
    rw [wr (a := 15 - (i : Int) - 1) (by omega) (by omega), if_pos (by omega), show (15 - (i : Int) - 1) = 15 - ((i + 1 : Nat) : Int) by omega]
    have e : (15 - (i : Int)) = ((15 - i : Nat) : Int) := by omega
    rw [e]
    rw [horner] at h
    by_cases hb : b.getLsbD (15 - i) = true
    · rw [if_pos hb] at h
      rw [if_pos ((bit_int b (15 - i) (by omega)).2 hb)]
      rw [show Go.bits .xor .u16 (n (T (horner a b i))) (n a) = n (T (horner a b i) ^^^ a) from xor_int _ _]
      exact h
    · rw [if_neg hb] at h
      rw [if_neg (fun e => hb ((bit_int b (15 - i) (by omega)).1 e))]
      exact h
theorem rmul_ev (a b : BitVec 16) (k : Nat) (hk : 16 < k) : hopmeshref03_Multiply.f k (n a) (n b) = some (n (mul a b)) :=
  rmul_loop a b 16 k 0 (by omega) hk

theorem i64_and1 (n : Int) : Go.bits .and .i64 n 1 = n % 2 := by
  have h127 : (BitVec.ofInt 64 1).toNat = 2 ^ 1 - 1 := by decide
  have key : (BitVec.ofInt 64 n &&& BitVec.ofInt 64 1).toNat = (n % ((2 ^ 64 : Nat) : Int)).toNat % 2 ^ 1 := by
    rw [BitVec.toNat_and, BitVec.toNat_ofInt, h127, Nat.and_two_pow_sub_one_eq_mod]
  show IntKind.i64.wrap ((BitVec.ofInt 64 n &&& BitVec.ofInt 64 1).toNat : Nat) = n % 2
  rw [key, IntKind.wrap_i64]
  omega
theorem odd_int (m : Nat) : (Go.bits .and .i64 (m : Int) 1 = 1) ↔ m % 2 = 1 := by
  rw [i64_and1]; omega
theorem pow_loop (m : Nat) : ∀ (k p s : Nat), m ≤ 9223372036854775807 → m + 17 < k →
    crc_Power.l0 k (m : Int) (n (pow p)) (n (pow s)) = some (n (pow (p + s * m))) := by
  induction m using Nat.strongRecOn with
  | _ m ih =>
    intro k p s hm hk
    obtain ⟨k, rfl⟩ : ∃ q, k = q + 1 := ⟨k - 1, by omega⟩
    simp only [crc_Power.l0]
    by_cases h0 : m = 0
    · subst h0; rw [if_neg (by omega)]; simp
    · rw [if_pos (by omega), mul_ev _ _ _ (by omega), mul_ev _ _ _ (by omega)]; simp only [Option.bind_some, pow_mul]
      rw [show ((m : Int) / 2) = ((m / 2 : Nat) : Int) by omega]
      by_cases ho : m % 2 = 1
      · rw [if_pos ((odd_int m).2 ho), ih (m / 2) (by omega) k _ _ (by omega) (by omega)]
        rw [show p + s + (s + s) * (m / 2) = p + s * m by
          have e : m = 2 * (m / 2) + 1 := by omega
          conv => rhs; rw [e]
          rw [Nat.mul_add, Nat.add_mul, Nat.mul_one, ← Nat.mul_assoc, Nat.mul_comm s 2, Nat.two_mul, Nat.add_mul]; omega]
      · rw [if_neg (fun e => ho ((odd_int m).1 e)), ih (m / 2) (by omega) k _ _ (by omega) (by omega)]
        rw [show p + (s + s) * (m / 2) = p + s * m by
          have e : m = 2 * (m / 2) := by omega
          conv => rhs; rw [e]
          rw [← Nat.mul_assoc, Nat.mul_comm s 2, Nat.two_mul]]
/-- x^n, 0 for a negative n. -/
def powI (m : Int) : BitVec 16 := if m < 0 then 0#16 else pow m.toNat
theorem pow_ev (m : Int) (h1 : m ≤ 9223372036854775807) (k : Nat) (hk : m.toNat + 17 < k) : crc_Power.f k m = some (n (powI m)) := by
  unfold crc_Power.f powI
  by_cases h : m < 0
  · rw [if_pos h, if_pos h]; rfl
  · rw [if_neg h, if_neg h]
    have e := pow_loop m.toNat k 0 1 (by omega) hk
    rw [Int.toNat_of_nonneg (by omega)] at e
    rw [show n (pow 0) = 1 from rfl, show n (pow 1) = 2 from rfl, Nat.zero_add, Nat.one_mul] at e
    exact e
theorem rpow_loop (m : Nat) : ∀ (k p s : Nat), m ≤ 9223372036854775807 → m + 17 < k →
    hopmeshref03_Power.l0 k (m : Int) (n (pow p)) (n (pow s)) = some (n (pow (p + s * m))) := by
  induction m using Nat.strongRecOn with
  | _ m ih =>
    intro k p s hm hk
    obtain ⟨k, rfl⟩ : ∃ q, k = q + 1 := ⟨k - 1, by omega⟩
    simp only [hopmeshref03_Power.l0]
    by_cases h0 : m = 0
    · subst h0; rw [if_neg (by omega)]; simp
    · rw [if_pos (by omega), rmul_ev _ _ _ (by omega), rmul_ev _ _ _ (by omega)]; simp only [Option.bind_some, pow_mul]
      have ed : wrap64 (Int.tdiv (m : Int) 2) = ((m / 2 : Nat) : Int) := by
        rw [Int.tdiv_eq_ediv_of_nonneg (by omega), wr (by omega) (by omega)]; omega
      have em : Int.tmod (m : Int) 2 = ((m % 2 : Nat) : Int) := by rw [Int.tmod_eq_emod_of_nonneg (by omega)]; omega
      rw [ed, em]
      by_cases ho : m % 2 = 1
      · rw [if_pos (by omega), ih (m / 2) (by omega) k _ _ (by omega) (by omega)]
        rw [show p + s + (s + s) * (m / 2) = p + s * m by
          have e : m = 2 * (m / 2) + 1 := by omega
          conv => rhs; rw [e]
          rw [Nat.mul_add, Nat.add_mul, Nat.mul_one, ← Nat.mul_assoc, Nat.mul_comm s 2, Nat.two_mul, Nat.add_mul]; omega]
      · rw [if_neg (by omega), ih (m / 2) (by omega) k _ _ (by omega) (by omega)]
        rw [show p + (s + s) * (m / 2) = p + s * m by
          have e : m = 2 * (m / 2) := by omega
          conv => rhs; rw [e]
          rw [← Nat.mul_assoc, Nat.mul_comm s 2, Nat.two_mul]]
theorem rpow_ev (m : Int) (h1 : m ≤ 9223372036854775807) (k : Nat) (hk : m.toNat + 17 < k) : hopmeshref03_Power.f k m = some (n (powI m)) := by
  unfold hopmeshref03_Power.f powI
  by_cases h : m < 0
  · rw [if_pos h, if_pos h]; rfl
  · rw [if_neg h, if_neg h]
    have e := rpow_loop m.toNat k 0 1 (by omega) hk
    rw [Int.toNat_of_nonneg (by omega)] at e
    rw [show n (pow 0) = 1 from rfl, show n (pow 1) = 2 from rfl, Nat.zero_add, Nat.one_mul] at e
    exact e

/-- The least i from i on, below lim and 32767, with x^i = s. -/
def loc (s : BitVec 16) : Nat → Nat → Nat → Int × Bool
  | 0, _, _ => (0, false)
  | d + 1, i, lim => if i < lim then if pow i = s then ((i : Int), true) else if i = 32766 then (0, false) else loc s d (i + 1) lim else (0, false)
theorem pow_step_one {i : Nat} (hi : i < 32767) : pow (i + 1) = 1#16 ↔ i = 32766 := by
  constructor
  · intro h
    by_cases e : i = 32766
    · exact e
    · exact absurd h (pow_ne_one (by omega) (by omega))
  · rintro rfl; exact pow_32767
theorem loc_loop (s : BitVec 16) (lim : Nat) (d : Nat) : ∀ (k i : Nat), i < 32767 → 32767 - i < d → d < k →
    crc_Locate.l0 k (n s) (n (pow i)) (lim : Int) (i : Int) = some (loc s d i lim) := by
  induction d with
  | zero => intro k i h1 h2; omega
  | succ d ih =>
    intro k i hi hd hk
    obtain ⟨k, rfl⟩ : ∃ q, k = q + 1 := ⟨k - 1, by omega⟩
    simp only [crc_Locate.l0, loc]
    by_cases hlt : i < lim
    · rw [if_pos (by omega), if_pos hlt]
      by_cases hs : pow i = s
      · rw [if_pos (n_inj.2 hs), if_pos hs]
      · rw [if_neg (fun e => hs (n_inj.1 e)), if_neg hs, times_ev]; simp only [Option.bind_some]
        have e1 : T (pow i) = pow (i + 1) := rfl
        rw [e1]
        by_cases h6 : i = 32766
        · rw [if_pos (by rw [(pow_step_one hi).2 h6]; rfl), if_pos h6]
        · have hne : ¬ n (pow (i + 1)) = 1 := fun e => h6 ((pow_step_one hi).1 (n_inj.1 (show n _ = n 1#16 from e)))
          rw [if_neg hne, if_neg h6, wr (by omega) (by omega), show ((i : Int) + 1) = ((i + 1 : Nat) : Int) by omega]
          exact ih k (i + 1) (by omega) (by omega) (by omega)
    · rw [if_neg (by omega), if_neg hlt]
/-- What Locate returns. -/
def locate (s : BitVec 16) (bits : Int) : Int × Bool := loc s 32768 0 (mn (mx bits 0) 524288).toNat
theorem lim_nat (bits : Int) : mn (mx bits 0) 524288 = ((mn (mx bits 0) 524288).toNat : Int) ∧ (mn (mx bits 0) 524288).toNat ≤ 524288 := by
  unfold mn mx; split <;> split <;> omega
theorem locate_ev (s : BitVec 16) (bits : Int) (k : Nat) (hk : 32768 < k) : crc_Locate.f k (n s) bits = some (locate s bits) := by
  unfold crc_Locate.f locate
  obtain ⟨e, _⟩ := lim_nat bits
  rw [e]
  exact loc_loop s _ 32768 k 0 (by omega) (by omega) hk
theorem loc_true {s : BitVec 16} {d i lim : Nat} (hi : i < 32767) (h : (loc s d i lim).2 = true) : ∃ j : Nat, (loc s d i lim).1 = (j : Int) ∧ i ≤ j ∧ j < lim ∧ j < 32767 ∧ pow j = s := by
  induction d generalizing i with
  | zero => simp [loc] at h
  | succ d ih =>
    simp only [loc] at h ⊢
    by_cases hlt : i < lim
    · rw [if_pos hlt] at h ⊢
      by_cases hs : pow i = s
      · rw [if_pos hs]; exact ⟨i, rfl, Nat.le_refl _, hlt, hi, hs⟩
      · rw [if_neg hs] at h ⊢
        by_cases h6 : i = 32766
        · rw [if_pos h6] at h; simp at h
        · rw [if_neg h6] at h ⊢
          obtain ⟨j, h1, h2, h3, h4, h5⟩ := ih (by omega) h
          exact ⟨j, h1, by omega, h3, h4, h5⟩
    · rw [if_neg hlt] at h; simp at h
theorem loc_false {s : BitVec 16} {d i lim : Nat} (hi : i < 32767) (hd : 32767 - i < d) (h : (loc s d i lim).2 = false) : (loc s d i lim).1 = 0 ∧ ∀ j, i ≤ j → j < lim → j < 32767 → pow j ≠ s := by
  induction d generalizing i with
  | zero => omega
  | succ d ih =>
    simp only [loc] at h ⊢
    by_cases hlt : i < lim
    · rw [if_pos hlt] at h ⊢
      by_cases hs : pow i = s
      · rw [if_pos hs] at h; simp at h
      · rw [if_neg hs] at h ⊢
        by_cases h6 : i = 32766
        · rw [if_pos h6]; exact ⟨rfl, fun j h1 h2 h3 => (show j = i by omega) ▸ hs⟩
        · rw [if_neg h6] at h ⊢
          obtain ⟨h1, h2⟩ := ih (by omega) (by omega) h
          refine ⟨h1, fun j a b c => ?_⟩
          by_cases e : j = i
          · subst e; exact hs
          · exact h2 j (by omega) b c
    · rw [if_neg hlt]; exact ⟨rfl, fun j h1 h2 => by omega⟩
theorem loc_at {i lim : Nat} (hi : i < 32767) : (loc (pow i) 32768 0 lim) = if i < lim then ((i : Int), true) else (0, false) := by
  cases h : (loc (pow i) 32768 0 lim).2 with
  | true =>
    obtain ⟨j, h1, _, h3, h4, h5⟩ := loc_true (by omega) h
    obtain rfl := pow_inj h4 hi h5
    rw [if_pos h3]; exact Prod.ext h1 h
  | false =>
    obtain ⟨h1, h2⟩ := loc_false (by omega) (by omega) h
    rw [if_neg (fun hl => h2 i (by omega) hl hi rfl)]; exact Prod.ext h1 h
theorem locate_at {i : Nat} {bits : Int} (hi : i < 32767) : locate (pow i) bits = if (i : Int) < bits then ((i : Int), true) else (0, false) := by
  unfold locate; rw [loc_at hi]
  have : (i < (mn (mx bits 0) 524288).toNat) ↔ (i : Int) < bits := by unfold mn mx; split <;> split <;> omega
  by_cases h : (i : Int) < bits
  · rw [if_pos h, if_pos (this.2 h)]
  · rw [if_neg h, if_neg (fun e => h (this.1 e))]

theorem awake_ev : ∃ k, hopmeshlaw03_awake.f k = some true := ⟨40, by decide +kernel⟩
end Go.Proofs.Ytkhkmmabbpfngaa.Ev
