/- Wrong bits and the syndrome: plain lemmas. -/
import Derived.Test.YtkhkmmabbpfngaaAlg
namespace Go.Proofs.Ytkhkmmabbpfngaa.FindsP
open Go.Proofs.Ytkhkmmabbpfngaa.Alg

/-- A string with these bits turned, one behind the other. -/
def flips (l : List UInt8) (ks : List Nat) : List UInt8 := ks.foldl flip l
/-- The sum of the powers of x. -/
def pows (ks : List Nat) : BitVec 16 := ks.foldl (fun a k => a ^^^ pow k) 0#16
theorem flips_snoc (l : List UInt8) (ks : List Nat) (k : Nat) : flips l (ks ++ [k]) = flip (flips l ks) k := by simp [flips]
theorem pows_snoc (ks : List Nat) (k : Nat) : pows (ks ++ [k]) = pows ks ^^^ pow k := by simp [pows]
theorem flips_length (l : List UInt8) (ks : List Nat) : (flips l ks).length = l.length := by
  induction ks using snoc_ind with
  | h0 => rfl
  | h1 ks k ih => rw [flips_snoc, flip_length, ih]
theorem rem_flips (l : List UInt8) (ks : List Nat) (h : ∀ k ∈ ks, k < 8 * l.length) : rem (flips l ks) = rem l ^^^ pows ks := by
  induction ks using snoc_ind with
  | h0 => simp [flips, pows]
  | h1 ks k ih =>
    rw [flips_snoc, rem_flip _ _ (by rw [flips_length]; exact h k (by simp)), ih (fun j hj => h j (by simp [hj])), pows_snoc, BitVec.xor_assoc]
theorem par_pows (ks : List Nat) : par 16 (pows ks) = (ks.length % 2 == 1) := by
  induction ks using snoc_ind with
  | h0 => rfl
  | h1 ks k ih =>
    rw [pows_snoc, par_xor, ih, par_pow, List.length_append, List.length_singleton]
    have : ks.length % 2 = 0 ∨ ks.length % 2 = 1 := by omega
    rcases this with h | h
    · rw [h, show (ks.length + 1) % 2 = 1 by omega]; rfl
    · rw [h, show (ks.length + 1) % 2 = 0 by omega]; rfl
theorem odd_ne (ks : List Nat) (h : ks.length % 2 = 1) : pows ks ≠ 0#16 := by
  intro e
  have := par_pows ks
  rw [e, par_zero, h] at this
  simp at this
theorem two_ne (a b : Nat) (ha : a < 32767) (hb : b < 32767) (h : a ≠ b) : pows [a, b] ≠ 0#16 := by
  intro e
  have e' : pow a ^^^ pow b = 0#16 := by simpa [pows] using e
  have : pow a = pow b := by
    have : pow a ^^^ pow b ^^^ pow b = 0#16 ^^^ pow b := by rw [e']
    simpa [BitVec.xor_assoc] using this
  exact h (pow_inj ha hb this)
/-- The bits of a burst that lie within the string. -/
def burst (m i n : Nat) (j : Nat) : List Nat := ((List.range j).filter fun k => m.testBit k && decide (i + k < n)).map (i + ·)
theorem burst_succ (m i n j : Nat) : burst m i n (j + 1) = if m.testBit j && decide (i + j < n) then burst m i n j ++ [i + j] else burst m i n j := by
  unfold burst
  rw [List.range_succ, List.filter_append, List.map_append]
  by_cases h : (m.testBit j && decide (i + j < n)) = true
  · rw [if_pos h]; simp [List.filter_cons, h]
  · rw [if_neg h]; simp [List.filter_cons, h]
theorem burst_lt (m i n j : Nat) : ∀ k ∈ burst m i n j, k < n := by
  intro k hk
  unfold burst at hk
  simp only [List.mem_map, List.mem_filter, Bool.and_eq_true, decide_eq_true_eq] at hk
  obtain ⟨a, ⟨_, _, h⟩, rfl⟩ := hk
  exact h
/-- A burst as a residue. -/
def mask (m i n : Nat) : Nat → BitVec 16
  | 0 => 0#16
  | j + 1 => if m.testBit j && decide (i + j < n) then mask m i n j ^^^ BitVec.twoPow 16 j else mask m i n j
theorem pows_burst (m i n j : Nat) (hj : j ≤ 16) : pows (burst m i n j) = Tn i (mask m i n j) := by
  induction j with
  | zero => simp [burst, pows, mask, Tn_zero]
  | succ j ih =>
    rw [burst_succ]
    simp only [mask]
    split
    · rw [pows_snoc, ih (by omega), Tn_xor, ← pow_bit j (by omega), ← Tn_add]; rfl
    · exact ih (by omega)
theorem mask_bit (m i n j : Nat) (hj : j ≤ 16) (k : Nat) (hk : k < 16) : (mask m i n j).getLsbD k = (decide (k < j) && m.testBit k && decide (i + k < n)) := by
  induction j with
  | zero => simp [mask]
  | succ j ih =>
    simp only [mask]
    by_cases h : (m.testBit j && decide (i + j < n)) = true
    · rw [if_pos h, BitVec.getLsbD_xor, ih (by omega)]
      by_cases e : k = j
      · subst e; simp at h; simp [hk, h.1, h.2]
      · have e' : ¬ j = k := fun x => e x.symm
        by_cases l : k < j
        · simp [l, e', show k < j + 1 by omega]
        · simp [l, e', show ¬ k < j + 1 by omega]
    · rw [if_neg h, ih (by omega)]
      by_cases e : k = j
      · subst e
        have : (m.testBit k && decide (i + k < n)) = false := by simpa using h
        simp only [Bool.and_assoc, this]; simp
      · by_cases l : k < j
        · simp [l, show k < j + 1 by omega]
        · simp [l, show ¬ k < j + 1 by omega]
theorem burst_zero (m i n : Nat) (h : pows (burst m i n 16) = 0#16) : burst m i n 16 = [] := by
  rw [pows_burst m i n 16 (Nat.le_refl _)] at h
  have h0 := Tn_eq_zero h
  unfold burst
  rw [List.map_eq_nil_iff, List.filter_eq_nil_iff]
  intro k hk
  have hk' : k < 16 := List.mem_range.1 hk
  have := mask_bit m i n 16 (Nat.le_refl _) k hk'
  rw [h0] at this
  simp [hk'] at this
  simp only [Bool.and_eq_true, decide_eq_true_eq, not_and]
  intro a
  have := this a
  omega
end Go.Proofs.Ytkhkmmabbpfngaa.FindsP
