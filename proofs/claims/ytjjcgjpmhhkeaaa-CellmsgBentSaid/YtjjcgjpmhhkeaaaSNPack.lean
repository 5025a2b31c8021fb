/- Bit strings and the bytes that hold them: plain lemmas. (cut to what is reached: wip/tools/slimout2.py) -/
namespace Go.Proofs.Ytjjcgjpmhhkeaaa.Pack
set_option linter.unusedSimpArgs false
set_option linter.unusedVariables false
def addBit (l : List UInt8) (n : Nat) (b : Bool) : List UInt8 :=
  let l' := if n % 8 = 0 then l ++ [0] else l
  l'.set (n / 8) (l'.getD (n / 8) 0 ||| ((if b then 1 else 0) <<< UInt8.ofNat (7 - n % 8)))
def packFrom (l : List UInt8) (n : Nat) : List Bool → List UInt8
  | [] => l
  | b :: r => packFrom (addBit l n b) (n + 1) r
def pack (bs : List Bool) : List UInt8 := packFrom [] 0 bs
theorem packFrom_append (l : List UInt8) (n : Nat) (a b : List Bool) : packFrom l n (a ++ b) = packFrom (packFrom l n a) (n + a.length) b := by
  induction a generalizing l n with
  | nil => rfl
  | cons x a ih => simp only [List.cons_append, packFrom, ih, List.length_cons]; congr 1; omega
theorem pack_snoc (bs : List Bool) (b : Bool) : pack (bs ++ [b]) = addBit (pack bs) bs.length b := by
  unfold pack; rw [packFrom_append]; simp [packFrom]
theorem addBit_length (l : List UInt8) (n : Nat) (b : Bool) : (addBit l n b).length = if n % 8 = 0 then l.length + 1 else l.length := by
  unfold addBit; simp only [List.length_set]; split <;> simp
theorem snoc_ind {α : Type} {P : List α → Prop} (h0 : P []) (h1 : ∀ l a, P l → P (l ++ [a])) (l : List α) : P l := by
  rw [← List.reverse_reverse l]
  induction l.reverse with
  | nil => exact h0
  | cons a l ih => rw [List.reverse_cons]; exact h1 _ _ ih
theorem pack_length (bs : List Bool) : (pack bs).length = (bs.length + 7) / 8 := by
  induction bs using snoc_ind with
  | h0 => rfl
  | h1 bs b ih => rw [pack_snoc, addBit_length, ih, List.length_append, List.length_singleton]; split <;> omega
def bitAt (l : List UInt8) (j : Nat) : Bool := (l.getD (j / 8) 0).toNat.testBit (7 - j % 8)
theorem bit_or : ∀ (a : Nat), a < 256 → ∀ (p : Nat), p < 8 → ∀ (b : Bool), ∀ (q : Nat), q < 8 →
    ((UInt8.ofNat a) ||| ((if b then 1 else 0) <<< UInt8.ofNat p)).toNat.testBit q = (a.testBit q || (b && decide (p = q))) := by
  intro a ha p hp b q hq
  rw [UInt8.toNat_or, Nat.testBit_or, UInt8.toNat_ofNat', Nat.mod_eq_of_lt (show a < 2 ^ 8 by omega)]
  congr 1
  have h : ∀ p, p < 8 → ∀ (b : Bool), ∀ q, q < 8 → (((if b then (1 : UInt8) else 0) <<< UInt8.ofNat p).toNat.testBit q) = (b && decide (p = q)) := by decide
  exact h p hp b q hq
theorem bitAt_addBit (l : List UInt8) (n : Nat) (b : Bool) (hl : l.length = (n + 7) / 8) (hz : ∀ j, n ≤ j → bitAt l j = false) (j : Nat) :
    bitAt (addBit l n b) j = if j = n then b else bitAt l j := by
  have hext : ∀ j, bitAt (if n % 8 = 0 then l ++ [0] else l) j = bitAt l j := by
    intro j
    split
    · unfold bitAt
      by_cases h : j / 8 < l.length
      · simp [List.getD, List.getElem?_append_left h]
      · have h2 : l.getD (j / 8) 0 = 0 := by simp [List.getD, List.getElem?_eq_none (show l.length ≤ j / 8 by omega)]
        rw [h2]
        by_cases h3 : j / 8 = l.length
        · rw [h3]; simp [List.getD]
        · simp [List.getD, List.getElem?_eq_none (show (l ++ [0]).length ≤ j / 8 by simp; omega)]
    · rfl
  have hlen : n / 8 < (if n % 8 = 0 then l ++ [0] else l).length := by split <;> (try simp) <;> omega
  unfold addBit
  simp only
  generalize hm : (if n % 8 = 0 then l ++ [0] else l) = m at hext hlen ⊢
  by_cases h8 : j / 8 = n / 8
  · have hg : (m.set (n / 8) (m.getD (n / 8) 0 ||| ((if b then 1 else 0) <<< UInt8.ofNat (7 - n % 8)))).getD (j / 8) 0 = (m.getD (n / 8) 0 ||| ((if b then 1 else 0) <<< UInt8.ofNat (7 - n % 8))) := by
      rw [h8]; simp [List.getD, hlen]
    unfold bitAt
    rw [hg]
    have hc : m.getD (n / 8) 0 = UInt8.ofNat (m.getD (n / 8) 0).toNat := by simp
    rw [hc, bit_or _ (UInt8.toNat_lt _) _ (by omega) b _ (by omega)]
    have e := hext j
    unfold bitAt at e
    rw [h8] at e
    by_cases hj : j = n
    · subst hj
      have hz' := hz j (Nat.le_refl _)
      unfold bitAt at hz'
      rw [if_pos rfl, e, hz']; simp
    · rw [if_neg hj, e]
      have : decide (7 - n % 8 = 7 - j % 8) = false := by rw [decide_eq_false_iff_not]; omega
      rw [this, h8]; simp
  · have hj : j ≠ n := fun e => h8 (by rw [e])
    rw [if_neg hj, ← hext j]
    unfold bitAt
    have : n / 8 ≠ j / 8 := fun e => h8 e.symm
    simp [List.getD, List.getElem?_set, this]
theorem bitAt_pack (bs : List Bool) (j : Nat) : bitAt (pack bs) j = bs.getD j false := by
  induction bs using snoc_ind generalizing j with
  | h0 => simp [pack, packFrom, bitAt, List.getD]
  | h1 bs b ih =>
    rw [pack_snoc, bitAt_addBit _ _ _ (pack_length bs) (fun j hj => by rw [ih]; simp [List.getD, List.getElem?_eq_none hj]), ih]
    by_cases h : j = bs.length
    · subst h; simp [List.getD]
    · rw [if_neg h]
      by_cases l : j < bs.length
      · simp [List.getD, List.getElem?_append_left l]
      · simp [List.getD, List.getElem?_eq_none (show bs.length ≤ j by omega), List.getElem?_eq_none (show (bs ++ [b]).length ≤ j by simp; omega)]
theorem byte_ext (a b : UInt8) (h : ∀ q, q < 8 → a.toNat.testBit q = b.toNat.testBit q) : a = b := by
  apply UInt8.toNat_inj.1
  apply Nat.eq_of_testBit_eq
  intro i
  by_cases hi : i < 8
  · exact h i hi
  · have := a.toNat_lt; have := b.toNat_lt
    rw [Nat.testBit_lt_two_pow (Nat.lt_of_lt_of_le a.toNat_lt (Nat.pow_le_pow_right (by decide) (by omega))), Nat.testBit_lt_two_pow (Nat.lt_of_lt_of_le b.toNat_lt (Nat.pow_le_pow_right (by decide) (by omega)))]
theorem bytes_ext (l m : List UInt8) (hl : l.length = m.length) (h : ∀ j, j < 8 * l.length → bitAt l j = bitAt m j) : l = m := by
  apply List.ext_getElem hl
  intro i h1 h2
  apply byte_ext
  intro q hq
  have := h (8 * i + (7 - q)) (by omega)
  unfold bitAt at this
  rw [show (8 * i + (7 - q)) / 8 = i by omega, show 7 - (8 * i + (7 - q)) % 8 = q by omega] at this
  simpa [List.getD, h1, h2] using this
def bitsN : Nat → Nat → List Bool
  | 0, _ => []
  | k + 1, n => bitsN k (n / 2) ++ [n % 2 == 1]
theorem bitsN_length (k n : Nat) : (bitsN k n).length = k := by
  induction k generalizing n with
  | zero => rfl
  | succ k ih => simp [bitsN, ih]
theorem bitsN_cons (k n : Nat) : bitsN (k + 1) n = n.testBit k :: bitsN k n := by
  induction k generalizing n with
  | zero => simp [bitsN, Nat.testBit_zero]; by_cases h : n % 2 = 1 <;> simp [h]
  | succ k ih =>
    rw [bitsN, ih (n / 2), List.cons_append]
    rw [show bitsN k (n / 2) ++ [n % 2 == 1] = bitsN (k + 1) n from rfl]
    congr 1
    rw [Nat.testBit_succ]
def valN (bs : List Bool) : Nat := bs.foldl (fun a b => 2 * a + (if b then 1 else 0)) 0
theorem valN_snoc (bs : List Bool) (b : Bool) : valN (bs ++ [b]) = 2 * valN bs + (if b then 1 else 0) := by simp [valN]
theorem valN_lt (bs : List Bool) : valN bs < 2 ^ bs.length := by
  induction bs using snoc_ind with
  | h0 => simp [valN]
  | h1 bs b ih => rw [valN_snoc, List.length_append, List.length_singleton, Nat.pow_succ]; split <;> omega
theorem valN_bitsN (k n : Nat) (h : n < 2 ^ k) : valN (bitsN k n) = n := by
  induction k generalizing n with
  | zero => have : n = 0 := by simpa using h
            subst this; rfl
  | succ k ih =>
    rw [bitsN, valN_snoc, ih _ (by rw [Nat.pow_succ] at h; omega)]
    by_cases e : n % 2 = 1
    · rw [e]; simp; omega
    · have : n % 2 = 0 := by omega
      rw [this]; simp; omega
theorem bitsN_valN (bs : List Bool) : bitsN bs.length (valN bs) = bs := by
  induction bs using snoc_ind with
  | h0 => rfl
  | h1 bs b ih =>
    rw [List.length_append, List.length_singleton, bitsN, valN_snoc]
    have e1 : (2 * valN bs + if b then 1 else 0) / 2 = valN bs := by split <;> omega
    have e2 : ((2 * valN bs + if b then 1 else 0) % 2 == 1) = b := by cases b <;> simp <;> omega
    rw [e1, e2, ih]
end Go.Proofs.Ytjjcgjpmhhkeaaa.Pack
