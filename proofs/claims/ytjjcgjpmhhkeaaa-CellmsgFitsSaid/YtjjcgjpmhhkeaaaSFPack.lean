/- Bit strings and the bytes that hold them: plain lemmas. (cut to what is reached: wip/tools/slimout2.py) -/
namespace Go.Proofs.Ytjjcgjpmhhkeaaa.Pack
set_option linter.unusedSimpArgs false
set_option linter.unusedVariables false
def addBit (l : List UInt8) (n : Nat) (b : Bool) : List UInt8 :=
  let l' := if n % 8 = 0 then l ++ [0] else l
  l'.set (n / 8) (l'.getD (n / 8) 0 ||| ((if b then 1 else 0) <<< UInt8.ofNat (7 - n % 8)))
def packFrom (l : List UInt8) (n : Nat) : List Bool → List UInt8
  | [] => l
  | b :: r => packFrom (addBit l n b) (n + 1) r
def pack (bs : List Bool) : List UInt8 := packFrom [] 0 bs
theorem packFrom_append (l : List UInt8) (n : Nat) (a b : List Bool) : packFrom l n (a ++ b) = packFrom (packFrom l n a) (n + a.length) b := by
  induction a generalizing l n with
  | nil => rfl
  | cons x a ih => simp only [List.cons_append, packFrom, ih, List.length_cons]; congr 1; omega
theorem pack_snoc (bs : List Bool) (b : Bool) : pack (bs ++ [b]) = addBit (pack bs) bs.length b := by
  unfold pack; rw [packFrom_append]; simp [packFrom]
theorem addBit_length (l : List UInt8) (n : Nat) (b : Bool) : (addBit l n b).length = if n % 8 = 0 then l.length + 1 else l.length := by
  unfold addBit; simp only [List.length_set]; split <;> simp
theorem snoc_ind {α : Type} {P : List α → Prop} (h0 : P []) (h1 : ∀ l a, P l → P (l ++ [a])) (l : List α) : P l := by
  rw [← List.reverse_reverse l]
  induction l.reverse with
  | nil => exact h0
  | cons a l ih => rw [List.reverse_cons]; exact h1 _ _ ih
theorem pack_length (bs : List Bool) : (pack bs).length = (bs.length + 7) / 8 := by
  induction bs using snoc_ind with
  | h0 => rfl
  | h1 bs b ih => rw [pack_snoc, addBit_length, ih, List.length_append, List.length_singleton]; split <;> omega
def bitAt (l : List UInt8) (j : Nat) : Bool := (l.getD (j / 8) 0).toNat.testBit (7 - j % 8)
def bitsN : Nat → Nat → List Bool
  | 0, _ => []
  | k + 1, n => bitsN k (n / 2) ++ [n % 2 == 1]
theorem bitsN_length (k n : Nat) : (bitsN k n).length = k := by
  induction k generalizing n with
  | zero => rfl
  | succ k ih => simp [bitsN, ih]
theorem bitsN_cons (k n : Nat) : bitsN (k + 1) n = n.testBit k :: bitsN k n := by
  induction k generalizing n with
  | zero => simp [bitsN, Nat.testBit_zero]; by_cases h : n % 2 = 1 <;> simp [h]
  | succ k ih =>
    rw [bitsN, ih (n / 2), List.cons_append]
    rw [show bitsN k (n / 2) ++ [n % 2 == 1] = bitsN (k + 1) n from rfl]
    congr 1
    rw [Nat.testBit_succ]
end Go.Proofs.Ytjjcgjpmhhkeaaa.Pack
