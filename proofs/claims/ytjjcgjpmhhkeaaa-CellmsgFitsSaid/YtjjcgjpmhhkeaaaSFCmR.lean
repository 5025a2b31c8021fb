/- What the two Answers come to. (cut to what is reached: wip/tools/slimout2.py) -/
import Derived.Test.YtjjcgjpmhhkeaaaSFCmQ
import Derived.Test.YtjjcgjpmhhkeaaaSFB7
namespace Go.Proofs.Ytjjcgjpmhhkeaaa.CmR
set_option linter.unusedSimpArgs false
set_option linter.unusedVariables false
open Go.RowKit Go.Proofs.Ytjjcgjpmhhkeaaa.CmF Go.Proofs.Ytjjcgjpmhhkeaaa.CmS Go.Proofs.Ytjjcgjpmhhkeaaa.CmO Go.Proofs.Ytjjcgjpmhhkeaaa.CmP Go.Proofs.Ytjjcgjpmhhkeaaa.CmK Go.Proofs.Ytjjcgjpmhhkeaaa.CmQ Go.Proofs.Ytjjcgjpmhhkeaaa.B Go.Proofs.YtjjcgjpmhhkeaaaW.PrintWords Go.Proofs.YtjjcgjpmhhkeaaaW.PrintMore
abbrev pl (l : List S) : List (Int × Int) := l.map pq
theorem dropc (l : List S) (i : Nat) (h : i < l.length) : l.drop i = l.getD i Go.Proofs.Ytjjcgjpmhhkeaaa.B.z37 :: l.drop (i + 1) := by
  rw [List.drop_eq_getElem_cons h, List.getD_eq_getElem?_getD, List.getElem?_eq_getElem h]; rfl
theorem rdi (l : List S) (i : Nat) : Go.Proofs.Ytjjcgjpmhhkeaaa.B.rd_T37 l (i : Int) = l.getD i Go.Proofs.Ytjjcgjpmhhkeaaa.B.z37 := rfl
theorem eq_l0 (a b : List S) (hab : a.length = b.length) (hl : a.length ≤ 9223372036854775807) : ∀ n i k : Nat, i + n = a.length → n + 1 ≤ k → api_Spot_24.l0 k a b (a.length : Int) (i : Int) = some (decide (pl (a.drop i) = pl (b.drop i))) := by
  intro n
  induction n with
  | zero =>
    intro i k hi hk
    obtain ⟨k, rfl⟩ : ∃ k', k = k' + 1 := ⟨k - 1, by omega⟩
    unfold api_Spot_24.l0
    rw [if_neg (by omega), List.drop_eq_nil_of_le (by omega), List.drop_eq_nil_of_le (by omega)]; simp
  | succ n ih =>
    intro i k hi hk
    obtain ⟨k, rfl⟩ : ∃ k', k = k' + 1 := ⟨k - 1, by omega⟩
    unfold api_Spot_24.l0
    have e1 : wrap64 ((i : Int) + 1) = ((i + 1 : Nat) : Int) := by rw [w64 _ (by omega)]; omega
    rw [if_pos (by omega), if_pos (by omega), if_pos (by omega), if_pos (by omega), rdi, rdi, e1, ih (i + 1) k (by omega) (by omega), dropc a i (by omega), dropc b i (by omega)]
    generalize a.getD i Go.Proofs.Ytjjcgjpmhhkeaaa.B.z37 = x
    generalize b.getD i Go.Proofs.Ytjjcgjpmhhkeaaa.B.z37 = y
    by_cases h0 : x.f0 = y.f0
    · by_cases h1 : x.f1 = y.f1
      · rw [if_neg (by simp [h0, h1])]
        simp [pl, pq, h0, h1]
      · rw [if_pos (by simp [h1])]
        simp [pl, pq, h1]
    · rw [if_pos (by simp [h0])]
      simp [pl, pq, h0]
theorem eq_f (a b : List S) (hl : a.length ≤ 9223372036854775807) (k : Nat) (hk : a.length + 1 ≤ k) : api_Spot_24.f k a b = some (decide (pl a = pl b)) := by
  unfold api_Spot_24.f
  by_cases h : a.length = b.length
  · rw [if_pos (by omega)]
    exact eq_l0 a b h hl a.length 0 k (by omega) hk
  · rw [if_neg (by omega)]
    congr 1
    symm
    rw [decide_eq_false_iff_not]
    intro e
    have := congrArg List.length e
    simp [pl] at this
    omega
def Asc (l : List (Int × Int)) : Prop := l.Pairwise fun x y => x.1 < y.1
theorem plErr_asc : ∀ (l : List (Int × Int)) (q : Option Int), plErr q l = 0 → Asc l ∧ ∀ z, q = some z → ∀ p ∈ l, z < p.1 := by
  intro l
  induction l with
  | nil => intro q _; exact ⟨List.Pairwise.nil, fun _ _ p hp => by cases hp⟩
  | cons x l ih =>
    intro q h
    unfold plErr at h
    split at h
    · omega
    · split at h
      · omega
      · rename_i h2
        obtain ⟨h3, h4⟩ := ih _ h
        have hx := h4 _ rfl
        refine ⟨List.Pairwise.cons (fun p hp => hx p hp) h3, fun z hz p hp => ?_⟩
        subst hz
        have h5 : z < x.1 := by simpa using h2
        rcases List.mem_cons.1 hp with rfl | hp
        · exact h5
        · have := hx p hp; omega
def ansF (k : Int) (r : Bool) (n cd ct : Int) (l m : List (Int × Int)) (k' : Int) (r' : Bool) (n' cd' ct' : Int) (l' m' : List (Int × Int)) : Bool :=
  decide (chkF k r n cd ct l m = 0) && decide (chkF k' r' n' cd' ct' l' m' = 0) && !r && r' && decide (k = k') && decide (n = n') &&
    (decide (cd' ≠ 0) || (if k = 1 then decide (ct' ≤ ct) && l'.all (fun p => decide (p ∈ l)) else if k = 3 then decide (ct' ≤ ct) && l'.all (fun p => decide (p ∈ l)) && m'.all (fun p => decide (p ∈ m)) else if k = 2 then decide (m' = m) else true))
end Go.Proofs.Ytjjcgjpmhhkeaaa.CmR
