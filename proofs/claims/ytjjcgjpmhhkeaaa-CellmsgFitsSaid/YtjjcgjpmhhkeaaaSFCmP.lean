/- What the checks of a message come to: closed forms. (cut to what is reached: wip/tools/slimout2.py) -/
import Derived.Test.YtjjcgjpmhhkeaaaSFCmS
import Derived.Test.YtjjcgjpmhhkeaaaSFCmH
import Derived.Test.YtjjcgjpmhhkeaaaSFA1
import Derived.Test.YtjjcgjpmhhkeaaaSFA3
namespace Go.Proofs.Ytjjcgjpmhhkeaaa.CmP
set_option linter.unusedSimpArgs false
set_option linter.unusedVariables false
open Go.RowKit Go.Proofs.Ytjjcgjpmhhkeaaa.CmG Go.Proofs.Ytjjcgjpmhhkeaaa.CmH Go.Proofs.Ytjjcgjpmhhkeaaa.CmF Go.Proofs.Ytjjcgjpmhhkeaaa.CmS Go.Proofs.Ytjjcgjpmhhkeaaa.A Go.Proofs.YtjjcgjpmhhkeaaaW.PrintWords Go.Proofs.YtjjcgjpmhhkeaaaW.PrintMore
def plErr : Option Int → List (Int × Int) → Int
  | _, [] => 0
  | q, p :: l => if p.1 < 0 ∨ p.1 ≥ 512 ∨ p.2 < 0 ∨ p.2 ≥ 16 then 2 else if q.any (fun x => decide (x ≥ p.1)) then 5 else plErr (some p.1) l
def plF (l : List (Int × Int)) : Int := plErr none l
def chkF (k : Int) (r : Bool) (n cd ct : Int) (l m : List (Int × Int)) : Int :=
  if k < 1 ∨ k > 6 then 1 else if n < 0 ∨ n > 255 ∨ cd < 0 ∨ cd > 3 ∨ ct < 0 ∨ ct > 512 then 2 else if l.length > 8 ∨ m.length > 8 then 8
  else if plF l ≠ 0 then plF l else if plF m ≠ 0 then plF m else if followsB k r cd ct l.length m.length = true then 0 else 11
def pr (x : S37) : Int × Int := (x.f0, x.f1)
theorem w64 (n : Int) (h : -9223372036854775808 ≤ n ∧ n ≤ 9223372036854775807) : wrap64 n = n := by unfold wrap64; omega
def prevOf (l : List S37) (i : Nat) : Option Int := if i = 0 then none else some (l.getD (i - 1) z37).f0
theorem drop_cons (l : List S37) (i : Nat) (h : i < l.length) : l.drop i = l.getD i z37 :: l.drop (i + 1) := by
  rw [List.drop_eq_getElem_cons h, List.getD_eq_getElem?_getD, List.getElem?_eq_getElem h]; rfl
theorem plErr_at (l : List S37) (i : Nat) (h : i < l.length) : plErr (prevOf l i) ((l.drop i).map pr) =
    if (l.getD i z37).f0 < 0 ∨ (l.getD i z37).f0 ≥ 512 ∨ (l.getD i z37).f1 < 0 ∨ (l.getD i z37).f1 ≥ 16 then 2
    else if i = 0 then plErr (prevOf l (i + 1)) ((l.drop (i + 1)).map pr) else if (l.getD (i - 1) z37).f0 ≥ (l.getD i z37).f0 then 5 else plErr (prevOf l (i + 1)) ((l.drop (i + 1)).map pr) := by
  rw [drop_cons l i h, List.map_cons, plErr]
  simp only [pr]
  by_cases hi : i = 0
  · subst hi; simp [prevOf, pr]
  · simp [prevOf, hi, pr]
theorem spots_l0 (l : List S37) (hl : l.length ≤ 9223372036854775807) : ∀ n i k : Nat, i + n = l.length → 2 * n + 1 ≤ k → cellmsg_spots.l0 k l l (l.length : Int) (i : Int) = some (plErr (prevOf l i) ((l.drop i).map pr)) := by
  intro n
  induction n with
  | zero =>
    intro i k hi hk
    obtain ⟨k, rfl⟩ : ∃ k', k = k' + 1 := ⟨k - 1, by omega⟩
    unfold cellmsg_spots.l0
    rw [if_neg (by omega), List.drop_eq_nil_of_le (by omega)]; rfl
  | succ n ih =>
    intro i k hi hk
    obtain ⟨k, rfl⟩ : ∃ k', k = k' + 2 := ⟨k - 2, by omega⟩
    have e1 : wrap64 ((i : Int) + 1) = ((i + 1 : Nat) : Int) := by rw [w64 _ (by omega)]; omega
    have hJ : ∀ b : Bool, ∀ y : Int, cellmsg_spots.j1 (k + 1) l i l (l.length : Int) i b (l.getD i z37).f0 y = if b = true then some 2 else if i = 0 then some (plErr (prevOf l (i + 1)) ((l.drop (i + 1)).map pr)) else if (l.getD (i - 1) z37).f0 ≥ (l.getD i z37).f0 then some 5 else some (plErr (prevOf l (i + 1)) ((l.drop (i + 1)).map pr)) := by
      intro b y
      unfold cellmsg_spots.j1
      by_cases hb : b = true
      · rw [if_pos hb, if_pos hb]
      · rw [if_neg hb, if_neg hb]
        by_cases hz : i = 0
        · rw [if_neg (by omega), if_pos hz, e1, ih (i + 1) k (by omega) (by omega)]
        · have e2 : wrap64 ((i : Int) - 1) = ((i - 1 : Nat) : Int) := by rw [w64 _ (by omega)]; omega
          rw [if_pos (by omega), if_neg hz, e2, if_pos (by omega), if_pos (by omega), e1, ih (i + 1) k (by omega) (by omega)]
          rfl
    rw [plErr_at l i (by omega)]
    unfold cellmsg_spots.l0
    have er : rd_T37 l (i : Int) = l.getD i z37 := rfl
    rw [if_pos (by omega), if_pos (by omega), if_pos (by omega), er]
    simp only [hJ]
    by_cases c1 : (l.getD i z37).f0 < 0
    · rw [if_pos c1, if_pos trivial, if_pos (.inl c1)]
    · rw [if_neg c1]
      by_cases c2 : (l.getD i z37).f0 ≥ 512
      · rw [if_pos c2, if_pos trivial, if_pos (.inr (.inl c2))]
      · rw [if_neg c2]
        by_cases c3 : (l.getD i z37).f1 < 0
        · rw [if_pos c3, if_pos trivial, if_pos (.inr (.inr (.inl c3)))]
        · rw [if_neg c3]
          by_cases c4 : (l.getD i z37).f1 ≥ 16
          · rw [if_pos (by simpa using c4), if_pos (.inr (.inr (.inr c4)))]
          · rw [if_neg (by simpa using c4), if_neg (show ¬((l.getD i z37).f0 < 0 ∨ (l.getD i z37).f0 ≥ 512 ∨ (l.getD i z37).f1 < 0 ∨ (l.getD i z37).f1 ≥ 16) by omega)]
            split
            · rfl
            · split <;> rfl
theorem spots_f (l : List S37) (hl : l.length ≤ 9223372036854775807) (k : Nat) (hk : 2 * l.length + 1 ≤ k) : cellmsg_spots.f k l = some (plF (l.map pr)) := by
  have := spots_l0 l hl l.length 0 k (by omega) hk
  simpa [prevOf, plF, cellmsg_spots.f] using this
end Go.Proofs.Ytjjcgjpmhhkeaaa.CmP
