/- What the checks of a message come to: closed forms. (cut to what is reached: wip/tools/slimout.py) -/
import Derived.Test.YtjjcgjpmhhkeaaaSACmS
import Derived.Test.YtjjcgjpmhhkeaaaSACmH
import Derived.Test.YtjjcgjpmhhkeaaaSAA1
import Derived.Test.YtjjcgjpmhhkeaaaSAA2
import Derived.Test.YtjjcgjpmhhkeaaaSAA3
import Derived.Test.YtjjcgjpmhhkeaaaSAA4
import Derived.Test.YtjjcgjpmhhkeaaaSAA5
namespace Go.Proofs.Ytjjcgjpmhhkeaaa.CmP
set_option linter.unusedSimpArgs false
set_option linter.unusedVariables false
open Go.RowKit Go.Proofs.Ytjjcgjpmhhkeaaa.CmG Go.Proofs.Ytjjcgjpmhhkeaaa.CmH Go.Proofs.Ytjjcgjpmhhkeaaa.CmF Go.Proofs.Ytjjcgjpmhhkeaaa.CmS Go.Proofs.Ytjjcgjpmhhkeaaa.A Go.Proofs.YtjjcgjpmhhkeaaaW.PrintWords Go.Proofs.YtjjcgjpmhhkeaaaW.PrintMore
def plErr : Option Int → List (Int × Int) → Int
  | _, [] => 0
  | q, p :: l => if p.1 < 0 ∨ p.1 ≥ 512 ∨ p.2 < 0 ∨ p.2 ≥ 16 then 2 else if q.any (fun x => decide (x ≥ p.1)) then 5 else plErr (some p.1) l
def plF (l : List (Int × Int)) : Int := plErr none l
def chkF (k : Int) (r : Bool) (n cd ct : Int) (l m : List (Int × Int)) : Int :=
  if k < 1 ∨ k > 6 then 1 else if n < 0 ∨ n > 255 ∨ cd < 0 ∨ cd > 3 ∨ ct < 0 ∨ ct > 512 then 2 else if l.length > 8 ∨ m.length > 8 then 8
  else if plF l ≠ 0 then plF l else if plF m ≠ 0 then plF m else if followsB k r cd ct l.length m.length = true then 0 else 11
def pr (x : S37) : Int × Int := (x.f0, x.f1)
theorem w64 (n : Int) (h : -9223372036854775808 ≤ n ∧ n ≤ 9223372036854775807) : wrap64 n = n := by unfold wrap64; omega
def prevOf (l : List S37) (i : Nat) : Option Int := if i = 0 then none else some (l.getD (i - 1) z37).f0
theorem drop_cons (l : List S37) (i : Nat) (h : i < l.length) : l.drop i = l.getD i z37 :: l.drop (i + 1) := by
  rw [List.drop_eq_getElem_cons h, List.getD_eq_getElem?_getD, List.getElem?_eq_getElem h]; rfl
theorem plErr_at (l : List S37) (i : Nat) (h : i < l.length) : plErr (prevOf l i) ((l.drop i).map pr) =
    if (l.getD i z37).f0 < 0 ∨ (l.getD i z37).f0 ≥ 512 ∨ (l.getD i z37).f1 < 0 ∨ (l.getD i z37).f1 ≥ 16 then 2
    else if i = 0 then plErr (prevOf l (i + 1)) ((l.drop (i + 1)).map pr) else if (l.getD (i - 1) z37).f0 ≥ (l.getD i z37).f0 then 5 else plErr (prevOf l (i + 1)) ((l.drop (i + 1)).map pr) := by
  rw [drop_cons l i h, List.map_cons, plErr]
  simp only [pr]
  by_cases hi : i = 0
  · subst hi; simp [prevOf, pr]
  · simp [prevOf, hi, pr]
theorem spots_l0 (l : List S37) (hl : l.length ≤ 9223372036854775807) : ∀ n i k : Nat, i + n = l.length → 2 * n + 1 ≤ k → cellmsg_spots.l0 k l l (l.length : Int) (i : Int) = some (plErr (prevOf l i) ((l.drop i).map pr)) := by
  intro n
  induction n with
  | zero =>
    intro i k hi hk
    obtain ⟨k, rfl⟩ : ∃ k', k = k' + 1 := ⟨k - 1, by omega⟩
    unfold cellmsg_spots.l0
    rw [if_neg (by omega), List.drop_eq_nil_of_le (by omega)]; rfl
  | succ n ih =>
    intro i k hi hk
    obtain ⟨k, rfl⟩ : ∃ k', k = k' + 2 := ⟨k - 2, by omega⟩
    have e1 : wrap64 ((i : Int) + 1) = ((i + 1 : Nat) : Int) := by rw [w64 _ (by omega)]; omega
    have hJ : ∀ b : Bool, ∀ y : Int, cellmsg_spots.j1 (k + 1) l i l (l.length : Int) i b (l.getD i z37).f0 y = if b = true then some 2 else if i = 0 then some (plErr (prevOf l (i + 1)) ((l.drop (i + 1)).map pr)) else if (l.getD (i - 1) z37).f0 ≥ (l.getD i z37).f0 then some 5 else some (plErr (prevOf l (i + 1)) ((l.drop (i + 1)).map pr)) := by
      intro b y
      unfold cellmsg_spots.j1
      by_cases hb : b = true
      · rw [if_pos hb, if_pos hb]
      · rw [if_neg hb, if_neg hb]
        by_cases hz : i = 0
        · rw [if_neg (by omega), if_pos hz, e1, ih (i + 1) k (by omega) (by omega)]
        · have e2 : wrap64 ((i : Int) - 1) = ((i - 1 : Nat) : Int) := by rw [w64 _ (by omega)]; omega
          rw [if_pos (by omega), if_neg hz, e2, if_pos (by omega), if_pos (by omega), e1, ih (i + 1) k (by omega) (by omega)]
          rfl
    rw [plErr_at l i (by omega)]
    unfold cellmsg_spots.l0
    have er : rd_T37 l (i : Int) = l.getD i z37 := rfl
    rw [if_pos (by omega), if_pos (by omega), if_pos (by omega), er]
    simp only [hJ]
    by_cases c1 : (l.getD i z37).f0 < 0
    · rw [if_pos c1, if_pos trivial, if_pos (.inl c1)]
    · rw [if_neg c1]
      by_cases c2 : (l.getD i z37).f0 ≥ 512
      · rw [if_pos c2, if_pos trivial, if_pos (.inr (.inl c2))]
      · rw [if_neg c2]
        by_cases c3 : (l.getD i z37).f1 < 0
        · rw [if_pos c3, if_pos trivial, if_pos (.inr (.inr (.inl c3)))]
        · rw [if_neg c3]
          by_cases c4 : (l.getD i z37).f1 ≥ 16
          · rw [if_pos (by simpa using c4), if_pos (.inr (.inr (.inr c4)))]
          · rw [if_neg (by simpa using c4), if_neg (show ¬((l.getD i z37).f0 < 0 ∨ (l.getD i z37).f0 ≥ 512 ∨ (l.getD i z37).f1 < 0 ∨ (l.getD i z37).f1 ≥ 16) by omega)]
            split
            · rfl
            · split <;> rfl
theorem spots_f (l : List S37) (hl : l.length ≤ 9223372036854775807) (k : Nat) (hk : 2 * l.length + 1 ≤ k) : cellmsg_spots.f k l = some (plF (l.map pr)) := by
  have := spots_l0 l hl l.length 0 k (by omega) hk
  simpa [prevOf, plF, cellmsg_spots.f] using this
theorem places_l0 (l : List S37) (hl : l.length ≤ 9223372036854775807) : ∀ n i k : Nat, i + n = l.length → 2 * n + 1 ≤ k → hopmeshref25_places.l0 k l (i : Int) = some (plErr (prevOf l i) ((l.drop i).map pr)) := by
  intro n
  induction n with
  | zero =>
    intro i k hi hk
    obtain ⟨k, rfl⟩ : ∃ k', k = k' + 1 := ⟨k - 1, by omega⟩
    unfold hopmeshref25_places.l0
    rw [if_neg (by omega), List.drop_eq_nil_of_le (by omega)]; rfl
  | succ n ih =>
    intro i k hi hk
    obtain ⟨k, rfl⟩ : ∃ k', k = k' + 2 := ⟨k - 2, by omega⟩
    have e1 : wrap64 ((i : Int) + 1) = ((i + 1 : Nat) : Int) := by rw [w64 _ (by omega)]; omega
    have hJ : ∀ b : Bool, hopmeshref25_places.j1 (k + 1) l i b = if b = true then some 2 else if i = 0 then some (plErr (prevOf l (i + 1)) ((l.drop (i + 1)).map pr)) else if (l.getD (i - 1) z37).f0 ≥ (l.getD i z37).f0 then some 5 else some (plErr (prevOf l (i + 1)) ((l.drop (i + 1)).map pr)) := by
      intro b
      unfold hopmeshref25_places.j1
      by_cases hb : b = true
      · rw [if_pos hb, if_pos hb]
      · rw [if_neg hb, if_neg hb]
        by_cases hz : i = 0
        · rw [if_neg (by omega), if_pos hz, e1, ih (i + 1) k (by omega) (by omega)]
        · have e2 : wrap64 ((i : Int) - 1) = ((i - 1 : Nat) : Int) := by rw [w64 _ (by omega)]; omega
          rw [if_pos (by omega), if_neg hz, e2, if_pos (by omega), if_pos (by omega), if_pos (by omega), if_pos (by omega), e1, ih (i + 1) k (by omega) (by omega)]
          rfl
    rw [plErr_at l i (by omega)]
    unfold hopmeshref25_places.l0
    have er : rd_T37 l (i : Int) = l.getD i z37 := rfl
    rw [if_pos (by omega), if_pos (by omega), er]
    simp only [hJ]
    by_cases c1 : (l.getD i z37).f0 < 0
    · rw [if_pos c1, if_pos trivial, if_pos (.inl c1)]
    · rw [if_neg c1]
      by_cases c2 : (l.getD i z37).f0 ≥ 512
      · rw [if_pos c2, if_pos trivial, if_pos (.inr (.inl c2))]
      · rw [if_neg c2]
        by_cases c3 : (l.getD i z37).f1 < 0
        · rw [if_pos c3, if_pos trivial, if_pos (.inr (.inr (.inl c3)))]
        · rw [if_neg c3]
          by_cases c4 : (l.getD i z37).f1 ≥ 16
          · rw [if_pos (by simpa using c4), if_pos (.inr (.inr (.inr c4)))]
          · rw [if_neg (by simpa using c4), if_neg (show ¬((l.getD i z37).f0 < 0 ∨ (l.getD i z37).f0 ≥ 512 ∨ (l.getD i z37).f1 < 0 ∨ (l.getD i z37).f1 ≥ 16) by omega)]
            split
            · rfl
            · split <;> rfl
theorem places_f (l : List S37) (hl : l.length ≤ 9223372036854775807) (k : Nat) (hk : 2 * l.length + 1 ≤ k) : hopmeshref25_places.f k l = some (plF (l.map pr)) := by
  have := places_l0 l hl l.length 0 k (by omega) hk
  simpa [prevOf, plF, hopmeshref25_places.f] using this
theorem ffollows (j : Nat) (k : Int) (r : Bool) (n cd ct : Int) (l m : List S37) (k0 : 1 ≤ k) (k1 : k ≤ 6) (hs : l.length ≤ 8) (hm : m.length ≤ 8) (hc : 0 ≤ ct) :
    hopmeshref25_follows.f (j + 1) k r n cd ct l m = some (followsB k r cd ct l.length m.length) := by
  unfold hopmeshref25_follows.f hopmeshref25_follows.j0
  obtain ⟨s, es⟩ : ∃ s, l.length = s := ⟨_, rfl⟩
  obtain ⟨o, eo⟩ : ∃ o, m.length = o := ⟨_, rfl⟩
  simp only [es, eo] at hs hm ⊢
  clear es eo
  have hk : k = 1 ∨ k = 2 ∨ k = 3 ∨ k = 4 ∨ k = 5 ∨ k = 6 := by omega
  by_cases hd : cd = 0
  · subst hd
    rcases hk with rfl | rfl | rfl | rfl | rfl | rfl <;> cases r <;>
      simp only [followsB, reqB, repB, b1, b2, b3, b4, b5, b6, b7, b8, mn, Int.reduceEq, reduceIte, Bool.false_eq_true, decide_true, Bool.true_and, bne_self_eq_false] <;>
      (repeat' split) <;> refine congrArg some (Bool.eq_iff_iff.2 ?_) <;> simp only [Bool.and_eq_true, decide_eq_true_eq, beq_iff_eq, Bool.false_eq_true, true_iff, false_iff] <;> omega
  · have hb : (cd != 0) = true := by simpa using hd
    cases r <;> simp only [followsB, hd, hb, b1, reduceIte, Bool.false_eq_true, decide_false, Bool.false_and] <;>
      (repeat' split) <;> refine congrArg some (Bool.eq_iff_iff.2 ?_) <;> simp only [Bool.and_eq_true, decide_eq_true_eq, beq_iff_eq, Bool.false_eq_true, true_iff, false_iff] <;> omega
theorem chk_ifs (a n cd ct : Int) (s o : Nat) (x y : Int) (f : Bool) (g : Option Bool) (hg : a < 1 ∨ a > 6 ∨ n < 0 ∨ n > 255 ∨ cd < 0 ∨ cd > 3 ∨ ct < 0 ∨ ct > 512 ∨ s > 8 ∨ o > 8 ∨ g = some f) :
    (if a < 1 then some 1 else if a > 6 then some 1 else if n < 0 then some 2 else if n > 255 then some 2 else if cd < 0 then some 2 else if cd > 3 then some 2 else if ct < 0 then some 2 else if ct > 512 then some 2
      else if (s : Int) > 8 then some 8 else if (o : Int) > 8 then some 8 else if x = 0 then (if y = 0 then g.bind (fun t => if t = true then some 0 else some 11) else some y) else some x) =
    some (if a < 1 ∨ a > 6 then 1 else if n < 0 ∨ n > 255 ∨ cd < 0 ∨ cd > 3 ∨ ct < 0 ∨ ct > 512 then 2 else if s > 8 ∨ o > 8 then 8 else if x ≠ 0 then x else if y ≠ 0 then y else if f = true then 0 else (11 : Int)) := by
  have P1 : ∀ (G : Option Int), (a < 1 ∨ a > 6) → (if a < 1 then some 1 else if a > 6 then some 1 else G) = some 1 := by
    intro G h
    by_cases h1 : a < 1
    · rw [if_pos h1]
    · rw [if_neg h1, if_pos (by omega)]
  have P1n : ∀ (G : Option Int), ¬(a < 1 ∨ a > 6) → (if a < 1 then some 1 else if a > 6 then some 1 else G) = G := by
    intro G h
    rw [if_neg (by omega), if_neg (by omega)]
  have P2n : ∀ (G : Option Int), ¬(n < 0 ∨ n > 255 ∨ cd < 0 ∨ cd > 3 ∨ ct < 0 ∨ ct > 512) → (if n < 0 then some 2 else if n > 255 then some 2 else if cd < 0 then some 2 else if cd > 3 then some 2 else if ct < 0 then some 2 else if ct > 512 then some 2 else G) = G := by
    intro G h
    rw [if_neg (by omega), if_neg (by omega), if_neg (by omega), if_neg (by omega), if_neg (by omega), if_neg (by omega)]
  have P2 : ∀ (G : Option Int), (n < 0 ∨ n > 255 ∨ cd < 0 ∨ cd > 3 ∨ ct < 0 ∨ ct > 512) → (if n < 0 then some 2 else if n > 255 then some 2 else if cd < 0 then some 2 else if cd > 3 then some 2 else if ct < 0 then some 2 else if ct > 512 then some 2 else G) = some 2 := by
    intro G h
    by_cases h1 : n < 0
    · rw [if_pos h1]
    by_cases h2 : n > 255
    · rw [if_neg h1, if_pos h2]
    by_cases h3 : cd < 0
    · rw [if_neg h1, if_neg h2, if_pos h3]
    by_cases h4 : cd > 3
    · rw [if_neg h1, if_neg h2, if_neg h3, if_pos h4]
    by_cases h5 : ct < 0
    · rw [if_neg h1, if_neg h2, if_neg h3, if_neg h4, if_pos h5]
    · rw [if_neg h1, if_neg h2, if_neg h3, if_neg h4, if_neg h5, if_pos (by omega)]
  by_cases c0 : a < 1 ∨ a > 6
  · rw [if_pos c0, P1 _ c0]
  · by_cases c1 : n < 0 ∨ n > 255 ∨ cd < 0 ∨ cd > 3 ∨ ct < 0 ∨ ct > 512
    · rw [if_neg c0, if_pos c1, P1n _ c0, P2 _ c1]
    · rw [if_neg c0, if_neg c1, P1n _ c0, P2n _ c1]
      by_cases c2 : s > 8 ∨ o > 8
      · rw [if_pos c2]
        by_cases h1 : (s : Int) > 8
        · rw [if_pos h1]
        · rw [if_neg h1, if_pos (by omega)]
      · have hg2 : g = some f := by
          rcases hg with h | h | h | h | h | h | h | h | h | h | h
          all_goals first | exact h | (exfalso; omega)
        rw [if_neg c2, hg2, Option.bind_some]
        rw [if_neg (show ¬(s : Int) > 8 by omega), if_neg (show ¬(o : Int) > 8 by omega)]
        by_cases hx : x = 0
        · rw [if_pos hx, if_neg (show ¬x ≠ 0 by omega)]
          by_cases hy : y = 0
          · rw [if_pos hy, if_neg (show ¬y ≠ 0 by omega)]
            split <;> rfl
          · rw [if_neg hy, if_pos hy]
        · rw [if_neg hx, if_pos hx]
theorem fcheck (k : Nat) (a : Int) (r : Bool) (n cd ct : Int) (l m : List S37) (hl : l.length ≤ 9223372036854775807) (hm : m.length ≤ 9223372036854775807) (hk : 2 * l.length + 2 * m.length + 9 ≤ k) :
    cellmsg_Check.f k a r n cd ct l m = some (chkF a r n cd ct (l.map pr) (m.map pr)) := by
  obtain ⟨k, rfl⟩ : ∃ k', k = k' + 1 + 1 := ⟨k - 2, by omega⟩
  have h1 := spots_f l hl k (by omega)
  have h2 := spots_f m hm k (by omega)
  simp only [cellmsg_Check.f, cellmsg_Check.j0, cellmsg_Check.j1, h1, h2, reduceIte, decide_eq_true_eq, Option.bind_some, chkF, List.length_map]
  refine chk_ifs a n cd ct l.length m.length _ _ (followsB a r cd ct l.length m.length) (cellmsg_follows.f a r n cd ct l m) ?_
  unfold cellmsg_follows.f
  by_cases c : 1 ≤ a ∧ a ≤ 6
  · rw [if_pos c]; simp
  · omega
theorem frcheck (k : Nat) (a : Int) (r : Bool) (n cd ct : Int) (l m : List S37) (hl : l.length ≤ 9223372036854775807) (hm : m.length ≤ 9223372036854775807) (hk : 2 * l.length + 2 * m.length + 9 ≤ k) :
    hopmeshref25_Check.f k a r n cd ct l m = some (chkF a r n cd ct (l.map pr) (m.map pr)) := by
  obtain ⟨k, rfl⟩ : ∃ k', k = k' + 1 + 1 + 1 + 1 := ⟨k - 4, by omega⟩
  have h1 := places_f l hl (k + 1) (by omega)
  have h2 := places_f m hm (k + 1) (by omega)
  simp only [hopmeshref25_Check.f, hopmeshref25_Check.j0, hopmeshref25_Check.j1, hopmeshref25_Check.j2, h1, h2, reduceIte, decide_eq_true_eq, Option.bind_some, chkF, List.length_map]
  refine chk_ifs a n cd ct l.length m.length _ _ (followsB a r cd ct l.length m.length) (hopmeshref25_follows.f (k + 1) a r n cd ct l m) ?_
  by_cases c : 1 ≤ a ∧ a ≤ 6 ∧ l.length ≤ 8 ∧ m.length ≤ 8 ∧ 0 ≤ ct
  · rw [ffollows k a r n cd ct l m (by omega) (by omega) (by omega) (by omega) (by omega)]; simp
  · omega
end Go.Proofs.Ytjjcgjpmhhkeaaa.CmP
