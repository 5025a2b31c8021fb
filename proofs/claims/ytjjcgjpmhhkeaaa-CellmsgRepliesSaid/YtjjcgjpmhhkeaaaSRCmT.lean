/- CmsgReplies: Accept, Refuse and Same, plain. (cut to what is reached: wip/tools/slimout.py) -/
import Derived.Test.YtjjcgjpmhhkeaaaSRCmR2
import Derived.Test.YtjjcgjpmhhkeaaaSRB11
namespace Go.Proofs.Ytjjcgjpmhhkeaaa.CmT
set_option linter.unusedSimpArgs false
set_option linter.unusedVariables false
open Go.RowKit Go.Proofs.Ytjjcgjpmhhkeaaa.CmF Go.Proofs.Ytjjcgjpmhhkeaaa.CmS Go.Proofs.Ytjjcgjpmhhkeaaa.CmO Go.Proofs.Ytjjcgjpmhhkeaaa.CmP Go.Proofs.Ytjjcgjpmhhkeaaa.CmK Go.Proofs.Ytjjcgjpmhhkeaaa.CmQ Go.Proofs.Ytjjcgjpmhhkeaaa.CmR Go.Proofs.Ytjjcgjpmhhkeaaa.CmR2 Go.Proofs.Ytjjcgjpmhhkeaaa.B Go.Proofs.YtjjcgjpmhhkeaaaW.PrintWords Go.Proofs.YtjjcgjpmhhkeaaaW.PrintMore
variable (k : Int) (r : Bool) (n cd ct : Int) (l m : List S) (x : Int) (u v : List S) (y : Int)
abbrev Rep := Int × Bool × Int × Int × Int × List S × List S × Int
def accF : Rep :=
  if chkF k r n cd ct (pl l) (pl m) = 0 ∧ r = false then
    if ansF k r n cd ct (pl l) (pl m) k true n 0 x (pl u) (pl v) = true then (k, true, n, 0, x, u, v, 0) else (0, false, 0, 0, 0, [], [], 12)
  else (0, false, 0, 0, 0, [], [], 1)
theorem cacc (K : Nat) (hK : 30 ≤ K) (hu : u.length ≤ 12) (hv : v.length ≤ 12) : cellmsg_Accept.f (K + 2) k r n cd ct l m x u v = some (accF k r n cd ct l m x u v) := by
  have hT : cellmsg_Accept.j0 (K + 2) x u v true k r n cd ct l m = some (0, false, 0, 0, 0, [], [], 1) := by rw [cellmsg_Accept.j0]; rw [if_pos rfl]
  unfold cellmsg_Accept.f accF
  simp only [cellmsg_Check.f, Option.bind_some]
  change (if chkF k r n cd ct (pl l) (pl m) = 0 then _ else _) = _
  by_cases c1 : chkF k r n cd ct (pl l) (pl m) = 0
  · rw [if_pos c1]
    cases r
    · rw [if_pos ⟨c1, rfl⟩, cellmsg_Accept.j0, if_neg (by simp)]
      have e1 : api_Spot_42.f u = some u := by unfold api_Spot_42.f; rw [if_pos (by omega)]
      have e2 : api_Spot_42.f v = some v := by unfold api_Spot_42.f; rw [if_pos (by omega)]
      rw [e1, e2, Option.bind_some, Option.bind_some, cans _ _ _ _ _ _ _ _ _ _ _ _ _ _ K (by omega) hu hv, Option.bind_some]
      cases ansF k false n cd ct (pl l) (pl m) k true n 0 x (pl u) (pl v) <;> rfl
    · rw [hT, if_neg (by simp)]
  · rw [if_neg c1, hT, if_neg (by simp [c1])]
theorem racc (K : Nat) (hK : 60 ≤ K) (hl : l.length ≤ 12) (hm : m.length ≤ 12) (hu : u.length ≤ 12) (hv : v.length ≤ 12) : hopmeshref25_Accept.f (K + 3) k r n cd ct l m x u v = some (accF k r n cd ct l m x u v) := by
  have hT : hopmeshref25_Accept.j0 (K + 3) x u v true k r n cd ct l m = some (0, false, 0, 0, 0, [], [], 1) := by rw [hopmeshref25_Accept.j0]; rw [if_pos rfl]
  unfold hopmeshref25_Accept.f accF
  simp only [hopmeshref25_Check.f, Option.bind_some]
  change (if chkF k r n cd ct (pl l) (pl m) = 0 then _ else _) = _
  by_cases c1 : chkF k r n cd ct (pl l) (pl m) = 0
  · rw [if_pos c1]
    cases r
    · rw [if_pos ⟨c1, rfl⟩, hopmeshref25_Accept.j0, if_neg (by simp)]
      simp only [Option.bind_some, List.nil_append, List.length_nil, Nat.zero_add]
      rw [if_pos (by omega), if_pos (by omega), rans _ _ _ _ _ _ _ _ _ _ _ _ _ _ K (by omega) hl hm hu hv, Option.bind_some]
      cases ansF k false n cd ct (pl l) (pl m) k true n 0 x (pl u) (pl v) <;> rfl
    · rw [hT, if_neg (by simp)]
  · rw [if_neg c1, hT, if_neg (by simp [c1])]
def refF : Rep := if chkF k r n cd ct (pl l) (pl m) = 0 ∧ r = false then (if y < 1 then (0, false, 0, 0, 0, [], [], 2) else if y > 3 then (0, false, 0, 0, 0, [], [], 2) else (k, true, n, y, 0, [], [], 0)) else (0, false, 0, 0, 0, [], [], 1)
theorem cref (K : Nat) : cellmsg_Refuse.f (K + 1) k r n cd ct l m y = some (refF k r n cd ct l m y) := by
  have hT : cellmsg_Refuse.j0 (K + 1) y true k r n cd ct l m = some (0, false, 0, 0, 0, [], [], 1) := by rw [cellmsg_Refuse.j0]; rw [if_pos rfl]
  unfold cellmsg_Refuse.f refF
  simp only [cellmsg_Check.f, Option.bind_some]
  change (if chkF k r n cd ct (pl l) (pl m) = 0 then _ else _) = _
  by_cases c1 : chkF k r n cd ct (pl l) (pl m) = 0
  · rw [if_pos c1]
    cases r
    · rw [if_pos ⟨c1, rfl⟩, cellmsg_Refuse.j0, if_neg (by simp)]
      split
      · rfl
      · split <;> rfl
    · rw [hT, if_neg (by simp)]
  · rw [if_neg c1, hT, if_neg (by simp [c1])]
theorem rref (K : Nat) : hopmeshref25_Refuse.f (K + 1) k r n cd ct l m y = some (refF k r n cd ct l m y) := by
  have hT : hopmeshref25_Refuse.j0 (K + 1) y true k r n cd ct l m = some (0, false, 0, 0, 0, [], [], 1) := by rw [hopmeshref25_Refuse.j0]; rw [if_pos rfl]
  unfold hopmeshref25_Refuse.f refF
  simp only [hopmeshref25_Check.f, Option.bind_some]
  change (if chkF k r n cd ct (pl l) (pl m) = 0 then _ else _) = _
  by_cases c1 : chkF k r n cd ct (pl l) (pl m) = 0
  · rw [if_pos c1]
    cases r
    · rw [if_pos ⟨c1, rfl⟩, hopmeshref25_Refuse.j0, if_neg (by simp)]
      split
      · rfl
      · split <;> rfl
    · rw [hT, if_neg (by simp)]
  · rw [if_neg c1, hT, if_neg (by simp [c1])]
theorem same_l0 (a : List S) (hl : a.length ≤ 9223372036854775807) : ∀ n i k : Nat, i + n = a.length → n + 1 ≤ k → hopmeshref25_sameUpTo.l0 k a a (i : Int) = some true := by
  intro n
  induction n with
  | zero =>
    intro i k hi hk
    obtain ⟨k, rfl⟩ : ∃ k', k = k' + 1 := ⟨k - 1, by omega⟩
    unfold hopmeshref25_sameUpTo.l0
    rw [if_neg (by omega)]
  | succ n ih =>
    intro i k hi hk
    obtain ⟨k, rfl⟩ : ∃ k', k = k' + 1 := ⟨k - 1, by omega⟩
    unfold hopmeshref25_sameUpTo.l0
    have e1 : wrap64 ((i : Int) + 1) = ((i + 1 : Nat) : Int) := by rw [w64 _ (by omega)]; omega
    rw [if_pos (by omega), if_pos (by omega), if_pos (by omega), if_neg (by simp), e1, ih (i + 1) k (by omega) (by omega)]
theorem same_s (a : List S) (hl : a.length ≤ 12) (K : Nat) (hK : 20 ≤ K) : hopmeshref25_SameSpots.f K a a = some true := by
  unfold hopmeshref25_SameSpots.f hopmeshref25_sameUpTo.f
  rw [if_pos rfl]
  have := same_l0 a (by omega) a.length 0 K (by omega) (by omega)
  rw [show ((0 : Nat) : Int) = 0 from rfl] at this
  rw [this]; rfl
theorem same_f (K : Nat) (hK : 20 ≤ K) (hl : l.length ≤ 12) (hm : m.length ≤ 12) : hopmeshref25_Same.f K k r n cd ct l m k r n cd ct l m = some true := by
  unfold hopmeshref25_Same.f
  rw [if_pos rfl, if_pos (by simp), if_pos rfl, if_pos rfl, if_pos rfl, same_s l hl K hK, same_s m hm K hK]; rfl
theorem acc_len (hu : u.length ≤ 12) (hv : v.length ≤ 12) : (accF k r n cd ct l m x u v).2.2.2.2.2.1.length ≤ 12 ∧ (accF k r n cd ct l m x u v).2.2.2.2.2.2.1.length ≤ 12 := by
  unfold accF
  split
  · split
    · exact ⟨hu, hv⟩
    · simp
  · simp
theorem ref_len : (refF k r n cd ct l m y).2.2.2.2.2.1.length ≤ 12 ∧ (refF k r n cd ct l m y).2.2.2.2.2.2.1.length ≤ 12 := by
  unfold refF
  split
  · split
    · simp
    · split <;> simp
  · simp
theorem replies_f : hopmeshlaw25_CellmsgReplies.f 80 k r n cd ct l m x u v y = some true := by
  have hT : hopmeshlaw25_CellmsgReplies.j0 80 x u v y true k r n cd ct l m = some true := by rw [hopmeshlaw25_CellmsgReplies.j0]; rw [if_pos rfl]
  unfold hopmeshlaw25_CellmsgReplies.f
  have ha := Go.Proofs.Ytjjcgjpmhhkeaaa.B.hopmeshlaw25_awake.mono2 40 40 true Go.Proofs.Ytjjcgjpmhhkeaaa.B.hopmeshlaw25_awake.is
  rw [ha]
  simp only [Option.bind_some, reduceIte, hopmeshref25_Few.f]
  by_cases a1 : (l.length : Int) ≤ 12
  · rw [if_pos a1, Option.bind_some]
    by_cases a2 : (m.length : Int) ≤ 12
    · rw [if_pos (by simpa using a2)]
      by_cases a3 : (u.length : Int) > 12
      · rw [if_pos a3, hT]
      · rw [if_neg a3]
        by_cases a4 : (v.length : Int) > 12
        · rw [decide_eq_true a4, hT]
        · rw [decide_eq_false a4, hopmeshlaw25_CellmsgReplies.j0, if_neg (by simp)]
          rw [cacc k r n cd ct l m x u v 77 (by omega) (by omega) (by omega), racc k r n cd ct l m x u v 76 (by omega) (by omega) (by omega) (by omega) (by omega), cref k r n cd ct l m y 78, rref k r n cd ct l m y 78]
          obtain ⟨g1, g2⟩ := acc_len k r n cd ct l m x u v (by omega) (by omega)
          obtain ⟨g3, g4⟩ := ref_len k r n cd ct l m y
          generalize accF k r n cd ct l m x u v = p at *
          generalize refF k r n cd ct l m y = q at *
          simp only [Option.bind_some]
          rw [if_pos trivial, if_pos trivial, same_f _ _ _ _ _ _ _ 79 (by omega) g1 g2, Option.bind_some, if_pos rfl, same_f _ _ _ _ _ _ _ 79 (by omega) g3 g4]; rfl
    · rw [if_neg (by simpa using a2), hT]
  · rw [if_neg a1, Option.bind_some, if_neg (by simp), hT]
theorem replies (xk : Int) (xr : Bool) (xn xe xt : Int) (xA : Option Addr) (xl : List (Int × Int)) (xc : Nat) (xB : Option Addr) (xm : List (Int × Int)) (xd : Nat) (ct' : Int) (yA : Option Addr) (yl : List (Int × Int)) (yc : Nat) (zA : Option Addr) (zl : List (Int × Int)) (zc : Nat) (code : Int) (w : World)
    (h : MsIn w xA xl xc xB xm xd) (_ : (Lit.int .i64 ct').wf = true) (hy : Sp w yA yl ∧ yl.length ≤ yc) (hz : Sp w zA zl ∧ zl.length ≤ zc) (_ : (Lit.int .i64 code).wf = true) :
    Calls Try.prog 6 #[.agg (ms xk xr xn xe xt xA xl.length xc xB xm.length xd), .int .i64 ct', .slice yA yl.length yc, .slice zA zl.length zc, .int .i64 code] w fun e w' => e = .returned (.bool true) ∧ Below w.heap.size w w' := by
  have := hopmeshlaw25_CellmsgReplies.way 80 xk xr xn xe xt xA xc (xl.map un) xB xd (xm.map un) ct' yA yc (yl.map un) zA zc (zl.map un) code true w (Aside0.mk rfl) (toB h.hl) (by simpa using h.hc) (toB h.hm) (by simpa using h.hd) (toB hy.1) (by simpa using hy.2) (toB hz.1) (by simpa using hz.2) (replies_f ..)
  rw [List.length_map, List.length_map, List.length_map, List.length_map] at this
  exact this
end Go.Proofs.Ytjjcgjpmhhkeaaa.CmT
