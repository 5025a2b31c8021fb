/- CellmsgFits, kind 3: what the printed text comes to. Printed by wip/cmfi.py. (cut to what is reached: wip/tools/slimout2.py) -/
import Derived.Test.YtjjcgjpmhhkeaaaSFCmFp
import Derived.Test.YtjjcgjpmhhkeaaaSFL3
namespace Go.Proofs.Ytjjcgjpmhhkeaaa.CmFiL
set_option linter.unusedSimpArgs false
set_option linter.unusedVariables false
open Go.RowKit Go.Proofs.Ytjjcgjpmhhkeaaa.CmS Go.Proofs.Ytjjcgjpmhhkeaaa.CmP Go.Proofs.Ytjjcgjpmhhkeaaa.CmR Go.Proofs.Ytjjcgjpmhhkeaaa.CmX Go.Proofs.Ytjjcgjpmhhkeaaa.CmFp Go.Proofs.Ytjjcgjpmhhkeaaa.L Go.Proofs.YtjjcgjpmhhkeaaaW.PrintWords Go.Proofs.YtjjcgjpmhhkeaaaW.PrintMore
open Go.Proofs.Ytjjcgjpmhhkeaaa.CmBk (Ms)
theorem wr {a : Int} (h0 : -9223372036854775808 ≤ a) (h1 : a ≤ 9223372036854775807) : wrap64 a = a := by unfold wrap64; omega
def un (p : Int × Int) : S37 := ⟨p.1, p.2⟩
theorem mp (l : List (Int × Int)) : (l.map un).map (fun x : S37 => (x.f0, x.f1)) = l := by rw [List.map_map]; exact List.map_id' l
theorem ans_f (x y : Ms) (hl : y.l.length ≤ 12) (hm : y.m.length ≤ 12) : cellmsg_Answers.f x.k x.r x.n x.cd x.ct (x.l.map un) (x.m.map un) y.k y.r y.n y.cd y.ct (y.l.map un) (y.m.map un) = some (ansF x.k x.r x.n x.cd x.ct x.l x.m y.k y.r y.n y.cd y.ct y.l y.m) := by
  unfold cellmsg_Answers.f
  rw [List.length_map, List.length_map, if_pos ⟨hl, hm⟩, mp, mp, mp, mp]
theorem check_f (x : Ms) : cellmsg_Check.f x.k x.r x.n x.cd x.ct (x.l.map un) (x.m.map un) = some x.chk := by
  unfold cellmsg_Check.f
  rw [mp, mp]; rfl
theorem acc_f (x : Ms) (c : Int) (u v : List (Int × Int)) (hu : u.length ≤ 12) (hv : v.length ≤ 12) : cellmsg_Accept.f x.k x.r x.n x.cd x.ct (x.l.map un) (x.m.map un) c (u.map un) (v.map un) = some ((accM x c u v).1.k, (accM x c u v).1.r, (accM x c u v).1.n, (accM x c u v).1.cd, (accM x c u v).1.ct, (accM x c u v).1.l.map un, (accM x c u v).1.m.map un, (accM x c u v).2) := by
  unfold cellmsg_Accept.f cellmsg_Accept.out
  rw [List.length_map, List.length_map, if_pos ⟨hu, hv⟩, mp, mp, mp, mp]
  rfl
theorem ref_f (x : Ms) (c : Int) : cellmsg_Refuse.f x.k x.r x.n x.cd x.ct (x.l.map un) (x.m.map un) c = some ((refM x c).1.k, (refM x c).1.r, (refM x c).1.n, (refM x c).1.cd, (refM x c).1.ct, (refM x c).1.l.map un, (refM x c).1.m.map un, (refM x c).2) := by
  unfold cellmsg_Refuse.f cellmsg_Refuse.out
  rw [mp, mp]
  rfl
theorem few_f (x : Ms) : hopmeshref25_Few.f x.k x.r x.n x.cd x.ct (x.l.map un) (x.m.map un) = some (decide (x.l.length ≤ 12 ∧ x.m.length ≤ 12)) := by
  unfold hopmeshref25_Few.f
  rw [List.length_map, List.length_map]
  by_cases h1 : x.l.length ≤ 12
  · rw [if_pos (by omega)]; simp [h1]; omega
  · rw [if_neg (by omega)]; simp [h1]
theorem eq_l0 (l : List S37) (hl : l.length ≤ 1000) : ∀ n i k : Nat, i + n = l.length → n < k → api_Spot.l0 k l l (l.length : Int) (i : Int) = some true := by
  intro n
  induction n with
  | zero =>
    intro i k hi hk
    obtain ⟨k, rfl⟩ : ∃ m, k = m + 1 := ⟨k - 1, by omega⟩
    simp only [api_Spot.l0]
    rw [if_neg (by omega)]
  | succ n ih =>
    intro i k hi hk
    obtain ⟨k, rfl⟩ : ∃ m, k = m + 1 := ⟨k - 1, by omega⟩
    simp only [api_Spot.l0]
    rw [if_pos (by omega), if_pos (by omega), if_pos (by omega), if_pos (by omega), if_neg (by simp), wr (by omega) (by omega), show (i : Int) + 1 = ((i + 1 : Nat) : Int) by omega]
    exact ih (i + 1) k (by omega) (by omega)
theorem eq_f (l : List S37) (hl : l.length ≤ 12) (k : Nat) (hk : 20 < k) : api_Spot.f k l l = some true := by
  unfold api_Spot.f
  rw [if_pos rfl, show (0 : Int) = ((0 : Nat) : Int) from rfl, eq_l0 l (by omega) l.length 0 k (by omega) (by omega)]
theorem j5_ok (x : Ms) (hx : x.chk = 0) (hr : x.r = false) (c : Int) (q : Nat) : hopmeshlaw25_CellmsgFits.j5 (q + 1) c (refM x c).2 false x.k x.r x.n x.cd x.ct (x.l.map un) (x.m.map un) (refM x c).1.k (refM x c).1.r (refM x c).1.n (refM x c).1.cd (refM x c).1.ct ((refM x c).1.l.map un) ((refM x c).1.m.map un) = some true := by
  simp only [hopmeshlaw25_CellmsgFits.j5]
  rw [if_neg (by decide)]
  by_cases h1 : c < 1
  · have e : refM x c = (Ms.zero, 2) := by unfold refM; rw [if_pos ⟨hx, hr⟩, if_pos h1]
    rw [e, if_neg (show ¬ ((2 : Int) = 0) by decide)]; rfl
  · by_cases h3 : c > 3
    · have e : refM x c = (Ms.zero, 2) := by unfold refM; rw [if_pos ⟨hx, hr⟩, if_neg h1, if_pos h3]
      rw [e, if_neg (show ¬ ((2 : Int) = 0) by decide)]; rfl
    · have e : refM x c = (⟨x.k, true, x.n, c, 0, [], []⟩, 0) := by unfold refM; rw [if_pos ⟨hx, hr⟩, if_neg h1, if_neg h3]
      rw [e, if_pos (show ((0 : Int) = 0) from rfl)]
      have a1 := ans_f x ⟨x.k, true, x.n, c, 0, [], []⟩ (Nat.zero_le _) (Nat.zero_le _)
      have a2 := ans_f ⟨x.k, x.r, Int.tmod (wrap64 (x.n + 1)) 256, x.cd, x.ct, x.l, x.m⟩ ⟨x.k, true, x.n, c, 0, [], []⟩ (Nat.zero_le _) (Nat.zero_le _)
      dsimp only at a1 a2 ⊢
      rw [a1, ref_ok x hx hr c (by omega) (by omega), Option.bind_some, if_pos rfl, if_pos rfl, a2, Option.bind_some]
      have hx0 : chkF x.k x.r x.n x.cd x.ct x.l x.m = 0 := hx
      obtain ⟨_, hn, _⟩ := Go.Proofs.Ytjjcgjpmhhkeaaa.CmK.chk_ok hx0
      have hne : Int.tmod (wrap64 (x.n + 1)) 256 ≠ x.n := by
        rw [wr (by omega) (by omega), Int.tmod_eq_emod_of_nonneg (by omega)]
        omega
      rw [far_no x ⟨x.k, true, x.n, c, 0, [], []⟩ _ hne]
      rfl
theorem j4_ok (x : Ms) (hx : x.chk = 0) (hr : x.r = false) (c : Int) (q : Nat) : hopmeshlaw25_CellmsgFits.j4 (q + 2) c false x.k x.r x.n x.cd x.ct (x.l.map un) (x.m.map un) = some true := by
  simp only [hopmeshlaw25_CellmsgFits.j4]
  rw [if_neg (by decide), ref_f, Option.bind_some]
  dsimp only
  have h := j5_ok x hx hr c q
  by_cases h1 : c ≥ 1
  · rw [if_pos h1]
    have e : ((refM x c).2 == 0) = decide (c ≤ 3) := by
      unfold refM
      rw [if_pos ⟨hx, hr⟩, if_neg (by omega)]
      by_cases h3 : c > 3
      · rw [if_pos h3, decide_eq_false (by omega)]; rfl
      · rw [if_neg h3, decide_eq_true (by omega)]; rfl
    rw [e, show (decide (c ≤ 3) != decide (c ≤ 3)) = false by simp]
    exact h
  · rw [if_neg h1]
    have e : ((refM x c).2 == 0) = false := by
      unfold refM
      rw [if_pos ⟨hx, hr⟩, if_pos (by omega)]; rfl
    rw [e, show (false != false) = false from rfl]
    exact h
theorem j3_ok (x : Ms) (hx : x.chk = 0) (hr : x.r = false) (c : Int) (u : List S37) (q : Nat) : hopmeshlaw25_CellmsgFits.j3 (q + 3) c u 0 false x.k x.r x.n x.cd x.ct (x.l.map un) (x.m.map un) = some true := by
  simp only [hopmeshlaw25_CellmsgFits.j3]
  rw [if_neg (by decide), if_pos trivial]
  exact j4_ok x hx hr c q
theorem j3_err (x : Ms) (hx : x.chk = 0) (hr : x.r = false) (c : Int) (hk : x.k = 1 ∨ x.k = 3) (q : Nat) : hopmeshlaw25_CellmsgFits.j3 (q + 3) c [] 12 false x.k x.r x.n x.cd x.ct (x.l.map un) (x.m.map un) = some true := by
  simp only [hopmeshlaw25_CellmsgFits.j3]
  rw [if_neg (by decide), if_neg (by decide)]
  have h0 : decide ((([] : List S37).length : Int) > 0) = false := rfl
  rcases hk with e | e
  · rw [if_pos e, h0]; exact j4_ok x hx hr c q
  · rw [if_neg (by omega), if_pos e, h0]; exact j4_ok x hx hr c q
theorem l0_end (x : Ms) (hk : x.k = 3) (hx : x.chk = 0) (hr : x.r = false) (kp c : Int) (u : List (Int × Int)) (hu : u.Sublist x.l) (hc : (u.length : Int) ≤ x.ct) (q : Nat) (hq : 40 < q) :
    hopmeshlaw25_CellmsgFits.l0 (q + 1) kp c (u.map un) (x.l.map un) ((x.l.map un).length : Int) (x.l.length : Int) x.k x.r x.n x.cd x.ct (x.l.map un) (x.m.map un) = some true := by
  have hx0 : chkF x.k x.r x.n x.cd x.ct x.l x.m = 0 := hx
  obtain ⟨_, _, hlm, _⟩ := Go.Proofs.Ytjjcgjpmhhkeaaa.CmK.chk_ok hx0
  have hul := hu.length_le
  have hol := (old_sub x u).length_le
  obtain ⟨q, rfl⟩ : ∃ m, q = m + 3 := ⟨q - 3, by omega⟩
  simp only [hopmeshlaw25_CellmsgFits.l0]
  rw [if_neg (by rw [List.length_map]; omega)]
  · have hcnt : mx ((u.map un).length : Int) (((oldOf x u).map un).length : Int) = cntOf x u := by
      rw [List.length_map, List.length_map]; unfold mx cntOf; split <;> omega
    have hmn : mn ((x.m.map un).length : Int) ((u.map un).length : Int) = ((min u.length x.m.length : Nat) : Int) := by
      rw [List.length_map, List.length_map]; unfold mn; split <;> omega
    have htk : (x.m.map un).take ((min u.length x.m.length : Nat) : Int).toNat = (oldOf x u).map un := by
      rw [Int.toNat_natCast]; unfold oldOf; rw [if_pos hk, ← List.map_take]
      congr 1
      by_cases h : u.length ≤ x.m.length
      · rw [Nat.min_eq_left h]
      · rw [Nat.min_eq_right (by omega), List.take_of_length_le (by omega), List.take_of_length_le (by omega)]
    rw [hmn, if_pos (by omega), if_pos (by rw [List.length_map]; omega), htk, Option.bind_some]
    rw [hcnt, acc_f x _ u (oldOf x u) (by omega) (by omega), Option.bind_some]
    dsimp only
    by_cases hA : ansF x.k x.r x.n x.cd x.ct x.l x.m x.k true x.n 0 (cntOf x u) u (oldOf x u) = true
    · have hM : accM x (cntOf x u) u (oldOf x u) = (⟨x.k, true, x.n, 0, cntOf x u, u, oldOf x u⟩, 0) := by
        unfold accM; rw [if_pos ⟨hx, hr⟩, if_pos hA]
      rw [hM]
      have c1 := check_f ⟨x.k, true, x.n, 0, cntOf x u, u, oldOf x u⟩
      have a1 := ans_f x ⟨x.k, true, x.n, 0, cntOf x u, u, oldOf x u⟩ (show u.length ≤ 12 by omega) (show (oldOf x u).length ≤ 12 by omega)
      have c2 := ans_chk x ⟨x.k, true, x.n, 0, cntOf x u, u, oldOf x u⟩ hA
      dsimp only at c1 a1 ⊢
      rw [if_pos rfl, c1, Option.bind_some, if_pos c2, a1, hA, Option.bind_some, if_pos rfl, if_pos rfl, eq_f _ (by rw [List.length_map]; omega) (q + 3) (by omega), Option.bind_some, if_pos rfl]
      exact j3_ok x hx hr c _ q
    · have hM : accM x (cntOf x u) u (oldOf x u) = (.zero, 12) := by
        unfold accM; rw [if_pos ⟨hx, hr⟩, if_neg hA]
      rw [hM]
      have hk2 : ¬ ((x.k ≠ 1 ∧ x.k ≠ 3) ∨ u ≠ []) := fun h => hA (ans_ok x hx hr u hu hc h)
      have hu0 : u = [] := by
        by_cases h : u = []
        · exact h
        · exact absurd (.inr h) hk2
      have hk13 : x.k = 1 ∨ x.k = 3 := by
        by_cases h1 : x.k = 1
        · exact .inl h1
        · by_cases h3 : x.k = 3
          · exact .inr h3
          · exact absurd (.inl ⟨h1, h3⟩) hk2
      subst hu0
      dsimp only
      rw [if_neg (by decide)]
      exact j3_err x hx hr c hk13 q
set_option maxHeartbeats 4000000 in
theorem l0_all (x : Ms) (hk : x.k = 3) (hx : x.chk = 0) (hr : x.r = false) (kp c : Int) : ∀ (n i q : Nat) (u : List (Int × Int)), i + n = x.l.length → u.Sublist (x.l.take i) → (u.length : Int) ≤ x.ct → n + 50 < q →
    hopmeshlaw25_CellmsgFits.l0 q kp c (u.map un) (x.l.map un) ((x.l.map un).length : Int) (i : Int) x.k x.r x.n x.cd x.ct (x.l.map un) (x.m.map un) = some true := by
  have hlm : x.l.length ≤ 8 ∧ x.m.length ≤ 8 := by
    have hx0 : chkF x.k x.r x.n x.cd x.ct x.l x.m = 0 := hx
    obtain ⟨_, _, hlm, _⟩ := Go.Proofs.Ytjjcgjpmhhkeaaa.CmK.chk_ok hx0
    exact hlm
  intro n
  induction n with
  | zero =>
    intro i q u hi hu hc hq
    obtain ⟨q, rfl⟩ : ∃ m, q = m + 1 := ⟨q - 1, by omega⟩
    obtain rfl : i = x.l.length := by omega
    rw [List.take_length] at hu
    exact l0_end x hk hx hr kp c u hu hc q (by omega)
  | succ n ih =>
    intro i q u hi hu hc hq
    obtain ⟨q, rfl⟩ : ∃ m, q = m + 1 := ⟨q - 1, by omega⟩
    have hul := hu.length_le
    rw [List.length_take] at hul
    have hilt : i < x.l.length := by omega
    have g0 : u.length ≤ 8 := by omega
    have g4 : (u.map un).length < 8796093022208 := by rw [List.length_map]; exact Nat.lt_of_le_of_lt g0 (by decide)
    have hstep : wrap64 ((i : Int) + 1) = ((i + 1 : Nat) : Int) := by rw [wr (by omega) (by omega)]; omega
    have htk : x.l.take (i + 1) = x.l.take i ++ [x.l[i]] := List.take_succ_eq_append_getElem hilt
    have g1 : (i : Int) < ((x.l.map un).length : Int) := by rw [List.length_map]; exact Int.ofNat_lt.2 hilt
    have g2 : 0 ≤ (i : Int) := Int.natCast_nonneg i
    have g3 : 0 ≤ Int.tmod (i : Int) 8 := by rw [Int.tmod_eq_emod_of_nonneg g2]; exact Int.emod_nonneg _ (by decide)
    have hskip := ih (i + 1) q u (by omega) (by rw [htk]; exact hu.trans (List.sublist_append_left _ _)) hc (by omega)
    simp only [hopmeshlaw25_CellmsgFits.l0]
    rw [if_pos g1, if_pos g2, if_pos g1, if_pos g3, hstep]
    by_cases hb : (Go.bits .and .u8 (shr .u8 kp (Int.tmod (i : Int) 8)) 1) = 1
    · rw [if_pos hb]
      by_cases hlt : ((u.map un).length : Int) < x.ct
      · rw [if_pos hlt, if_pos g4]
        rw [List.length_map] at hlt
        have hrd : (⟨(rd_T37 (x.l.map un) (i : Int)).f0, (rd_T37 (x.l.map un) (i : Int)).f1⟩ : S37) = un x.l[i] := by
          have : rd_T37 (x.l.map un) (i : Int) = un x.l[i] := by
            show (x.l.map un).getD i z37 = _
            rw [List.getD_eq_getElem?_getD, List.getElem?_map, List.getElem?_eq_getElem hilt]; rfl
          rw [this]
        have := ih (i + 1) q (u ++ [x.l[i]]) (by omega) (by rw [htk]; exact List.Sublist.append hu (List.Sublist.refl _)) (by rw [List.length_append, List.length_singleton]; omega) (by omega)
        rw [List.map_append, List.map_singleton] at this
        rw [hrd]
        exact this
      · rw [if_neg hlt]; exact hskip
    · rw [if_neg hb]; exact hskip
theorem fits_f (x y : Ms) (hk : x.k = 3) (kp c : Int) : hopmeshlaw25_CellmsgFits.f 200 x.k x.r x.n x.cd x.ct (x.l.map un) (x.m.map un) y.k y.r y.n y.cd y.ct (y.l.map un) (y.m.map un) kp c = some true := by
  have hyes : hopmeshlaw25_CellmsgFits.j0 200 kp c true x.k x.r x.n x.cd x.ct (x.l.map un) (x.m.map un) y.k y.r y.n y.cd y.ct (y.l.map un) (y.m.map un) = some true := by
    simp only [hopmeshlaw25_CellmsgFits.j0]
    rw [if_pos trivial]
  unfold hopmeshlaw25_CellmsgFits.f
  rw [show hopmeshlaw25_awake.f = some true from rfl, Option.bind_some, if_pos rfl, few_f, Option.bind_some]
  by_cases h1 : x.l.length ≤ 12 ∧ x.m.length ≤ 12
  · rw [if_pos (decide_eq_true h1), few_f, Option.bind_some]
    by_cases h2 : y.l.length ≤ 12 ∧ y.m.length ≤ 12
    · rw [if_pos (decide_eq_true h2), check_f, Option.bind_some]
      by_cases hx : x.chk = 0
      · rw [if_pos hx]
        by_cases hr1 : x.r = true
        · simp only [hopmeshlaw25_CellmsgFits.j0]
          rw [if_pos hr1]
        · have hr : x.r = false := Bool.eq_false_iff.2 hr1
          have hj1 : hopmeshlaw25_CellmsgFits.j1 199 kp c false x.k x.r x.n x.cd x.ct (x.l.map un) (x.m.map un) = some true := by
            simp only [hopmeshlaw25_CellmsgFits.j1]
            rw [if_neg (by decide)]
            have hx0 : chkF x.k x.r x.n x.cd x.ct x.l x.m = 0 := hx
            obtain ⟨_, hn, _⟩ := Go.Proofs.Ytjjcgjpmhhkeaaa.CmK.chk_ok hx0
            exact l0_all x hk hx hr kp c x.l.length 0 198 [] (by omega) (by simp) (by simp; omega) (by omega)
          have a1 := ans_f x x h1.1 h1.2
          have a2 := ans_f y x h1.1 h1.2
          rw [ans_req x x hr] at a1
          rw [ans_req y x hr] at a2
          simp only [hopmeshlaw25_CellmsgFits.j0]
          rw [if_neg hr1, a1, Option.bind_some, if_neg (by decide), a2, Option.bind_some]
          exact hj1
      · rw [if_neg hx]; exact hyes
    · rw [if_neg (by simpa using h2)]; exact hyes
  · rw [if_neg (by simpa using h1)]; exact hyes
end Go.Proofs.Ytjjcgjpmhhkeaaa.CmFiL
