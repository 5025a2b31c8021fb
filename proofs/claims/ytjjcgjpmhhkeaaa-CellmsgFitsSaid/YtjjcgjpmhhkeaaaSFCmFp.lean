/- What Accept and Refuse return answers the request: plain. (cut to what is reached: wip/tools/slimout2.py) -/
import Derived.Test.YtjjcgjpmhhkeaaaSFCmX
namespace Go.Proofs.Ytjjcgjpmhhkeaaa.CmFp
set_option linter.unusedSimpArgs false
set_option linter.unusedVariables false
open Go.Proofs.Ytjjcgjpmhhkeaaa.CmG Go.Proofs.Ytjjcgjpmhhkeaaa.CmH Go.Proofs.Ytjjcgjpmhhkeaaa.CmP Go.Proofs.Ytjjcgjpmhhkeaaa.CmR Go.Proofs.Ytjjcgjpmhhkeaaa.CmK Go.Proofs.Ytjjcgjpmhhkeaaa.CmX
open Go.Proofs.Ytjjcgjpmhhkeaaa.CmBk (Ms)
def Pl (p : Int × Int) : Prop := 0 ≤ p.1 ∧ p.1 < 512 ∧ 0 ≤ p.2 ∧ p.2 < 16
theorem plErr_rng : ∀ (l : List (Int × Int)) (q : Option Int), plErr q l = 0 → ∀ p ∈ l, Pl p := by
  intro l
  induction l with
  | nil => intro q _ p hp; cases hp
  | cons x l ih =>
    intro q h p hp
    unfold plErr at h
    split at h
    · omega
    · split at h
      · omega
      · rcases List.mem_cons.1 hp with rfl | hp
        · unfold Pl; omega
        · exact ih _ h p hp
theorem plErr_mk : ∀ (l : List (Int × Int)) (q : Option Int), (∀ p ∈ l, Pl p) → Asc l → (∀ z, q = some z → ∀ p ∈ l, z < p.1) → plErr q l = 0 := by
  intro l
  induction l with
  | nil => intro q _ _ _; rfl
  | cons x l ih =>
    intro q h ha hq
    have hx := h x (by simp)
    unfold Pl at hx
    unfold plErr
    rw [if_neg (by omega), if_neg ?_]
    · refine ih _ (fun p hp => h p (by simp [hp])) (List.Pairwise.of_cons ha) fun z hz p hp => ?_
      injection hz with hz
      subst hz
      exact List.rel_of_pairwise_cons ha hp
    · cases q with
      | none => simp
      | some z => have := hq z rfl x (by simp); simp; omega
theorem plF_sub {u l : List (Int × Int)} (h : plF l = 0) (hs : u.Sublist l) : plF u = 0 :=
  plErr_mk u none (fun p hp => plErr_rng l none h p (hs.subset hp)) ((plErr_asc l none h).1.sublist hs) (fun z hz => by cases hz)
def oldOf (x : Ms) (u : List (Int × Int)) : List (Int × Int) := if x.k = 3 then x.m.take u.length else x.m
def cntOf (x : Ms) (u : List (Int × Int)) : Int := (max u.length (oldOf x u).length : Nat)
theorem old_sub (x : Ms) (u : List (Int × Int)) : (oldOf x u).Sublist x.m := by
  unfold oldOf; split
  · exact List.take_sublist _ _
  · exact List.Sublist.refl _
theorem all_sub {u l : List (Int × Int)} (hs : u.Sublist l) : (u.all fun p => decide (p ∈ l)) = true := by
  rw [List.all_eq_true]; intro p hp; simpa using hs.subset hp
theorem ans_ok (x : Ms) (hx : x.chk = 0) (hr : x.r = false) (u : List (Int × Int)) (hu : u.Sublist x.l) (hc : (u.length : Int) ≤ x.ct) (hk : (x.k ≠ 1 ∧ x.k ≠ 3) ∨ u ≠ []) :
    ansF x.k x.r x.n x.cd x.ct x.l x.m x.k true x.n 0 (cntOf x u) u (oldOf x u) = true := by
  have hx0 : chkF x.k x.r x.n x.cd x.ct x.l x.m = 0 := hx
  obtain ⟨h1, h2, h3, h4, h5, h6⟩ := chk_ok hx0
  have hul := hu.length_le
  have hol := (old_sub x u).length_le
  have hun : u ≠ [] → 0 < u.length := fun h => List.length_pos_iff.2 h
  have hf : followsB x.k true 0 (cntOf x u) u.length (oldOf x u).length = true := by
    unfold followsB at h6 ⊢
    rw [hr, if_neg (by decide)] at h6
    rw [if_pos rfl, if_pos rfl]
    simp only [Bool.and_eq_true, decide_eq_true_eq] at h6
    obtain ⟨_, h6⟩ := h6
    have hk6 : x.k = 1 ∨ x.k = 2 ∨ x.k = 3 ∨ x.k = 4 ∨ x.k = 5 ∨ x.k = 6 := by omega
    unfold reqB at h6
    unfold repB cntOf
    have hol3 : x.k = 3 → (oldOf x u).length = min u.length x.m.length := fun h => by unfold oldOf; rw [if_pos h, List.length_take]
    have hol2 : x.k ≠ 3 → (oldOf x u).length = x.m.length := fun h => by unfold oldOf; rw [if_neg h]
    generalize (oldOf x u).length = o at *
    generalize u.length = s at *
    rcases hk6 with e | e | e | e | e | e <;> rw [e] at h6 hk hol3 hol2 ⊢ <;> simp only [b1, b2, b3, b4, b5, b6, b7, b8, Bool.and_eq_true, decide_eq_true_eq, if_pos, if_neg, reduceIte, Int.reduceEq, ne_eq, not_true_eq_false, false_and, and_false, not_false_eq_true, true_and, and_self, or_false, false_or, true_or, forall_const, false_implies, Int.reduceNe] at h6 hk hol3 hol2 ⊢ <;> (try have hun := hun hk) <;> omega
  have hc2 : 0 ≤ cntOf x u ∧ cntOf x u ≤ 8 := by unfold cntOf; omega
  have hchk : chkF x.k true x.n 0 (cntOf x u) u (oldOf x u) = 0 := by
    unfold chkF
    rw [if_neg (by omega), if_neg (by omega), if_neg (by omega), if_neg (by rw [plF_sub h4 hu]; simp), if_neg (by rw [plF_sub h5 (old_sub x u)]; simp), if_pos hf]
  unfold ansF
  rw [hx0, hchk, hr]
  simp only [decide_true, Bool.not_false, Bool.true_and, Bool.and_true, Bool.and_self]
  have ha := all_sub hu
  have hb := all_sub (old_sub x u)
  unfold followsB at h6
  rw [hr, if_neg (by decide)] at h6
  simp only [Bool.and_eq_true, decide_eq_true_eq] at h6
  obtain ⟨_, h6⟩ := h6
  unfold reqB at h6
  by_cases k1 : x.k = 1
  · rw [k1] at h6
    rw [if_pos k1, ha]
    simp only [b3, Bool.and_eq_true, decide_eq_true_eq, reduceIte] at h6
    have : cntOf x u ≤ x.ct := by have : (oldOf x u).length = x.m.length := by { unfold oldOf; rw [if_neg (by omega)] }; unfold cntOf; omega
    simp [this]
  · by_cases k3 : x.k = 3
    · rw [if_neg k1, if_pos k3, ha, hb]
      have : cntOf x u ≤ x.ct := by have : (oldOf x u).length = min u.length x.m.length := by { unfold oldOf; rw [if_pos k3, List.length_take] }; unfold cntOf; omega
      simp [this]
    · rw [if_neg k1, if_neg k3]
      by_cases k2 : x.k = 2
      · rw [if_pos k2]
        unfold oldOf; rw [if_neg k3]; simp
      · rw [if_neg k2]; simp
theorem ans_req (y x : Ms) (hr : x.r = false) : ansF y.k y.r y.n y.cd y.ct y.l y.m x.k x.r x.n x.cd x.ct x.l x.m = false := by
  unfold ansF; rw [hr]; simp
theorem ref_ok (x : Ms) (hx : x.chk = 0) (hr : x.r = false) (c : Int) (h1 : 1 ≤ c) (h3 : c ≤ 3) : ansF x.k x.r x.n x.cd x.ct x.l x.m x.k true x.n c 0 [] [] = true := by
  have hx0 : chkF x.k x.r x.n x.cd x.ct x.l x.m = 0 := hx
  obtain ⟨g1, g2, g3, g4, g5, g6⟩ := chk_ok hx0
  have hf : followsB x.k true c 0 0 0 = true := by
    unfold followsB
    rw [if_pos rfl, if_neg (by omega)]
    simp [b1]
  have hchk : chkF x.k true x.n c 0 [] [] = 0 := by
    unfold chkF
    rw [if_neg (by omega), if_neg (by omega), if_neg (by simp), if_neg (by simp [plF, plErr]), if_neg (by simp [plF, plErr]), if_pos (by simpa using hf)]
  unfold ansF
  rw [hx0, hchk, hr]
  simp
  exact .inl (by omega)
theorem far_no (x y : Ms) (n : Int) (hn : n ≠ y.n) : ansF x.k x.r n x.cd x.ct x.l x.m y.k y.r y.n y.cd y.ct y.l y.m = false := by
  unfold ansF
  simp [hn]
theorem ans_chk (x y : Ms) (h : ansF x.k x.r x.n x.cd x.ct x.l x.m y.k y.r y.n y.cd y.ct y.l y.m = true) : y.chk = 0 := by
  simp only [ansF, Bool.and_eq_true, decide_eq_true_eq] at h
  exact h.1.1.1.1.1.2
end Go.Proofs.Ytjjcgjpmhhkeaaa.CmFp
