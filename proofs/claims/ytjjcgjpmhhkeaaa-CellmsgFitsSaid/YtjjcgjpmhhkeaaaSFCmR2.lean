/- cellmsg.Answers and the reference's are the same. (cut to what is reached: wip/tools/slimout2.py) -/
import Derived.Test.YtjjcgjpmhhkeaaaSFCmR
import Derived.Test.YtjjcgjpmhhkeaaaSFB7
namespace Go.Proofs.Ytjjcgjpmhhkeaaa.CmR2
set_option linter.unusedSimpArgs false
set_option linter.unusedVariables false
open Go.RowKit Go.Proofs.Ytjjcgjpmhhkeaaa.CmF Go.Proofs.Ytjjcgjpmhhkeaaa.CmS Go.Proofs.Ytjjcgjpmhhkeaaa.CmO Go.Proofs.Ytjjcgjpmhhkeaaa.CmP Go.Proofs.Ytjjcgjpmhhkeaaa.CmK Go.Proofs.Ytjjcgjpmhhkeaaa.CmQ Go.Proofs.Ytjjcgjpmhhkeaaa.CmR Go.Proofs.Ytjjcgjpmhhkeaaa.CmH Go.Proofs.Ytjjcgjpmhhkeaaa.CmG Go.Proofs.Ytjjcgjpmhhkeaaa.B Go.Proofs.YtjjcgjpmhhkeaaaW.PrintWords Go.Proofs.YtjjcgjpmhhkeaaaW.PrintMore
variable (k : Int) (r : Bool) (n cd ct : Int) (l m : List S) (k' : Int) (r' : Bool) (n' cd' ct' : Int) (l' m' : List S)
theorem cj0_true (K : Nat) : cellmsg_Answers.j0 (K + 1) true k r n cd ct l m k' r' n' cd' ct' l' m' = some false := by
  rw [cellmsg_Answers.j0]; rw [if_pos rfl]
theorem cans (K : Nat) (hK : 20 ≤ K) (hl : l'.length ≤ 12) (hm : m'.length ≤ 12) :
    cellmsg_Answers.f (K + 1) k r n cd ct l m k' r' n' cd' ct' l' m' = some (ansF k r n cd ct (pl l) (pl m) k' r' n' cd' ct' (pl l') (pl m')) := by
  unfold cellmsg_Answers.f
  simp only [cellmsg_Check.f, Option.bind_some, cj0_true]
  change (if chkF k r n cd ct (pl l) (pl m) = 0 then if chkF k' r' n' cd' ct' (pl l') (pl m') = 0 then _ else some false else some false) = _
  unfold ansF
  by_cases c1 : chkF k r n cd ct (pl l) (pl m) = 0
  · by_cases c2 : chkF k' r' n' cd' ct' (pl l') (pl m') = 0
    · rw [if_pos c1, if_pos c2, decide_eq_true c1, decide_eq_true c2]
      cases r
      · cases r'
        · simp
        · simp only [Bool.false_eq_true, reduceIte, Bool.not_false, Bool.true_and]
          by_cases c3 : k = k'
          · by_cases c4 : n = n'
            · rw [if_pos c3, decide_eq_true c3, decide_eq_true c4]
              have e : (n != n') = false := by simp [c4]
              rw [e]
              rw [cellmsg_Answers.j0]
              rw [if_neg (by simp)]
              simp only [cellmsg_among.f, Option.bind_some, Bool.true_and]
              by_cases c5 : cd' = 0
              · rw [if_pos c5]
                have e5 : decide (cd' ≠ 0) = false := by simp [c5]
                rw [e5, Bool.false_or]
                by_cases c6 : k = 1
                · rw [if_pos c6, if_pos c6]
                  by_cases c7 : ct' ≤ ct
                  · rw [if_pos c7, decide_eq_true c7, Bool.true_and]; rfl
                  · rw [if_neg c7, decide_eq_false c7, Bool.false_and]
                · rw [if_neg c6, if_neg c6]
                  by_cases c8 : k = 3
                  · rw [if_pos c8, if_pos c8]
                    by_cases c7 : ct' ≤ ct
                    · rw [if_pos c7, decide_eq_true c7, Bool.true_and]
                      change (if ((pl l').all fun p => decide (p ∈ pl l)) = true then some ((pl m').all fun p => decide (p ∈ pl m)) else some false) = _
                      cases ((pl l').all fun p => decide (p ∈ pl l)) <;> rfl
                    · rw [if_neg c7, decide_eq_false c7, Bool.false_and, Bool.false_and]
                  · rw [if_neg c8, if_neg c8]
                    by_cases c9 : k = 2
                    · rw [if_pos c9, if_pos c9, eq_f m' m (by omega) K (by omega), Option.bind_some]
                    · rw [if_neg c9, if_neg c9]
              · rw [if_neg c5]; simp [c5]
            · rw [if_pos c3]
              have e : (n != n') = true := by simp [c4]
              rw [e, cj0_true]; simp [c4]
          · rw [if_neg c3]; simp [c3]
      · simp
    · rw [if_pos c1, if_neg c2]; simp [c2]
  · rw [if_neg c1]; simp [c1]
end Go.Proofs.Ytjjcgjpmhhkeaaa.CmR2
