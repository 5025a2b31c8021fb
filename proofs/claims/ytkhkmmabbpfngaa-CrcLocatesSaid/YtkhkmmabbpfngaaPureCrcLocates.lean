/- Locate finds exactly the least power of x that is a syndrome: the plain statement. -/
import Derived.Test.YtkhkmmabbpfngaaPureCrcPolynomials
namespace Go.Proofs.Ytkhkmmabbpfngaa.Pure
open Go.RowKit Go.Proofs.Ytkhkmmabbpfngaa.Q Go.Proofs.Ytkhkmmabbpfngaa.Alg Go.Proofs.Ytkhkmmabbpfngaa.Ev Go.Proofs.YtkhkmmabbpfngaaW.PrintWords Go.Proofs.YtkhkmmabbpfngaaW.PrintLast
theorem powI_nat (m : Nat) : powI (m : Int) = pow m := by unfold powI; rw [if_neg (by omega)]; rfl
theorem locates_tail (c : Nat) (hc : c < 65536) (k : Nat) (hk : 70000 < k) : hopmeshlaw03_CrcLocates.j0 k (c : Int) = some true := by
  obtain ⟨k, rfl⟩ : ∃ q, k = q + 1 := ⟨k - 1, by omega⟩
  simp only [hopmeshlaw03_CrcLocates.j0]
  have e : Int.tmod (wrap64 (c : Int)) 32767 = ((c % 32767 : Nat) : Int) := by
    rw [wr (by omega) (by omega), Int.tmod_eq_emod_of_nonneg (by omega)]; omega
  have hl : c % 32767 < 32767 := by omega
  rw [e]
  clear e
  generalize c % 32767 = m at hl ⊢
  rw [pow_ev _ (by omega) _ (by omega)]; simp only [Option.bind_some, powI_nat]
  rw [wr (by omega) (by omega), locate_ev _ _ _ (by omega), locate_ev _ _ _ (by omega)]; simp only [Option.bind_some]
  rw [locate_at hl, locate_at hl, if_pos (show (m : Int) < (m : Int) + 1 by omega), if_neg (show ¬ (m : Int) < (m : Int) by omega)]
  simp
theorem CrcLocates : hopmeshlaw03_CrcLocates.Pure := by
  intro a b c ha hb hc
  obtain ⟨x, rfl⟩ := u16_of ha
  obtain ⟨y, rfl⟩ := u16_of hc
  obtain ⟨hb0, hb1⟩ := i64_of hb
  obtain ⟨k0, h0⟩ := awake_more
  have hy := y.isLt
  have ht := locates_tail y.toNat hy
  refine ⟨k0 + 70001, ?_⟩
  unfold hopmeshlaw03_CrcLocates.f
  rw [h0 _ (by omega)]; simp only [Option.bind_some, if_true]
  rw [locate_ev _ _ _ (by omega)]; simp only [Option.bind_some]
  obtain ⟨hn, hl⟩ := lim_nat b
  cases h : (locate x b).2 with
  | true =>
    obtain ⟨j, h1, _, h3, h4, h5⟩ := loc_true (by omega) h
    have h1' : (locate x b).1 = (j : Int) := h1
    have hjb : (j : Int) < b := by
      have : (mn (mx b 0) 524288) ≤ mx b 0 := by unfold mn; split <;> omega
      have : mx b 0 = b ∨ mx b 0 = 0 := by unfold mx; split <;> omega
      omega
    rw [if_pos rfl, h1', if_neg (by omega), if_neg (by omega), if_neg (by omega), pow_ev _ (by omega) _ (by omega)]
    simp only [Option.bind_some, powI_nat, h5, if_true]
    exact ht _ (by omega)
  | false =>
    obtain ⟨h1, h2⟩ := loc_false (by omega) (by omega) h
    have h1' : (locate x b).1 = 0 := h1
    rw [if_neg (by simp), if_pos h1', wr (a := n y) (by unfold n; omega) (by unfold n; omega)]
    by_cases hlt : n y < b
    · rw [if_pos hlt, pow_ev _ (by unfold n; omega) _ (by unfold n; omega)]; simp only [Option.bind_some]
      rw [show powI (n y) = pow y.toNat from powI_nat _]
      have hne : ¬ n (pow y.toNat) = n x := by
        intro e
        have e := n_inj.1 e
        have em : pow (y.toNat % 32767) = pow y.toNat := pow_mod pow_32767
        refine h2 (y.toNat % 32767) (by omega) ?_ (by omega) (em.trans e)
        have h3 : y.toNat % 32767 ≤ y.toNat := Nat.mod_le _ _
        have h4 : (y.toNat : Int) < b := hlt
        have : (mn (mx b 0) 524288).toNat = b.toNat ∨ (mn (mx b 0) 524288).toNat = 524288 := by unfold mn mx; split <;> split <;> omega
        omega
      rw [if_neg hne]
      exact ht _ (by omega)
    · rw [if_neg hlt]
      exact ht _ (by omega)
end Go.Proofs.Ytkhkmmabbpfngaa.Pure
