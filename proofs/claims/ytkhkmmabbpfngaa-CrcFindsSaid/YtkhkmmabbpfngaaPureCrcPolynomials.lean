/- Multiply and Power of crc return the residues that the reference returns: the plain statement. -/
import Derived.Test.YtkhkmmabbpfngaaEv
namespace Go.Proofs.Ytkhkmmabbpfngaa.Pure
open Go.RowKit Go.Proofs.Ytkhkmmabbpfngaa.Q Go.Proofs.Ytkhkmmabbpfngaa.Alg Go.Proofs.Ytkhkmmabbpfngaa.Ev Go.Proofs.YtkhkmmabbpfngaaW.PrintWords Go.Proofs.YtkhkmmabbpfngaaW.PrintLast
theorem u16_of {a : Int} (h : (Lit.int .u16 a).wf = true) : ∃ x : BitVec 16, a = n x := by
  have h' : 0 ≤ a ∧ a < 65536 := by
    simp [Lit.wf, IntKind.min, IntKind.max, IntKind.bits, IntKind.signed] at h; omega
  exact n_of h'.1 h'.2
theorem i64_of {a : Int} (h : (Lit.int .i64 a).wf = true) : -9223372036854775808 ≤ a ∧ a ≤ 9223372036854775807 := by
  simp [Lit.wf, IntKind.min, IntKind.max, IntKind.bits, IntKind.signed] at h; omega
theorem awake_more : ∃ k0, ∀ k, k0 ≤ k → hopmeshlaw03_awake.f k = some true := by
  obtain ⟨k0, h⟩ := awake_ev
  refine ⟨k0, fun k hk => ?_⟩
  obtain ⟨d, rfl⟩ : ∃ d, k = k0 + d := ⟨k - k0, by omega⟩
  clear hk
  induction d with
  | zero => exact h
  | succ d ih => exact hopmeshlaw03_awake.mono (k0 + d) _ ih
theorem CrcPolynomials : hopmeshlaw03_CrcPolynomials.Pure := by
  intro a b m ha hb hm
  obtain ⟨x, rfl⟩ := u16_of ha
  obtain ⟨y, rfl⟩ := u16_of hb
  obtain ⟨_, hm1⟩ := i64_of hm
  obtain ⟨k0, h0⟩ := awake_more
  refine ⟨k0 + m.toNat + 20, ?_⟩
  unfold hopmeshlaw03_CrcPolynomials.f
  rw [h0 _ (by omega)]; simp only [Option.bind_some, if_true]
  rw [mul_ev _ _ _ (by omega), rmul_ev _ _ _ (by omega), pow_ev _ hm1 _ (by omega), rpow_ev _ hm1 _ (by omega)]
  simp
end Go.Proofs.Ytkhkmmabbpfngaa.Pure
