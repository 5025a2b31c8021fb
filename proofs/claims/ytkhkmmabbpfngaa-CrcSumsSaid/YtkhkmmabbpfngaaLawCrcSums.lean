/- The row of the law CrcSums: for every input it returns true, and the input reads as it did. Written by wip/row.py of this session. -/
import Derived.Test.YtkhkmmabbpfngaaRows
import Derived.Test.YtkhkmmabbpfngaaOpn
import Derived.Test.YtkhkmmabbpfngaaCrcSumsW
import Derived.WalkKit
import Derived.ProofKit
import Derived.OpenShut
import Derived.ShutString
import Derived.ChangeOld
import Derived.Below
import Derived.SizedLaws
namespace Go.Proofs.Ytkhkmmabbpfngaa.crcSums
open Go.ChangeShapes Go.WideShapes Go.ChangeAt Go.RowKit Go.Proofs.Ytkhkmmabbpfngaa.Opn
open Go.ChangeMaps (open_string shut_string)
set_option linter.unusedVariables false
theorem own : ownKnob Try.prog.godebug = none := by kernel_rfl
theorem laidOut : laidOutB Try.prog = true := by kernel_rfl
set_option maxRecDepth 100000 in
set_option maxHeartbeats 1000000 in
theorem lifted (os : Os) (started : os.Started) (H : Type) (enc : TypeId × Value → H) :
    ReturnsInHanded {} Try.checked os 7 .any (Rows.crcSumsSpec.pre6 enc Try.prog Try.f7 Rows.crcSumsRow.domain false) (Rows.crcSumsSpec.post enc Try.prog Try.f7 false true false false) := by
  refine returnsInHanded_of_change_sized (C := Try.checked) own started (by kernel_rfl) Try.func7
    (ChangeSpec.witness6 (enc := enc) (C := Try.checked) false ⟨#[], #[.string ByteArray.empty, .agg #[.int .u16 0, .int .u16 0, .int .i64 0]], []⟩ 8 (by kernel_rfl) (by kernel_rfl) (by kernel_rfl) (by kernel_rfl)) ?_
  intro W base args ds gs before hval0 hW hcnd hsz0 _
  have hsz : (DataW.weightsEach Try.prog (Try.f7.params.toList ++ Rows.crcSumsSpec.plain.varTypes Try.prog) (ds ++ gs)).all (· ≤ reachBytes) = true := hsz0
  have hval : ∀ (j : Nat) t v, Try.f7.params[j]? = some t → args[j]? = some v → Value.okWide Try.prog W .any base t v := hval0
  have hW' := hW
  obtain ⟨p, q, hA0, hV, rfl, hfz, hnd⟩ := hW
  have hA : DataW.TrodAll enc Try.prog W 0 (fun _ => true) true Try.f7.params.toList args.toList ds p := hA0
  rw [Try.params7] at hA hval hsz
  obtain ⟨v0, vs0, d0, ds0, p0, q0, hargs, rfl, rfl, h0, r0⟩ := trodAll_cons hA
  obtain ⟨v1, vs1, d1, ds1, p1, q1, rfl, rfl, rfl, h1, r1⟩ := trodAll_cons r0
  obtain ⟨rfl, rfl, rfl⟩ := trodAll_nil r1
  obtain rfl : args = #[v0, v1] := by cases args; simp_all
  obtain ⟨rfl, rfl⟩ := trodVars_none hV
  obtain ⟨a0, rfl, rfl, rfl, y0⟩ := open_string Try.underlying9 (hval 0 9 v0 rfl rfl) h0
  have w0 : a0.size ≤ 140737488351232 := by
    have z := sized_string hsz (j := 0) (t := 9) rfl rfl
    rw [Array.length_toList] at z
    exact z
  have k1 := h1
  have lt1 : ∀ x ∈ p1, x.block < W.heap.size := by obtain ⟨m, hm⟩ := k1; exact DataW.trod_lt m _ _ _ hm
  obtain ⟨cs1, rfl, hn1⟩ := okWide_struct Try.underlying36 (hval 1 36 v1 rfl rfl)
  have g1 := rd_struct Try.underlying36 (rd_of h1)
  have hc1 : Try.prog.cellsOf 36 = 3 := by kernel_rfl
  rw [hc1] at hn1
  obtain ⟨c1_0, c1_1, c1_2, rfl⟩ := cells3 hn1
  have e1_0 : Rd enc Try.prog W 22 [c1_0] := g1 0 _ rfl
  obtain ⟨a1_0, rfl, w1_0⟩ := rd_int Try.underlying22 e1_0
  have e1_1 : Rd enc Try.prog W 22 [c1_1] := g1 1 _ rfl
  obtain ⟨a1_1, rfl, w1_1⟩ := rd_int Try.underlying22 e1_1
  have e1_2 : Rd enc Try.prog W 3 [c1_2] := g1 2 _ rfl
  obtain ⟨a1_2, rfl, w1_2⟩ := rd_int Try.underlying3 e1_2
  clear hA0 hval0 hsz0 hsz
  refine (CrcSumsW.walk a0 a1_0 a1_1 a1_2 W w0 w1_0 w1_1 w1_2).mono fun e W' ⟨he, bel⟩ => ?_
  subst he
  exact ⟨_, rfl, _, _, _, [], _, [], hW', trodAll_mk1 (shut_bool Try.underlying4 _), (trodAll_cons_mk (shut_string Try.underlying9 y0) (trodAll_cons_mk (Below.trod laidOut (by kernel_rfl) (of_decide_eq_true (by kernel_rfl)) k1 bel lt1) trodAll_mk0)), rfl, bel.frame _, fun h => by cases h⟩
theorem over : Rows.crcSumsRow.holds Try.pinned (OpenSpec.ofChange Rows.crcSumsSpec) :=
  OpenClaim.holds_of_wide 7 Try.f7 rfl rfl rfl rfl rfl rfl rfl ⟨rfl, rfl, rfl, rfl, rfl⟩ rfl rfl rfl rfl rfl (by kernel_rfl) Try.func7 (by kernel_rfl)
    (of_decide_eq_true (by kernel_rfl)) (by unfold Func.isWrapper; first | (rw [if_pos (by decide +kernel)]; kernel_rfl) | (rw [if_neg (by decide +kernel)]; exact ⟨rfl, rfl⟩))
    (fun os started H enc _ => lifted os started H enc)
theorem proved : Rows.CrcSumsSaid := over
#print axioms proved
end Go.Proofs.Ytkhkmmabbpfngaa.crcSums
namespace Go.Proofs.Ytkhkmmabbpfngaa
/-- The row, under a short name, for the claim. -/
theorem crcSums_holds : Rows.CrcSumsSaid := crcSums.proved
end Go.Proofs.Ytkhkmmabbpfngaa
