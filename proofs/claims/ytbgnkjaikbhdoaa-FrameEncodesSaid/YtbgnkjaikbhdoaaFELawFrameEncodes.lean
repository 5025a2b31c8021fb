/- The row of the law FrameEncodes: for every input it returns true, and the input reads as it did. Written by wip/row.py of this session. (cut to what is reached: wip/tools/slimout.py) -/
import Derived.Test.YtbgnkjaikbhdoaaRows
import Derived.Test.YtbgnkjaikbhdoaaFEOpn
import Derived.Test.YtbgnkjaikbhdoaaFEFrEncW
import Derived.WalkKit
import Derived.ProofKit
import Derived.OpenShut
import Derived.ShutString
import Derived.ChangeOld
import Derived.Below
import Derived.SizedLaws
namespace Go.Proofs.Ytbgnkjaikbhdoaa.frameEncodes
open Go.ChangeShapes Go.WideShapes Go.ChangeAt Go.RowKit Go.Proofs.Ytbgnkjaikbhdoaa.Opn
open Go.ChangeMaps (open_string shut_string)
set_option linter.unusedVariables false
theorem own : ownKnob Try.prog.godebug = none := by kernel_rfl
theorem laidOut : laidOutB Try.prog = true := by kernel_rfl
set_option maxRecDepth 100000 in
set_option maxHeartbeats 1000000 in
theorem lifted (os : Os) (started : os.Started) (H : Type) (enc : TypeId × Value → H) :
    ReturnsInHanded {} Try.checked os 3 .any (Rows.frameEncodesSpec.pre6 enc Try.prog Try.f3 Rows.frameEncodesRow.domain false) (Rows.frameEncodesSpec.post enc Try.prog Try.f3 false true false false) := by
  refine returnsInHanded_of_change_sized (C := Try.checked) own started (by kernel_rfl) Try.func3
    (ChangeSpec.witness6 (enc := enc) (C := Try.checked) false ⟨#[], #[.agg #[.int .i64 0, .int .i64 0, .int .i64 0, .int .i64 0, .int .i64 0, .int .i64 0, .int .i64 0, .int .i64 0, .int .i64 0, .int .i64 0, .int .i64 0, .string ByteArray.empty]], []⟩ 8 (by kernel_rfl) (by kernel_rfl) (by kernel_rfl) (by kernel_rfl)) ?_
  intro W base args ds gs before hval0 hW hcnd hsz0 _
  have hsz : (DataW.weightsEach Try.prog (Try.f3.params.toList ++ Rows.frameEncodesSpec.plain.varTypes Try.prog) (ds ++ gs)).all (· ≤ reachBytes) = true := hsz0
  have hval : ∀ (j : Nat) t v, Try.f3.params[j]? = some t → args[j]? = some v → Value.okWide Try.prog W .any base t v := hval0
  have hW' := hW
  obtain ⟨p, q, hA0, hV, rfl, hfz, hnd⟩ := hW
  have hA : DataW.TrodAll enc Try.prog W 0 (fun _ => true) true Try.f3.params.toList args.toList ds p := hA0
  rw [Try.params3] at hA hval hsz
  obtain ⟨v0, vs0, d0, ds0, p0, q0, hargs, rfl, rfl, h0, r0⟩ := trodAll_cons hA
  obtain ⟨rfl, rfl, rfl⟩ := trodAll_nil r0
  obtain rfl : args = #[v0] := by cases args; simp_all
  obtain ⟨rfl, rfl⟩ := trodVars_none hV
  have k0 := h0
  have lt0 : ∀ x ∈ p0, x.block < W.heap.size := by obtain ⟨m, hm⟩ := k0; exact DataW.trod_lt m _ _ _ hm
  obtain ⟨cs0, rfl, hn0⟩ := okWide_struct Try.underlying23 (hval 0 23 v0 rfl rfl)
  have g0 := rd_struct Try.underlying23 (rd_of h0)
  have hc0 : Try.prog.cellsOf 23 = 12 := by kernel_rfl
  rw [hc0] at hn0
  obtain ⟨c0_0, c0_1, c0_2, c0_3, c0_4, c0_5, c0_6, c0_7, c0_8, c0_9, c0_10, c0_11, rfl⟩ := cells12 hn0
  have e0_0 : Rd enc Try.prog W 3 [c0_0] := g0 0 _ rfl
  obtain ⟨a0_0, rfl, w0_0⟩ := rd_int Try.underlying3 e0_0
  have e0_1 : Rd enc Try.prog W 3 [c0_1] := g0 1 _ rfl
  obtain ⟨a0_1, rfl, w0_1⟩ := rd_int Try.underlying3 e0_1
  have e0_2 : Rd enc Try.prog W 3 [c0_2] := g0 2 _ rfl
  obtain ⟨a0_2, rfl, w0_2⟩ := rd_int Try.underlying3 e0_2
  have e0_3 : Rd enc Try.prog W 3 [c0_3] := g0 3 _ rfl
  obtain ⟨a0_3, rfl, w0_3⟩ := rd_int Try.underlying3 e0_3
  have e0_4 : Rd enc Try.prog W 3 [c0_4] := g0 4 _ rfl
  obtain ⟨a0_4, rfl, w0_4⟩ := rd_int Try.underlying3 e0_4
  have e0_5 : Rd enc Try.prog W 3 [c0_5] := g0 5 _ rfl
  obtain ⟨a0_5, rfl, w0_5⟩ := rd_int Try.underlying3 e0_5
  have e0_6 : Rd enc Try.prog W 3 [c0_6] := g0 6 _ rfl
  obtain ⟨a0_6, rfl, w0_6⟩ := rd_int Try.underlying3 e0_6
  have e0_7 : Rd enc Try.prog W 3 [c0_7] := g0 7 _ rfl
  obtain ⟨a0_7, rfl, w0_7⟩ := rd_int Try.underlying3 e0_7
  have e0_8 : Rd enc Try.prog W 3 [c0_8] := g0 8 _ rfl
  obtain ⟨a0_8, rfl, w0_8⟩ := rd_int Try.underlying3 e0_8
  have e0_9 : Rd enc Try.prog W 3 [c0_9] := g0 9 _ rfl
  obtain ⟨a0_9, rfl, w0_9⟩ := rd_int Try.underlying3 e0_9
  have e0_10 : Rd enc Try.prog W 3 [c0_10] := g0 10 _ rfl
  obtain ⟨a0_10, rfl, w0_10⟩ := rd_int Try.underlying3 e0_10
  have e0_11 : Rd enc Try.prog W 9 [c0_11] := g0 11 _ rfl
  obtain ⟨a0_11, rfl, w0_11⟩ := rd_string Try.underlying9 e0_11
  clear hA0 hval0 hsz0 hsz
  refine (FrEncW.walk a0_0 a0_1 a0_2 a0_3 a0_4 a0_5 a0_6 a0_7 a0_8 a0_9 a0_10 a0_11 W w0_0 w0_1 w0_2 w0_3 w0_4 w0_5 w0_6 w0_7 w0_8 w0_9 w0_10 w0_11).mono fun e W' ⟨he, bel⟩ => ?_
  subst he
  exact ⟨_, rfl, _, _, _, [], _, [], hW', trodAll_mk1 (shut_bool Try.underlying4 _), (trodAll_cons_mk (Below.trod laidOut (by kernel_rfl) (of_decide_eq_true (by kernel_rfl)) k0 bel lt0) trodAll_mk0), rfl, bel.frame _, fun h => by cases h⟩
theorem over : Rows.frameEncodesRow.holds Try.pinned (OpenSpec.ofChange Rows.frameEncodesSpec) :=
  OpenClaim.holds_of_wide 3 Try.f3 rfl rfl rfl rfl rfl rfl rfl ⟨rfl, rfl, rfl, rfl, rfl⟩ rfl rfl rfl rfl rfl (by kernel_rfl) Try.func3 (by kernel_rfl)
    (of_decide_eq_true (by kernel_rfl)) (by unfold Func.isWrapper; first | (rw [if_pos (by decide +kernel)]; kernel_rfl) | (rw [if_neg (by decide +kernel)]; exact ⟨rfl, rfl⟩))
    (fun os started H enc _ => lifted os started H enc)
theorem proved : Rows.FrameEncodesSaid := over
#print axioms proved
end Go.Proofs.Ytbgnkjaikbhdoaa.frameEncodes
namespace Go.Proofs.Ytbgnkjaikbhdoaa
theorem frameEncodes_holds : Rows.FrameEncodesSaid := frameEncodes.proved
end Go.Proofs.Ytbgnkjaikbhdoaa
