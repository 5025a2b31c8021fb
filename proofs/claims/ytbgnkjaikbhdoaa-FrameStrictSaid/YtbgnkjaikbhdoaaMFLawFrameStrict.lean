/- The row of the law FrameStrict: for every input it returns true, and the input reads as it did. Written by wip/row.py of this session. The walk of FrameStrict. Printed by wip/frbs.py. -/
import Derived.Test.YtbgnkjaikbhdoaaMF4
import Derived.Test.YtbgnkjaikbhdoaaRows
import Derived.WalkKit
import Derived.ProofKit
import Derived.OpenShut
import Derived.ShutString
import Derived.ChangeOld
import Derived.Below
import Derived.SizedLaws
-- FrStrictW
namespace Go.Proofs.Ytbgnkjaikbhdoaa.FrStrictW
set_option linter.unusedSimpArgs false
set_option linter.unusedVariables false
open Go.RowKit Go.Proofs.Ytbgnkjaikbhdoaa.Pack Go.Proofs.Ytbgnkjaikbhdoaa.FrA Go.Proofs.Ytbgnkjaikbhdoaa.FrF Go.Proofs.Ytbgnkjaikbhdoaa.FrCrc Go.Proofs.Ytbgnkjaikbhdoaa.FrE Go.Proofs.Ytbgnkjaikbhdoaa.FrC Go.Proofs.Ytbgnkjaikbhdoaa.FrEn Go.Proofs.Ytbgnkjaikbhdoaa.FrT Go.Proofs.Ytbgnkjaikbhdoaa.FrAw Go.Proofs.Ytbgnkjaikbhdoaa.Alg Go.Proofs.Ytbgnkjaikbhdoaa.Dec Go.Proofs.Ytbgnkjaikbhdoaa.BackF Go.Proofs.Ytbgnkjaikbhdoaa.Strict Go.Proofs.Ytbgnkjaikbhdoaa.FrAt
open Go.Proofs.Ytbgnkjaikbhdoaa.Bytes (Str)

set_option maxRecDepth 100000 in
set_option maxHeartbeats 8000000 in
theorem far (m : List UInt8) (hd : 300 < m.length) (w : World) :
    Calls Try.prog 7 #[.string (Str m)] w fun r w' => r = .returned (.bool true) ∧ Below w.heap.size w w' := by
  have es : (Str m).size = m.length := str_size m
  have e1 : decide ((300 : Int) < (m.length : Int)) = true := decide_eq_true (by omega)
  clear hd
  go_enter Try.func7, Try.ntmps7
  go_wp2_with fail
  ((with_reducible refine (awake_any _).mono ?_); rintro r w1 ⟨rfl, hb⟩)
  have A1 := Lib.hid hb
  clear hb
  go_wp2_with fail
  go_ret
  exact ⟨rfl, A1.out⟩
attribute [local go_sem high] eqFr
set_option maxRecDepth 100000 in
set_option maxHeartbeats 8000000 in
theorem bad (m : List UInt8) (hd : m.length ≤ 300) (e : Int) (hD : decF m = (.zero, e)) (h0 : decide (e = 0) = false) (w : World) :
    Calls Try.prog 7 #[.string (Str m)] w fun r w' => r = .returned (.bool true) ∧ Below w.heap.size w w' := by
  have es : (Str m).size = m.length := str_size m
  have e1 : decide ((300 : Int) < (m.length : Int)) = false := decide_eq_false (by omega)
  clear hd
  have h02 : (e == 0) = false := h0
  have HD : Hid (∀ w, Calls Try.prog 22 #[.string (Str m)] w fun r w' => r = .returned (.tuple #[.agg (fr 0 0 0 0 0 0 0 0 0 0 0 []), .int .i64 e]) ∧ Below w.heap.size w w') := Lib.hid (fun w => decode_any m _ hD w)
  have heq := eq_self 0 0 0 0 0 0 0 0 0 0 0 (⟨#[]⟩ : ByteArray)
  clear hD
  go_enter Try.func7, Try.ntmps7
  go_wp2_with fail
  ((with_reducible refine (awake_any _).mono ?_); rintro r w1 ⟨rfl, hb⟩)
  have A1 := Lib.hid hb
  clear hb
  go_wp2_with fail
  ((with_reducible refine (HD.out _).mono ?_); rintro r w2 ⟨rfl, hb⟩)
  have A2 := Lib.hid (A1.out.trans (hb.mono A1.out.size))
  clear hb A1 HD
  go_wp2_with fail
  go_ret
  exact ⟨rfl, A2.out.alloc A2.out.size _⟩
set_option maxRecDepth 100000 in
set_option maxHeartbeats 8000000 in
theorem good (m : List UInt8) (hd : m.length ≤ 300) (k s t l q x y er sl rk ep : Int) (d : List UInt8) (hD : decF m = (⟨k, s, t, l, q, x, y, er, sl, rk, ep, d⟩, 0)) (he : encF k s t l q x y er sl rk ep d = (m, 0)) (w : World) :
    Calls Try.prog 7 #[.string (Str m)] w fun r w' => r = .returned (.bool true) ∧ Below w.heap.size w w' := by
  have es : (Str m).size = m.length := str_size m
  have e1 : decide ((300 : Int) < (m.length : Int)) = false := decide_eq_false (by omega)
  clear hd
  have HD : Hid (∀ w, Calls Try.prog 22 #[.string (Str m)] w fun r w' => r = .returned (.tuple #[.agg (fr k s t l q x y er sl rk ep d), .int .i64 0]) ∧ Below w.heap.size w w') := Lib.hid (fun w => decode_any m _ hD w)
  have HE := Lib.hid (fun w => encode_any k s t l q x y er sl rk ep d _ he w)
  clear hD he
  go_enter Try.func7, Try.ntmps7
  go_wp2_with fail
  ((with_reducible refine (awake_any _).mono ?_); rintro r w1 ⟨rfl, hb⟩)
  have A1 := Lib.hid hb
  clear hb
  go_wp2_with fail
  ((with_reducible refine (HD.out _).mono ?_); rintro r w2 ⟨rfl, hb⟩)
  have A2 := Lib.hid (A1.out.trans (hb.mono A1.out.size))
  clear hb A1 HD
  go_wp2_with fail
  ((with_reducible refine (HE.out _).mono ?_); rintro r w3 ⟨rfl, hb⟩)
  have A3 := Lib.hid ((A2.out.alloc A2.out.size _).trans (hb.mono (by simp; have := A2.out.size; omega)))
  clear hb HE
  go_wp2_with fail
  go_ret
  exact ⟨rfl, A3.out⟩
theorem walk (a : ByteArray) (w : World) (_ : a.size ≤ 140737488351232) :
    Calls Try.prog 7 #[.string a] w fun r w' => r = .returned (.bool true) ∧ Below w.heap.size w w' := by
  obtain ⟨m, rfl⟩ := str_of a
  by_cases hd : 300 < m.length
  · exact far m hd w
  · by_cases h0 : (decF m).2 = 0
    · have hD : decF m = ((decF m).1, 0) := Prod.ext rfl h0
      exact good m (by omega) _ _ _ _ _ _ _ _ _ _ _ _ hD (enc_dec hD) w
    · have hD : decF m = (.zero, (decF m).2) := Prod.ext ((dec_err m).resolve_left h0) rfl
      exact bad m (by omega) _ hD (decide_eq_false h0) w
end Go.Proofs.Ytbgnkjaikbhdoaa.FrStrictW

-- LawFrameStrict
namespace Go.Proofs.Ytbgnkjaikbhdoaa.frameStrict
open Go.ChangeShapes Go.WideShapes Go.ChangeAt Go.RowKit Go.Proofs.Ytbgnkjaikbhdoaa.Opn
open Go.ChangeMaps (open_string shut_string)
set_option linter.unusedVariables false
theorem own : ownKnob Try.prog.godebug = none := by kernel_rfl
theorem laidOut : laidOutB Try.prog = true := by kernel_rfl
set_option maxRecDepth 100000 in
set_option maxHeartbeats 1000000 in
theorem lifted (os : Os) (started : os.Started) (H : Type) (enc : TypeId × Value → H) :
    ReturnsInHanded {} Try.checked os 7 .any (Rows.frameStrictSpec.pre6 enc Try.prog Try.f7 Rows.frameStrictRow.domain false) (Rows.frameStrictSpec.post enc Try.prog Try.f7 false true false false) := by
  refine returnsInHanded_of_change_sized (C := Try.checked) own started (by kernel_rfl) Try.func7
    (ChangeSpec.witness6 (enc := enc) (C := Try.checked) false ⟨#[], #[.string ByteArray.empty], []⟩ 8 (by kernel_rfl) (by kernel_rfl) (by kernel_rfl) (by kernel_rfl)) ?_
  intro W base args ds gs before hval0 hW hcnd hsz0 _
  have hsz : (DataW.weightsEach Try.prog (Try.f7.params.toList ++ Rows.frameStrictSpec.plain.varTypes Try.prog) (ds ++ gs)).all (· ≤ reachBytes) = true := hsz0
  have hval : ∀ (j : Nat) t v, Try.f7.params[j]? = some t → args[j]? = some v → Value.okWide Try.prog W .any base t v := hval0
  have hW' := hW
  obtain ⟨p, q, hA0, hV, rfl, hfz, hnd⟩ := hW
  have hA : DataW.TrodAll enc Try.prog W 0 (fun _ => true) true Try.f7.params.toList args.toList ds p := hA0
  rw [Try.params7] at hA hval hsz
  obtain ⟨v0, vs0, d0, ds0, p0, q0, hargs, rfl, rfl, h0, r0⟩ := trodAll_cons hA
  obtain ⟨rfl, rfl, rfl⟩ := trodAll_nil r0
  obtain rfl : args = #[v0] := by cases args; simp_all
  obtain ⟨rfl, rfl⟩ := trodVars_none hV
  obtain ⟨a0, rfl, rfl, rfl, y0⟩ := open_string Try.underlying9 (hval 0 9 v0 rfl rfl) h0
  have w0 : a0.size ≤ 140737488351232 := by
    have z := sized_string hsz (j := 0) (t := 9) rfl rfl
    rw [Array.length_toList] at z
    exact z
  clear hA0 hval0 hsz0 hsz
  refine (FrStrictW.walk a0 W w0).mono fun e W' ⟨he, bel⟩ => ?_
  subst he
  exact ⟨_, rfl, _, _, _, [], _, [], hW', trodAll_mk1 (shut_bool Try.underlying4 _), (trodAll_cons_mk (shut_string Try.underlying9 y0) trodAll_mk0), rfl, bel.frame _, fun h => by cases h⟩
theorem over : Rows.frameStrictRow.holds Try.pinned (OpenSpec.ofChange Rows.frameStrictSpec) :=
  OpenClaim.holds_of_wide 7 Try.f7 rfl rfl rfl rfl rfl rfl rfl ⟨rfl, rfl, rfl, rfl, rfl⟩ rfl rfl rfl rfl rfl (by kernel_rfl) Try.func7 (by kernel_rfl)
    (of_decide_eq_true (by kernel_rfl)) (by unfold Func.isWrapper; first | (rw [if_pos (by decide +kernel)]; kernel_rfl) | (rw [if_neg (by decide +kernel)]; exact ⟨rfl, rfl⟩))
    (fun os started H enc _ => lifted os started H enc)
theorem proved : Rows.FrameStrictSaid := over
#print axioms proved
end Go.Proofs.Ytbgnkjaikbhdoaa.frameStrict
namespace Go.Proofs.Ytbgnkjaikbhdoaa
/-- The row, under a short name, for the claim. -/
theorem frameStrict_holds : Rows.FrameStrictSaid := frameStrict.proved
end Go.Proofs.Ytbgnkjaikbhdoaa
