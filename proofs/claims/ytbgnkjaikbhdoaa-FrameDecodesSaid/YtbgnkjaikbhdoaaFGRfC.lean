/- hopmeshref13.Check. (cut to what is reached: wip/tools/slimout2.py) -/
import Derived.Test.YtbgnkjaikbhdoaaFGRfC1
import Derived.Test.YtbgnkjaikbhdoaaFGRfC2
import Derived.Test.YtbgnkjaikbhdoaaFGRfC3
import Derived.Test.YtbgnkjaikbhdoaaFGRfC4
namespace Go.Proofs.Ytbgnkjaikbhdoaa.RfC
set_option linter.unusedSimpArgs false
set_option linter.unusedVariables false
open Go.RowKit Go.Proofs.Ytbgnkjaikbhdoaa.FrA Go.Proofs.Ytbgnkjaikbhdoaa.FrF Go.Proofs.Ytbgnkjaikbhdoaa.FrC Go.Proofs.YtbgnkjaikbhdoaaW.PrintWords
open Go.Proofs.Ytbgnkjaikbhdoaa.Bytes (Str)
set_option maxRecDepth 100000 in
set_option maxHeartbeats 4000000 in
theorem rc_no (k s t l q x y er sl rk ep : Int) (d : List UInt8) (h1 : k ≠ 1) (h2 : k ≠ 2) (h3 : k ≠ 3) (h4 : k ≠ 4) (w : World) :
    Calls Try.prog 18 #[.agg (fr k s t l q x y er sl rk ep d)] w fun e w' => e = .returned (.int .i64 1) ∧ Below w.heap.size w w' := by
  have e1 : (k == 1) = false := by simpa using h1
  have e2 : (k == 2) = false := by simpa using h2
  have e3 : (k == 3) = false := by simpa using h3
  have e4 : (k == 4) = false := by simpa using h4
  clear h1 h2 h3 h4
  go_enter Try.func18, Try.ntmps18
  go_wp2
  go_quiet (fail)
  have HB : Hid (Below w.heap.size w ((w.alloc (.cells (fr k s t l q x y er sl rk ep d) TF)).drewN nq)) := Lib.hid (by
    have h := (Below.refl w.heap.size w).alloc (Nat.le_refl _) (.cells (fr k s t l q x y er sl rk ep d) TF)
    exact ⟨h.os, h.tape, h.output, h.size, h.block⟩)
  generalize (w.alloc (.cells (fr k s t l q x y er sl rk ep d) TF)).drewN nq = w2 at *
  go_wp2
  exact bodyPost_ret (results_tmp (t := 2) rfl _ _ _) rfl ⟨rfl, HB.out⟩
theorem rcheck_any (k s t l q x y er sl rk ep : Int) (d : List UInt8) (w : World) :
    Calls Try.prog 18 #[.agg (fr k s t l q x y er sl rk ep d)] w fun e w' => e = .returned (.int .i64 (ckF k s t l q x y er sl rk ep d)) ∧ Below w.heap.size w w' := by
  by_cases h1 : k = 1
  · subst h1; exact Go.Proofs.Ytbgnkjaikbhdoaa.RfC1.rc s t l q x y er sl rk ep d w
  by_cases h2 : k = 2
  · subst h2
    by_cases hd : d = []
    · subst hd; exact Go.Proofs.Ytbgnkjaikbhdoaa.RfC2.rc0 s t l q x y er sl rk ep w
    · exact Go.Proofs.Ytbgnkjaikbhdoaa.RfC2.rc s t l q x y er sl rk ep d hd w
  by_cases h3 : k = 3
  · subst h3; exact Go.Proofs.Ytbgnkjaikbhdoaa.RfC3.rc s t l q x y er sl rk ep d w
  by_cases h4 : k = 4
  · subst h4; exact Go.Proofs.Ytbgnkjaikbhdoaa.RfC4.rc s t l q x y er sl rk ep d w
  have e : ckF k s t l q x y er sl rk ep d = 1 := by unfold ckF okF; simp [h1, h2, h3, h4]
  rw [e]
  exact rc_no k s t l q x y er sl rk ep d h1 h2 h3 h4 w
end Go.Proofs.Ytbgnkjaikbhdoaa.RfC
