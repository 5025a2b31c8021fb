/- hopmeshref13.Check: frames of kind 1. (cut to what is reached: wip/tools/slimout2.py) -/
import Derived.Test.YtbgnkjaikbhdoaaFGFrC
namespace Go.Proofs.Ytbgnkjaikbhdoaa.RfC1
set_option linter.unusedSimpArgs false
set_option linter.unusedVariables false
open Go.RowKit Go.Proofs.Ytbgnkjaikbhdoaa.FrA Go.Proofs.Ytbgnkjaikbhdoaa.FrF Go.Proofs.Ytbgnkjaikbhdoaa.FrC Go.Proofs.YtbgnkjaikbhdoaaW.PrintWords
open Go.Proofs.Ytbgnkjaikbhdoaa.Bytes (Str)
theorem inB_t (n m : Int) : inB n m = true ↔ 0 ≤ n ∧ n ≤ m := by simp [inB]
theorem inB_f (n m : Int) : inB n m = false ↔ ¬(0 ≤ n ∧ n ≤ m) := by rw [← Bool.not_eq_true, inB_t]
set_option maxRecDepth 100000 in
set_option maxHeartbeats 4000000 in
theorem rc (s t l q x y er sl rk ep : Int) (d : List UInt8) (w : World) :
    Calls Try.prog 18 #[.agg (fr 1 s t l q x y er sl rk ep d)] w fun e w' => e = .returned (.int .i64 (ckF 1 s t l q x y er sl rk ep d)) ∧ Below w.heap.size w w' := by
  obtain ⟨ck, hck⟩ : ∃ c, c = ckF 1 s t l q x y er sl rk ep d := ⟨_, rfl⟩
  rw [← hck]
  have HCK := Lib.hid hck
  clear hck
  go_enter Try.func18, Try.ntmps18
  go_wp2
  go_quiet (fail)
  have hw : ((w.alloc (.cells (fr 1 s t l q x y er sl rk ep d) TF)).drewN nq).heap[w.heap.size]? = some (.cells (fr 1 s t l q x y er sl rk ep d) TF (0, 0)) := heap_alloc_new _ _
  have HB : Hid (Below w.heap.size w ((w.alloc (.cells (fr 1 s t l q x y er sl rk ep d) TF)).drewN nq)) := Lib.hid (by
    have h := (Below.refl w.heap.size w).alloc (Nat.le_refl _) (.cells (fr 1 s t l q x y er sl rk ep d) TF)
    exact ⟨h.os, h.tape, h.output, h.size, h.block⟩)
  generalize (w.alloc (.cells (fr 1 s t l q x y er sl rk ep d) TF)).drewN nq = w2 at *
  have c1 := cell_of_row w2 _ 1 _ _ _ hw
  have c2 := cell_of_row w2 _ 2 _ _ _ hw
  have c3 := cell_of_row w2 _ 3 _ _ _ hw
  have c4 := cell_of_row w2 _ 4 _ _ _ hw
  have c5 := cell_of_row w2 _ 5 _ _ _ hw
  have c6 := cell_of_row w2 _ 6 _ _ _ hw
  have c7 := cell_of_row w2 _ 7 _ _ _ hw
  have c8 := cell_of_row w2 _ 8 _ _ _ hw
  have c9 := cell_of_row w2 _ 9 _ _ _ hw
  have c10 := cell_of_row w2 _ 10 _ _ _ hw
  have c11 := cell_of_row w2 _ 11 _ _ _ hw
  simp only [fr] at c1 c2 c3 c4 c5 c6 c7 c8 c9 c10 c11
  clear hw
  go_wp2_with ((with_reducible refine (within_any _ _ _).mono ?_); rintro e w' ⟨rfl, rfl⟩)
  all_goals clear c1 c2 c3 c4 c5 c6 c7 c8 c9 c10 c11
  all_goals (
    refine bodyPost_ret (results_tmp (t := 2) rfl _ _ _) rfl ?_
    first
      | refine ⟨congrArg (fun c : Int => Ending.returned (Value.int .i64 c)) (?_ : (1 : Int) = ck), HB.out⟩
      | refine ⟨congrArg (fun c : Int => Ending.returned (Value.int .i64 c)) (?_ : (0 : Int) = ck), HB.out⟩
    rw [HCK.out]
    clear HB HCK
    simp only [ckF, okF, tgB, inB, zeroB, errB, Int.reduceEq, reduceIte, Bool.and_eq_true, Bool.or_eq_true, Bool.not_eq_true', decide_eq_true_eq, decide_eq_false_iff_not, true_and, and_true]
    all_goals (
      simp only [Bool.not_eq_true', Bool.not_eq_false', inB_t, inB_f, beq_iff_eq, bne_iff_ne, beq_eq_false_iff_ne, bne_eq_false_iff_eq, ne_eq] at *
      first | rfl | (split <;> omega)))
end Go.Proofs.Ytbgnkjaikbhdoaa.RfC1
