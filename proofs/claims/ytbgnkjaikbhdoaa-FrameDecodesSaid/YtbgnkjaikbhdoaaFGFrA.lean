/- frame.Frame as a value; frame's and the reference's small functions. (cut to what is reached: wip/tools/slimout2.py) -/
import Derived.Test.YtbgnkjaikbhdoaaFGWrAll
namespace Go.Proofs.Ytbgnkjaikbhdoaa.FrA
set_option linter.unusedSimpArgs false
set_option linter.unusedVariables false
open Go.RowKit
open Go.Proofs.Ytbgnkjaikbhdoaa.Bytes (Str)
abbrev fr (k s t l q x y er sl rk ep : Int) (d : List UInt8) : Array Value := #[.int .i64 k, .int .i64 s, .int .i64 t, .int .i64 l, .int .i64 q, .int .i64 x, .int .i64 y, .int .i64 er, .int .i64 sl, .int .i64 rk, .int .i64 ep, .string (Str d)]
abbrev TF : TypeId := 23
def inB (n m : Int) : Bool := decide (0 ≤ n) && decide (n ≤ m)
def errB (n : Int) : Bool := decide (-32768 ≤ n) && decide (n ≤ 32767)
def tgB (s t : Int) : Bool := inB t 31 && !decide (t = s)
theorem in_any (n m : Int) (w : World) :
    Calls Try.prog 37 #[.int .i64 n, .int .i64 m] w fun e w' => e = .returned (.bool (inB n m)) ∧ w' = w := by
  unfold inB
  by_cases h1 : 0 ≤ n
  · by_cases h2 : n ≤ m
    · go_enter Try.func37, Try.ntmps37
      go_wp2_with fail
      go_ret
      exact ⟨by simp [h1, h2], rfl⟩
    · go_enter Try.func37, Try.ntmps37
      go_wp2_with fail
      go_ret
      exact ⟨by simp [h1, h2], rfl⟩
  · go_enter Try.func37, Try.ntmps37
    go_wp2_with fail
    go_ret
    exact ⟨by simp; omega, rfl⟩
theorem within_any (n m : Int) (w : World) :
    Calls Try.prog 38 #[.int .i64 n, .int .i64 m] w fun e w' => e = .returned (.bool (inB n m)) ∧ w' = w := by
  unfold inB
  by_cases h1 : 0 ≤ n
  · by_cases h2 : n ≤ m
    · go_enter Try.func38, Try.ntmps38
      go_wp2_with fail
      go_ret
      exact ⟨by simp [h1, h2], rfl⟩
    · go_enter Try.func38, Try.ntmps38
      go_wp2_with fail
      go_ret
      exact ⟨by simp [h1, h2], rfl⟩
  · go_enter Try.func38, Try.ntmps38
    go_wp2_with fail
    go_ret
    exact ⟨by simp; omega, rfl⟩
theorem isError_any (n : Int) (w : World) :
    Calls Try.prog 39 #[.int .i64 n] w fun e w' => e = .returned (.bool (errB n)) ∧ w' = w := by
  unfold errB
  by_cases h1 : -32768 ≤ n
  · by_cases h2 : n ≤ 32767
    · go_enter Try.func39, Try.ntmps39
      go_wp2_with fail
      go_ret
      exact ⟨by simp [h1, h2], rfl⟩
    · go_enter Try.func39, Try.ntmps39
      go_wp2_with fail
      go_ret
      exact ⟨by simp [h1, h2], rfl⟩
  · go_enter Try.func39, Try.ntmps39
    go_wp2_with fail
    go_ret
    exact ⟨by simp; omega, rfl⟩
set_option maxRecDepth 100000 in
set_option maxHeartbeats 4000000 in
theorem isTarget_any (k s t l q x y er sl rk ep : Int) (d : List UInt8) (w : World) :
    Calls Try.prog 67 #[.agg (fr k s t l q x y er sl rk ep d)] w fun e w' => e = .returned (.bool (tgB s t)) ∧ w' = w.alloc (.cells (fr k s t l q x y er sl rk ep d) TF) := by
  unfold tgB
  cases hc : inB t 31
  · go_enter Try.func67, Try.ntmps67
    go_wp2_with fail
    refine (in_any t 31 _).mono ?_
    rintro e w1 ⟨rfl, rfl⟩
    rw [hc]
    go_wp2_with fail
    go_ret
    exact ⟨by simp, rfl⟩
  · by_cases h : t = s
    · subst h
      go_enter Try.func67, Try.ntmps67
      go_wp2_with fail
      refine (in_any t 31 _).mono ?_
      rintro e w1 ⟨rfl, rfl⟩
      rw [hc]
      go_wp2_with fail
      go_ret
      exact ⟨by simp, rfl⟩
    · go_enter Try.func67, Try.ntmps67
      go_wp2_with fail
      refine (in_any t 31 _).mono ?_
      rintro e w1 ⟨rfl, rfl⟩
      rw [hc]
      go_wp2_with fail
      go_ret
      exact ⟨by simp [h], rfl⟩
abbrev rest (k s t l q x y er sl rk ep : Int) (d : List UInt8) : Array Value :=
  if k = 1 then fr k s t l q 0 0 er sl rk ep []
  else if k = 2 then fr k s t l q x y 0 sl rk ep d
  else if k = 3 then fr k s t l q x y er 0 0 0 []
  else if k = 4 then fr k s t l q x y er sl rk ep []
  else fr k s t l q x y er sl rk ep d
end Go.Proofs.Ytbgnkjaikbhdoaa.FrA
