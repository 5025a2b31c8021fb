/- The walk of FrameEncodes. Printed by wip/frew.py. (cut to what is reached: wip/tools/slimout.py) -/
import Derived.Test.YtbgnkjaikbhdoaaFEFrAt
import Derived.Test.YtbgnkjaikbhdoaaFERfT
import Derived.Deep.RegionHeld3
namespace Go.Proofs.Ytbgnkjaikbhdoaa.FrEncW
set_option linter.unusedSimpArgs false
set_option linter.unusedVariables false
open Go.RowKit Go.Proofs.Ytbgnkjaikbhdoaa.Pack Go.Proofs.Ytbgnkjaikbhdoaa.FrA Go.Proofs.Ytbgnkjaikbhdoaa.FrF Go.Proofs.Ytbgnkjaikbhdoaa.FrCrc Go.Proofs.Ytbgnkjaikbhdoaa.FrE Go.Proofs.Ytbgnkjaikbhdoaa.FrC Go.Proofs.Ytbgnkjaikbhdoaa.FrEn Go.Proofs.Ytbgnkjaikbhdoaa.FrT Go.Proofs.Ytbgnkjaikbhdoaa.FrAw Go.Proofs.Ytbgnkjaikbhdoaa.FrAt Go.Proofs.Ytbgnkjaikbhdoaa.Alg Go.Proofs.Ytbgnkjaikbhdoaa.RfC Go.Proofs.Ytbgnkjaikbhdoaa.RfN Go.Proofs.Ytbgnkjaikbhdoaa.RfT Go.Proofs.YtbgnkjaikbhdoaaW.PrintWords
open Go.Proofs.Ytbgnkjaikbhdoaa.Bytes (Str)
set_option maxRecDepth 100000 in
set_option maxHeartbeats 8000000 in
theorem far (k s t l q x y er sl rk ep : Int) (d : List UInt8) (hd : 300 < d.length) (w : World) :
    Calls Try.prog 3 #[.agg (fr k s t l q x y er sl rk ep d)] w fun r w' => r = .returned (.bool true) ∧ Below w.heap.size w w' := by
  have es : (Str d).size = d.length := str_size d
  have e1 : decide ((300 : Int) < (d.length : Int)) = true := decide_eq_true (by omega)
  clear hd
  go_enter Try.func3, Try.ntmps3
  go_wp2_with fail
  ((with_reducible refine (awake_any _).mono ?_); rintro r w1 ⟨rfl, hb⟩)
  have A1 : Hid (At w w1 w.heap.size (fr k s t l q x y er sl rk ep d)) := Lib.hid (boxed _ _ _ hb)
  clear hb
  have c0 := cell_of_row w1 _ 0 _ _ _ A1.out.1
  have c1 := cell_of_row w1 _ 1 _ _ _ A1.out.1
  have c2 := cell_of_row w1 _ 2 _ _ _ A1.out.1
  have c3 := cell_of_row w1 _ 3 _ _ _ A1.out.1
  have c4 := cell_of_row w1 _ 4 _ _ _ A1.out.1
  have c5 := cell_of_row w1 _ 5 _ _ _ A1.out.1
  have c6 := cell_of_row w1 _ 6 _ _ _ A1.out.1
  have c7 := cell_of_row w1 _ 7 _ _ _ A1.out.1
  have c8 := cell_of_row w1 _ 8 _ _ _ A1.out.1
  have c9 := cell_of_row w1 _ 9 _ _ _ A1.out.1
  have c10 := cell_of_row w1 _ 10 _ _ _ A1.out.1
  have c11 := cell_of_row w1 _ 11 _ _ _ A1.out.1
  simp only [fr] at c0 c1 c2 c3 c4 c5 c6 c7 c8 c9 c10 c11
  go_wp2_with fail
  go_ret
  exact ⟨rfl, A1.out.2⟩
set_option maxRecDepth 100000 in
set_option maxHeartbeats 8000000 in
theorem near (k s t l q x y er sl rk ep : Int) (d : List UInt8) (hd : d.length ≤ 300) (p : List UInt8) (e : Int) (he : encF k s t l q x y er sl rk ep d = (p, e)) (t1 t2 : Int) (ht : timeF k s t l q x y er sl rk ep d = (t1, t2)) (m1 m2 : Int) (hm : roomF k s t l q x y er sl rk ep d = (m1, m2)) (c : Int) (hc : ckF k s t l q x y er sl rk ep d = c) (w : World) :
    Calls Try.prog 3 #[.agg (fr k s t l q x y er sl rk ep d)] w fun r w' => r = .returned (.bool true) ∧ Below w.heap.size w w' := by
  have es : (Str d).size = d.length := str_size d
  have e1 : decide ((300 : Int) < (d.length : Int)) = false := decide_eq_false (by omega)
  clear hd
  have H1 := Lib.hid (fun w => encode_any k s t l q x y er sl rk ep d _ he w)
  have H2 := Lib.hid (fun w => rencode_any k s t l q x y er sl rk ep d _ he w)
  have H3 := Lib.hid (fun w => time_any k s t l q x y er sl rk ep d _ ht w)
  have H4 := Lib.hid (fun w => rtime_any k s t l q x y er sl rk ep d _ ht w)
  have H5 := Lib.hid (fun w => room_any k s t l q x y er sl rk ep d _ hm w)
  have H6 := Lib.hid (fun w => rroom_any k s t l q x y er sl rk ep d _ hm w)
  have HK := fun w => check_any k s t l q x y er sl rk ep d w
  rw [hc] at HK
  have HK := Lib.hid HK
  have HR := fun w => rcheck_any k s t l q x y er sl rk ep d w
  rw [hc] at HR
  have HR := Lib.hid HR
  clear he ht hm hc
  go_enter Try.func3, Try.ntmps3
  go_wp2_with fail
  ((with_reducible refine (awake_any _).mono ?_); rintro r w1 ⟨rfl, hb⟩)
  have A1 : Hid (At w w1 w.heap.size (fr k s t l q x y er sl rk ep d)) := Lib.hid (boxed _ _ _ hb)
  clear hb
  have c0 := cell_of_row w1 _ 0 _ _ _ A1.out.1
  have c1 := cell_of_row w1 _ 1 _ _ _ A1.out.1
  have c2 := cell_of_row w1 _ 2 _ _ _ A1.out.1
  have c3 := cell_of_row w1 _ 3 _ _ _ A1.out.1
  have c4 := cell_of_row w1 _ 4 _ _ _ A1.out.1
  have c5 := cell_of_row w1 _ 5 _ _ _ A1.out.1
  have c6 := cell_of_row w1 _ 6 _ _ _ A1.out.1
  have c7 := cell_of_row w1 _ 7 _ _ _ A1.out.1
  have c8 := cell_of_row w1 _ 8 _ _ _ A1.out.1
  have c9 := cell_of_row w1 _ 9 _ _ _ A1.out.1
  have c10 := cell_of_row w1 _ 10 _ _ _ A1.out.1
  have c11 := cell_of_row w1 _ 11 _ _ _ A1.out.1
  simp only [fr] at c0 c1 c2 c3 c4 c5 c6 c7 c8 c9 c10 c11
  go_wp2_with fail
  ((with_reducible refine (H1.out _).mono ?_); rintro r w2 ⟨rfl, hb⟩)
  have A2 := Lib.hid (A1.out.later hb)
  clear hb A1 H1 c0 c1 c2 c3 c4 c5 c6 c7 c8 c9 c10 c11
  have c0 := cell_of_row w2 _ 0 _ _ _ A2.out.1
  have c1 := cell_of_row w2 _ 1 _ _ _ A2.out.1
  have c2 := cell_of_row w2 _ 2 _ _ _ A2.out.1
  have c3 := cell_of_row w2 _ 3 _ _ _ A2.out.1
  have c4 := cell_of_row w2 _ 4 _ _ _ A2.out.1
  have c5 := cell_of_row w2 _ 5 _ _ _ A2.out.1
  have c6 := cell_of_row w2 _ 6 _ _ _ A2.out.1
  have c7 := cell_of_row w2 _ 7 _ _ _ A2.out.1
  have c8 := cell_of_row w2 _ 8 _ _ _ A2.out.1
  have c9 := cell_of_row w2 _ 9 _ _ _ A2.out.1
  have c10 := cell_of_row w2 _ 10 _ _ _ A2.out.1
  have c11 := cell_of_row w2 _ 11 _ _ _ A2.out.1
  simp only [fr] at c0 c1 c2 c3 c4 c5 c6 c7 c8 c9 c10 c11
  go_wp2_with fail
  ((with_reducible refine (H2.out _).mono ?_); rintro r w3 ⟨rfl, hb⟩)
  have A3 := Lib.hid (A2.out.later hb)
  clear hb A2 H2 c0 c1 c2 c3 c4 c5 c6 c7 c8 c9 c10 c11
  have c0 := cell_of_row w3 _ 0 _ _ _ A3.out.1
  have c1 := cell_of_row w3 _ 1 _ _ _ A3.out.1
  have c2 := cell_of_row w3 _ 2 _ _ _ A3.out.1
  have c3 := cell_of_row w3 _ 3 _ _ _ A3.out.1
  have c4 := cell_of_row w3 _ 4 _ _ _ A3.out.1
  have c5 := cell_of_row w3 _ 5 _ _ _ A3.out.1
  have c6 := cell_of_row w3 _ 6 _ _ _ A3.out.1
  have c7 := cell_of_row w3 _ 7 _ _ _ A3.out.1
  have c8 := cell_of_row w3 _ 8 _ _ _ A3.out.1
  have c9 := cell_of_row w3 _ 9 _ _ _ A3.out.1
  have c10 := cell_of_row w3 _ 10 _ _ _ A3.out.1
  have c11 := cell_of_row w3 _ 11 _ _ _ A3.out.1
  simp only [fr] at c0 c1 c2 c3 c4 c5 c6 c7 c8 c9 c10 c11
  go_wp2_with fail
  ((with_reducible refine (H3.out _).mono ?_); rintro r w4 ⟨rfl, hb⟩)
  have A4 := Lib.hid (A3.out.later hb)
  clear hb A3 H3 c0 c1 c2 c3 c4 c5 c6 c7 c8 c9 c10 c11
  have c0 := cell_of_row w4 _ 0 _ _ _ A4.out.1
  have c1 := cell_of_row w4 _ 1 _ _ _ A4.out.1
  have c2 := cell_of_row w4 _ 2 _ _ _ A4.out.1
  have c3 := cell_of_row w4 _ 3 _ _ _ A4.out.1
  have c4 := cell_of_row w4 _ 4 _ _ _ A4.out.1
  have c5 := cell_of_row w4 _ 5 _ _ _ A4.out.1
  have c6 := cell_of_row w4 _ 6 _ _ _ A4.out.1
  have c7 := cell_of_row w4 _ 7 _ _ _ A4.out.1
  have c8 := cell_of_row w4 _ 8 _ _ _ A4.out.1
  have c9 := cell_of_row w4 _ 9 _ _ _ A4.out.1
  have c10 := cell_of_row w4 _ 10 _ _ _ A4.out.1
  have c11 := cell_of_row w4 _ 11 _ _ _ A4.out.1
  simp only [fr] at c0 c1 c2 c3 c4 c5 c6 c7 c8 c9 c10 c11
  go_wp2_with fail
  ((with_reducible refine (H4.out _).mono ?_); rintro r w5 ⟨rfl, hb⟩)
  have A5 := Lib.hid (A4.out.later hb)
  clear hb A4 H4 c0 c1 c2 c3 c4 c5 c6 c7 c8 c9 c10 c11
  have c0 := cell_of_row w5 _ 0 _ _ _ A5.out.1
  have c1 := cell_of_row w5 _ 1 _ _ _ A5.out.1
  have c2 := cell_of_row w5 _ 2 _ _ _ A5.out.1
  have c3 := cell_of_row w5 _ 3 _ _ _ A5.out.1
  have c4 := cell_of_row w5 _ 4 _ _ _ A5.out.1
  have c5 := cell_of_row w5 _ 5 _ _ _ A5.out.1
  have c6 := cell_of_row w5 _ 6 _ _ _ A5.out.1
  have c7 := cell_of_row w5 _ 7 _ _ _ A5.out.1
  have c8 := cell_of_row w5 _ 8 _ _ _ A5.out.1
  have c9 := cell_of_row w5 _ 9 _ _ _ A5.out.1
  have c10 := cell_of_row w5 _ 10 _ _ _ A5.out.1
  have c11 := cell_of_row w5 _ 11 _ _ _ A5.out.1
  simp only [fr] at c0 c1 c2 c3 c4 c5 c6 c7 c8 c9 c10 c11
  go_wp2_with fail
  ((with_reducible refine (H5.out _).mono ?_); rintro r w6 ⟨rfl, hb⟩)
  have A6 := Lib.hid (A5.out.later hb)
  clear hb A5 H5 c0 c1 c2 c3 c4 c5 c6 c7 c8 c9 c10 c11
  have c0 := cell_of_row w6 _ 0 _ _ _ A6.out.1
  have c1 := cell_of_row w6 _ 1 _ _ _ A6.out.1
  have c2 := cell_of_row w6 _ 2 _ _ _ A6.out.1
  have c3 := cell_of_row w6 _ 3 _ _ _ A6.out.1
  have c4 := cell_of_row w6 _ 4 _ _ _ A6.out.1
  have c5 := cell_of_row w6 _ 5 _ _ _ A6.out.1
  have c6 := cell_of_row w6 _ 6 _ _ _ A6.out.1
  have c7 := cell_of_row w6 _ 7 _ _ _ A6.out.1
  have c8 := cell_of_row w6 _ 8 _ _ _ A6.out.1
  have c9 := cell_of_row w6 _ 9 _ _ _ A6.out.1
  have c10 := cell_of_row w6 _ 10 _ _ _ A6.out.1
  have c11 := cell_of_row w6 _ 11 _ _ _ A6.out.1
  simp only [fr] at c0 c1 c2 c3 c4 c5 c6 c7 c8 c9 c10 c11
  go_wp2_with fail
  ((with_reducible refine (H6.out _).mono ?_); rintro r w7 ⟨rfl, hb⟩)
  have A7 := Lib.hid (A6.out.later hb)
  clear hb A6 H6 c0 c1 c2 c3 c4 c5 c6 c7 c8 c9 c10 c11
  have c0 := cell_of_row w7 _ 0 _ _ _ A7.out.1
  have c1 := cell_of_row w7 _ 1 _ _ _ A7.out.1
  have c2 := cell_of_row w7 _ 2 _ _ _ A7.out.1
  have c3 := cell_of_row w7 _ 3 _ _ _ A7.out.1
  have c4 := cell_of_row w7 _ 4 _ _ _ A7.out.1
  have c5 := cell_of_row w7 _ 5 _ _ _ A7.out.1
  have c6 := cell_of_row w7 _ 6 _ _ _ A7.out.1
  have c7 := cell_of_row w7 _ 7 _ _ _ A7.out.1
  have c8 := cell_of_row w7 _ 8 _ _ _ A7.out.1
  have c9 := cell_of_row w7 _ 9 _ _ _ A7.out.1
  have c10 := cell_of_row w7 _ 10 _ _ _ A7.out.1
  have c11 := cell_of_row w7 _ 11 _ _ _ A7.out.1
  simp only [fr] at c0 c1 c2 c3 c4 c5 c6 c7 c8 c9 c10 c11
  have A7D := Lib.hid (At.drew A7.out)
  go_wp2_with fail
  go_region_held3 (fun W => W.cell? ⟨w.heap.size, 0, none⟩ = some (.int .i64 k) ∧ W.cell? ⟨w.heap.size, 1, none⟩ = some (.int .i64 s) ∧ W.cell? ⟨w.heap.size, 2, none⟩ = some (.int .i64 t) ∧ W.cell? ⟨w.heap.size, 3, none⟩ = some (.int .i64 l) ∧ W.cell? ⟨w.heap.size, 4, none⟩ = some (.int .i64 q) ∧ W.cell? ⟨w.heap.size, 5, none⟩ = some (.int .i64 x) ∧ W.cell? ⟨w.heap.size, 6, none⟩ = some (.int .i64 y) ∧ W.cell? ⟨w.heap.size, 7, none⟩ = some (.int .i64 er) ∧ W.cell? ⟨w.heap.size, 8, none⟩ = some (.int .i64 sl) ∧ W.cell? ⟨w.heap.size, 9, none⟩ = some (.int .i64 rk) ∧ W.cell? ⟨w.heap.size, 10, none⟩ = some (.int .i64 ep) ∧ W.cell? ⟨w.heap.size, 11, none⟩ = some (.string (Str d))) (first | exact ⟨c0, c1, c2, c3, c4, c5, c6, c7, c8, c9, c10, c11⟩ | exact ⟨d0, d1, d2, d3, d4, d5, d6, d7, d8, d9, d10, d11⟩ | exact ⟨g0, g1, g2, g3, g4, g5, g6, g7, g8, g9, g10, g11⟩) (first
    | ((with_reducible refine (HK.out _).mono ?_); rintro r w8 ⟨rfl, hb⟩; have A8 := Lib.hid (At.later A7D.out hb); have d0 := cell_of_row w8 _ 0 _ _ _ A8.out.1; have d1 := cell_of_row w8 _ 1 _ _ _ A8.out.1; have d2 := cell_of_row w8 _ 2 _ _ _ A8.out.1; have d3 := cell_of_row w8 _ 3 _ _ _ A8.out.1; have d4 := cell_of_row w8 _ 4 _ _ _ A8.out.1; have d5 := cell_of_row w8 _ 5 _ _ _ A8.out.1; have d6 := cell_of_row w8 _ 6 _ _ _ A8.out.1; have d7 := cell_of_row w8 _ 7 _ _ _ A8.out.1; have d8 := cell_of_row w8 _ 8 _ _ _ A8.out.1; have d9 := cell_of_row w8 _ 9 _ _ _ A8.out.1; have d10 := cell_of_row w8 _ 10 _ _ _ A8.out.1; have d11 := cell_of_row w8 _ 11 _ _ _ A8.out.1; simp only [fr] at d0 d1 d2 d3 d4 d5 d6 d7 d8 d9 d10 d11; clear hb)
    | ((with_reducible refine (HR.out _).mono ?_); rintro r w9 ⟨rfl, hb⟩; have A9 := Lib.hid (At.later A8.out hb); have g0 := cell_of_row w9 _ 0 _ _ _ A9.out.1; have g1 := cell_of_row w9 _ 1 _ _ _ A9.out.1; have g2 := cell_of_row w9 _ 2 _ _ _ A9.out.1; have g3 := cell_of_row w9 _ 3 _ _ _ A9.out.1; have g4 := cell_of_row w9 _ 4 _ _ _ A9.out.1; have g5 := cell_of_row w9 _ 5 _ _ _ A9.out.1; have g6 := cell_of_row w9 _ 6 _ _ _ A9.out.1; have g7 := cell_of_row w9 _ 7 _ _ _ A9.out.1; have g8 := cell_of_row w9 _ 8 _ _ _ A9.out.1; have g9 := cell_of_row w9 _ 9 _ _ _ A9.out.1; have g10 := cell_of_row w9 _ 10 _ _ _ A9.out.1; have g11 := cell_of_row w9 _ 11 _ _ _ A9.out.1; simp only [fr] at g0 g1 g2 g3 g4 g5 g6 g7 g8 g9 g10 g11; clear hb))
  all_goals go_wp2_with fail
  all_goals go_ret
  all_goals exact ⟨rfl, A9.out.2⟩
theorem walk (k s t l q x y er sl rk ep : Int) (d : ByteArray) (w : World) (_ : (Lit.int .i64 k).wf = true) (_ : (Lit.int .i64 s).wf = true) (_ : (Lit.int .i64 t).wf = true) (_ : (Lit.int .i64 l).wf = true) (_ : (Lit.int .i64 q).wf = true) (_ : (Lit.int .i64 x).wf = true) (_ : (Lit.int .i64 y).wf = true) (_ : (Lit.int .i64 er).wf = true) (_ : (Lit.int .i64 sl).wf = true) (_ : (Lit.int .i64 rk).wf = true) (_ : (Lit.int .i64 ep).wf = true) (_ : d.size ≤ maxLen) :
    Calls Try.prog 3 #[.agg #[.int .i64 k, .int .i64 s, .int .i64 t, .int .i64 l, .int .i64 q, .int .i64 x, .int .i64 y, .int .i64 er, .int .i64 sl, .int .i64 rk, .int .i64 ep, .string d]] w fun e w' => e = .returned (.bool true) ∧ Below w.heap.size w w' := by
  obtain ⟨l1, rfl⟩ := str_of d
  by_cases hd : l1.length ≤ 300
  · exact near k s t l q x y er sl rk ep l1 hd _ _ rfl _ _ rfl _ _ rfl _ rfl w
  · exact far k s t l q x y er sl rk ep l1 (by omega) w
end Go.Proofs.Ytbgnkjaikbhdoaa.FrEncW
