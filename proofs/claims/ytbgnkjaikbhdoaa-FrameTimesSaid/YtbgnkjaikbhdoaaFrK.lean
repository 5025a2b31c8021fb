/- frame.Ack, frame.Answers and frame.For. -/
import Derived.Test.YtbgnkjaikbhdoaaFrT
namespace Go.Proofs.Ytbgnkjaikbhdoaa.FrK
open Go.RowKit Go.Proofs.Ytbgnkjaikbhdoaa.Pack Go.Proofs.Ytbgnkjaikbhdoaa.FrA Go.Proofs.Ytbgnkjaikbhdoaa.FrF Go.Proofs.Ytbgnkjaikbhdoaa.FrCrc Go.Proofs.Ytbgnkjaikbhdoaa.FrE Go.Proofs.Ytbgnkjaikbhdoaa.FrC Go.Proofs.Ytbgnkjaikbhdoaa.FrEn Go.Proofs.Ytbgnkjaikbhdoaa.FrT Go.Proofs.Ytbgnkjaikbhdoaa.Alg
open Go.Proofs.Ytbgnkjaikbhdoaa.Bytes (Str)

theorem two (cs : Array Value) (w w1 : World) (hb : Below ((w.alloc (.cells cs TF)).alloc (.cells zs TF)).heap.size ((w.alloc (.cells cs TF)).alloc (.cells zs TF)) w1) :
    w1.heap[w.heap.size]? = some (.cells cs TF (0, 0)) ∧ w1.heap[w.heap.size + 1]? = some (.cells zs TF (0, 0)) ∧ Below w.heap.size w w1 := by
  refine ⟨?_, ?_, ?_⟩
  · rw [hb.block _ (by simp; omega)]; exact heap_alloc2_old _ _ _
  · rw [hb.block _ (by simp)]; exact heap_alloc2_new _ _ _
  · exact (((Below.refl _ _).alloc (Nat.le_refl _) _).alloc (by simp) _).trans (hb.mono (by simp; omega))
set_option maxRecDepth 100000 in
set_option maxHeartbeats 4000000 in
theorem ack_wrong (k s t l q x y er sl rk ep : Int) (d : List UInt8) (a b : Int) (h : Chk (fr k s t l q x y er sl rk ep d) 1) (w : World) :
    Calls Try.prog 19 #[.agg (fr k s t l q x y er sl rk ep d), .int .i64 a, .int .i64 b] w fun r w' => r = .returned (.tuple #[.agg (zs), .int .i64 1]) ∧ Below w.heap.size w w' := by
  go_enter Try.func19, Try.ntmps19
  go_wp2_with fail
  refine (h _).mono ?_
  rintro r w1 ⟨rfl, hb⟩
  have HT := Lib.hid (two _ _ _ hb)
  have c0 := cell_of_row w1 _ 0 _ _ _ (two _ _ _ hb).1
  have c1 := cell_of_row w1 _ 1 _ _ _ (two _ _ _ hb).1
  have c2 := cell_of_row w1 _ 2 _ _ _ (two _ _ _ hb).1
  have c4 := cell_of_row w1 _ 4 _ _ _ (two _ _ _ hb).1
  simp only [fr] at c0 c1 c2 c4
  clear hb h
  go_wp2_with (refine wpList_store_row rfl TF _ _ rfl (w.heap.size + 1) (zs) rfl rfl TF zs HT.out.2.1 (by kernel_rfl) (fr_size ..) (fr_one ..) ?_)
  exact bodyPost_ret (v := .tuple #[.agg (zs), .int .i64 1]) (results_cv (p := 6) (u := 7) rfl _ _ (w.heap.size + 1) TF (zs) (0, 0) _ _ rfl rfl (setRow_heap _ _ _ _ _ _ HT.out.2.1) Try.underlying23 rfl (by kernel_rfl)) rfl ⟨rfl, below_setRow HT.out.2.2 (by omega) _⟩
set_option maxRecDepth 100000 in
set_option maxHeartbeats 4000000 in
theorem ack_kind (k s t l q x y er sl rk ep : Int) (d : List UInt8) (a b : Int) (j1 : decide (k = 1) = false) (j4 : decide (k = 4) = false) (h : Chk (fr k s t l q x y er sl rk ep d) 0) (w : World) :
    Calls Try.prog 19 #[.agg (fr k s t l q x y er sl rk ep d), .int .i64 a, .int .i64 b] w fun r w' => r = .returned (.tuple #[.agg (zs), .int .i64 1]) ∧ Below w.heap.size w w' := by
  have i1 : (k == 1) = false := j1
  have i4 : (k == 4) = false := j4
  go_enter Try.func19, Try.ntmps19
  go_wp2_with fail
  refine (h _).mono ?_
  rintro r w1 ⟨rfl, hb⟩
  have HT := Lib.hid (two _ _ _ hb)
  have c0 := cell_of_row w1 _ 0 _ _ _ (two _ _ _ hb).1
  have c1 := cell_of_row w1 _ 1 _ _ _ (two _ _ _ hb).1
  have c2 := cell_of_row w1 _ 2 _ _ _ (two _ _ _ hb).1
  have c4 := cell_of_row w1 _ 4 _ _ _ (two _ _ _ hb).1
  simp only [fr] at c0 c1 c2 c4
  clear hb h
  go_wp2_with (refine wpList_store_row rfl TF _ _ rfl (w.heap.size + 1) (zs) rfl rfl TF zs HT.out.2.1 (by kernel_rfl) (fr_size ..) (fr_one ..) ?_)
  exact bodyPost_ret (v := .tuple #[.agg (zs), .int .i64 1]) (results_cv (p := 6) (u := 7) rfl _ _ (w.heap.size + 1) TF (zs) (0, 0) _ _ rfl rfl (setRow_heap _ _ _ _ _ _ HT.out.2.1) Try.underlying23 rfl (by kernel_rfl)) rfl ⟨rfl, below_setRow HT.out.2.2 (by omega) _⟩
set_option maxRecDepth 100000 in
set_option maxHeartbeats 4000000 in
theorem ack_toall (s l q x y er sl rk ep : Int) (d : List UInt8) (a b : Int) (h : Chk (fr 4 s (-1) l q x y er sl rk ep d) 0) (w : World) :
    Calls Try.prog 19 #[.agg (fr 4 s (-1) l q x y er sl rk ep d), .int .i64 a, .int .i64 b] w fun r w' => r = .returned (.tuple #[.agg (zs), .int .i64 1]) ∧ Below w.heap.size w w' := by
  go_enter Try.func19, Try.ntmps19
  go_wp2_with fail
  refine (h _).mono ?_
  rintro r w1 ⟨rfl, hb⟩
  have HT := Lib.hid (two _ _ _ hb)
  have c0 := cell_of_row w1 _ 0 _ _ _ (two _ _ _ hb).1
  have c1 := cell_of_row w1 _ 1 _ _ _ (two _ _ _ hb).1
  have c2 := cell_of_row w1 _ 2 _ _ _ (two _ _ _ hb).1
  have c4 := cell_of_row w1 _ 4 _ _ _ (two _ _ _ hb).1
  simp only [fr] at c0 c1 c2 c4
  clear hb h
  go_wp2_with (refine wpList_store_row rfl TF _ _ rfl (w.heap.size + 1) (zs) rfl rfl TF zs HT.out.2.1 (by kernel_rfl) (fr_size ..) (fr_one ..) ?_)
  exact bodyPost_ret (v := .tuple #[.agg (zs), .int .i64 1]) (results_cv (p := 6) (u := 7) rfl _ _ (w.heap.size + 1) TF (zs) (0, 0) _ _ rfl rfl (setRow_heap _ _ _ _ _ _ HT.out.2.1) Try.underlying23 rfl (by kernel_rfl)) rfl ⟨rfl, below_setRow HT.out.2.2 (by omega) _⟩
set_option maxRecDepth 100000 in
set_option maxHeartbeats 4000000 in
theorem ack_list1 (s t l q x y er sl rk ep : Int) (d : List UInt8) (a b : Int) (j : decide (t = -1) = false) (u : inB a 255 = false) (h : Chk (fr 1 s t l q x y er sl rk ep d) 0) (w : World) :
    Calls Try.prog 19 #[.agg (fr 1 s t l q x y er sl rk ep d), .int .i64 a, .int .i64 b] w fun r w' => r = .returned (.tuple #[.agg (zs), .int .i64 2]) ∧ Below w.heap.size w w' := by
  have i : (t == -1) = false := j
  go_enter Try.func19, Try.ntmps19
  go_wp2_with fail
  refine (h _).mono ?_
  rintro r w1 ⟨rfl, hb⟩
  have HT := Lib.hid (two _ _ _ hb)
  have c0 := cell_of_row w1 _ 0 _ _ _ (two _ _ _ hb).1
  have c1 := cell_of_row w1 _ 1 _ _ _ (two _ _ _ hb).1
  have c2 := cell_of_row w1 _ 2 _ _ _ (two _ _ _ hb).1
  have c4 := cell_of_row w1 _ 4 _ _ _ (two _ _ _ hb).1
  simp only [fr] at c0 c1 c2 c4
  clear hb h
  go_wp2_with fail
  refine (in_any a 255 _).mono ?_
  rintro r w' ⟨rfl, rfl⟩
  rw [u]
  go_wp2_with (refine wpList_store_row rfl TF _ _ rfl (w.heap.size + 1) (zs) rfl rfl TF zs HT.out.2.1 (by kernel_rfl) (fr_size ..) (fr_one ..) ?_)
  exact bodyPost_ret (v := .tuple #[.agg (zs), .int .i64 2]) (results_cv (p := 6) (u := 7) rfl _ _ (w.heap.size + 1) TF (zs) (0, 0) _ _ rfl rfl (setRow_heap _ _ _ _ _ _ HT.out.2.1) Try.underlying23 rfl (by kernel_rfl)) rfl ⟨rfl, below_setRow HT.out.2.2 (by omega) _⟩
set_option maxRecDepth 100000 in
set_option maxHeartbeats 4000000 in
theorem ack_diff1 (s t l q x y er sl rk ep : Int) (d : List UInt8) (a b : Int) (j : decide (t = -1) = false) (u : inB a 255 = true) (v : errB b = false) (h : Chk (fr 1 s t l q x y er sl rk ep d) 0) (w : World) :
    Calls Try.prog 19 #[.agg (fr 1 s t l q x y er sl rk ep d), .int .i64 a, .int .i64 b] w fun r w' => r = .returned (.tuple #[.agg (zs), .int .i64 2]) ∧ Below w.heap.size w w' := by
  have i : (t == -1) = false := j
  go_enter Try.func19, Try.ntmps19
  go_wp2_with fail
  refine (h _).mono ?_
  rintro r w1 ⟨rfl, hb⟩
  have HT := Lib.hid (two _ _ _ hb)
  have c0 := cell_of_row w1 _ 0 _ _ _ (two _ _ _ hb).1
  have c1 := cell_of_row w1 _ 1 _ _ _ (two _ _ _ hb).1
  have c2 := cell_of_row w1 _ 2 _ _ _ (two _ _ _ hb).1
  have c4 := cell_of_row w1 _ 4 _ _ _ (two _ _ _ hb).1
  simp only [fr] at c0 c1 c2 c4
  clear hb h
  go_wp2_with fail
  refine (in_any a 255 _).mono ?_
  rintro r w' ⟨rfl, rfl⟩
  rw [u]
  go_wp2_with fail
  refine (isError_any b _).mono ?_
  rintro r w' ⟨rfl, rfl⟩
  rw [v]
  go_wp2_with (refine wpList_store_row rfl TF _ _ rfl (w.heap.size + 1) (zs) rfl rfl TF zs HT.out.2.1 (by kernel_rfl) (fr_size ..) (fr_one ..) ?_)
  exact bodyPost_ret (v := .tuple #[.agg (zs), .int .i64 2]) (results_cv (p := 6) (u := 7) rfl _ _ (w.heap.size + 1) TF (zs) (0, 0) _ _ rfl rfl (setRow_heap _ _ _ _ _ _ HT.out.2.1) Try.underlying23 rfl (by kernel_rfl)) rfl ⟨rfl, below_setRow HT.out.2.2 (by omega) _⟩
set_option maxRecDepth 100000 in
set_option maxHeartbeats 4000000 in
theorem ack_right1 (s t l q x y er sl rk ep : Int) (d : List UInt8) (a b : Int) (j : decide (t = -1) = false) (u : inB a 255 = true) (v : errB b = true) (h : Chk (fr 1 s t l q x y er sl rk ep d) 0) (w : World) :
    Calls Try.prog 19 #[.agg (fr 1 s t l q x y er sl rk ep d), .int .i64 a, .int .i64 b] w fun r w' => r = .returned (.tuple #[.agg (fr 2 t s a q 0 0 b 0 0 0 []), .int .i64 0]) ∧ Below w.heap.size w w' := by
  have i : (t == -1) = false := j
  go_enter Try.func19, Try.ntmps19
  go_wp2_with fail
  refine (h _).mono ?_
  rintro r w1 ⟨rfl, hb⟩
  have HT := Lib.hid (two _ _ _ hb)
  have c0 := cell_of_row w1 _ 0 _ _ _ (two _ _ _ hb).1
  have c1 := cell_of_row w1 _ 1 _ _ _ (two _ _ _ hb).1
  have c2 := cell_of_row w1 _ 2 _ _ _ (two _ _ _ hb).1
  have c4 := cell_of_row w1 _ 4 _ _ _ (two _ _ _ hb).1
  simp only [fr] at c0 c1 c2 c4
  clear hb h
  go_wp2_with fail
  refine (in_any a 255 _).mono ?_
  rintro r w' ⟨rfl, rfl⟩
  rw [u]
  go_wp2_with fail
  refine (isError_any b _).mono ?_
  rintro r w' ⟨rfl, rfl⟩
  rw [v]
  go_wp2_with (refine wpList_store_row rfl TF _ _ rfl (w.heap.size + 1) (fr 2 t s a q 0 0 b 0 0 0 []) rfl rfl TF zs HT.out.2.1 (by kernel_rfl) (fr_size ..) (fr_one ..) ?_)
  exact bodyPost_ret (v := .tuple #[.agg (fr 2 t s a q 0 0 b 0 0 0 []), .int .i64 0]) (results_cv (p := 6) (u := 7) rfl _ _ (w.heap.size + 1) TF (fr 2 t s a q 0 0 b 0 0 0 []) (0, 0) _ _ rfl rfl (setRow_heap _ _ _ _ _ _ HT.out.2.1) Try.underlying23 rfl (by kernel_rfl)) rfl ⟨rfl, below_setRow HT.out.2.2 (by omega) _⟩
set_option maxRecDepth 100000 in
set_option maxHeartbeats 4000000 in
theorem ack_list4 (s t l q x y er sl rk ep : Int) (d : List UInt8) (a b : Int) (j : decide (t = -1) = false) (u : inB a 255 = false) (h : Chk (fr 4 s t l q x y er sl rk ep d) 0) (w : World) :
    Calls Try.prog 19 #[.agg (fr 4 s t l q x y er sl rk ep d), .int .i64 a, .int .i64 b] w fun r w' => r = .returned (.tuple #[.agg (zs), .int .i64 2]) ∧ Below w.heap.size w w' := by
  have i : (t == -1) = false := j
  go_enter Try.func19, Try.ntmps19
  go_wp2_with fail
  refine (h _).mono ?_
  rintro r w1 ⟨rfl, hb⟩
  have HT := Lib.hid (two _ _ _ hb)
  have c0 := cell_of_row w1 _ 0 _ _ _ (two _ _ _ hb).1
  have c1 := cell_of_row w1 _ 1 _ _ _ (two _ _ _ hb).1
  have c2 := cell_of_row w1 _ 2 _ _ _ (two _ _ _ hb).1
  have c4 := cell_of_row w1 _ 4 _ _ _ (two _ _ _ hb).1
  simp only [fr] at c0 c1 c2 c4
  clear hb h
  go_wp2_with fail
  refine (in_any a 255 _).mono ?_
  rintro r w' ⟨rfl, rfl⟩
  rw [u]
  go_wp2_with (refine wpList_store_row rfl TF _ _ rfl (w.heap.size + 1) (zs) rfl rfl TF zs HT.out.2.1 (by kernel_rfl) (fr_size ..) (fr_one ..) ?_)
  exact bodyPost_ret (v := .tuple #[.agg (zs), .int .i64 2]) (results_cv (p := 6) (u := 7) rfl _ _ (w.heap.size + 1) TF (zs) (0, 0) _ _ rfl rfl (setRow_heap _ _ _ _ _ _ HT.out.2.1) Try.underlying23 rfl (by kernel_rfl)) rfl ⟨rfl, below_setRow HT.out.2.2 (by omega) _⟩
set_option maxRecDepth 100000 in
set_option maxHeartbeats 4000000 in
theorem ack_diff4 (s t l q x y er sl rk ep : Int) (d : List UInt8) (a b : Int) (j : decide (t = -1) = false) (u : inB a 255 = true) (v : errB b = false) (h : Chk (fr 4 s t l q x y er sl rk ep d) 0) (w : World) :
    Calls Try.prog 19 #[.agg (fr 4 s t l q x y er sl rk ep d), .int .i64 a, .int .i64 b] w fun r w' => r = .returned (.tuple #[.agg (zs), .int .i64 2]) ∧ Below w.heap.size w w' := by
  have i : (t == -1) = false := j
  go_enter Try.func19, Try.ntmps19
  go_wp2_with fail
  refine (h _).mono ?_
  rintro r w1 ⟨rfl, hb⟩
  have HT := Lib.hid (two _ _ _ hb)
  have c0 := cell_of_row w1 _ 0 _ _ _ (two _ _ _ hb).1
  have c1 := cell_of_row w1 _ 1 _ _ _ (two _ _ _ hb).1
  have c2 := cell_of_row w1 _ 2 _ _ _ (two _ _ _ hb).1
  have c4 := cell_of_row w1 _ 4 _ _ _ (two _ _ _ hb).1
  simp only [fr] at c0 c1 c2 c4
  clear hb h
  go_wp2_with fail
  refine (in_any a 255 _).mono ?_
  rintro r w' ⟨rfl, rfl⟩
  rw [u]
  go_wp2_with fail
  refine (isError_any b _).mono ?_
  rintro r w' ⟨rfl, rfl⟩
  rw [v]
  go_wp2_with (refine wpList_store_row rfl TF _ _ rfl (w.heap.size + 1) (zs) rfl rfl TF zs HT.out.2.1 (by kernel_rfl) (fr_size ..) (fr_one ..) ?_)
  exact bodyPost_ret (v := .tuple #[.agg (zs), .int .i64 2]) (results_cv (p := 6) (u := 7) rfl _ _ (w.heap.size + 1) TF (zs) (0, 0) _ _ rfl rfl (setRow_heap _ _ _ _ _ _ HT.out.2.1) Try.underlying23 rfl (by kernel_rfl)) rfl ⟨rfl, below_setRow HT.out.2.2 (by omega) _⟩
set_option maxRecDepth 100000 in
set_option maxHeartbeats 4000000 in
theorem ack_right4 (s t l q x y er sl rk ep : Int) (d : List UInt8) (a b : Int) (j : decide (t = -1) = false) (u : inB a 255 = true) (v : errB b = true) (h : Chk (fr 4 s t l q x y er sl rk ep d) 0) (w : World) :
    Calls Try.prog 19 #[.agg (fr 4 s t l q x y er sl rk ep d), .int .i64 a, .int .i64 b] w fun r w' => r = .returned (.tuple #[.agg (fr 2 t s a q 0 0 b 0 0 0 []), .int .i64 0]) ∧ Below w.heap.size w w' := by
  have i : (t == -1) = false := j
  go_enter Try.func19, Try.ntmps19
  go_wp2_with fail
  refine (h _).mono ?_
  rintro r w1 ⟨rfl, hb⟩
  have HT := Lib.hid (two _ _ _ hb)
  have c0 := cell_of_row w1 _ 0 _ _ _ (two _ _ _ hb).1
  have c1 := cell_of_row w1 _ 1 _ _ _ (two _ _ _ hb).1
  have c2 := cell_of_row w1 _ 2 _ _ _ (two _ _ _ hb).1
  have c4 := cell_of_row w1 _ 4 _ _ _ (two _ _ _ hb).1
  simp only [fr] at c0 c1 c2 c4
  clear hb h
  go_wp2_with fail
  refine (in_any a 255 _).mono ?_
  rintro r w' ⟨rfl, rfl⟩
  rw [u]
  go_wp2_with fail
  refine (isError_any b _).mono ?_
  rintro r w' ⟨rfl, rfl⟩
  rw [v]
  go_wp2_with (refine wpList_store_row rfl TF _ _ rfl (w.heap.size + 1) (fr 2 t s a q 0 0 b 0 0 0 []) rfl rfl TF zs HT.out.2.1 (by kernel_rfl) (fr_size ..) (fr_one ..) ?_)
  exact bodyPost_ret (v := .tuple #[.agg (fr 2 t s a q 0 0 b 0 0 0 []), .int .i64 0]) (results_cv (p := 6) (u := 7) rfl _ _ (w.heap.size + 1) TF (fr 2 t s a q 0 0 b 0 0 0 []) (0, 0) _ _ rfl rfl (setRow_heap _ _ _ _ _ _ HT.out.2.1) Try.underlying23 rfl (by kernel_rfl)) rfl ⟨rfl, below_setRow HT.out.2.2 (by omega) _⟩

/-- WHAT frame.Ack RETURNS: an acknowledgement is made, or the error 1 or 2. -/
def ackE (k s t l q x y er sl rk ep : Int) (d : List UInt8) (a b : Int) : Int :=
  if okF k s t l q x y er sl rk ep d = false ∨ (k ≠ 1 ∧ k ≠ 4) ∨ t = -1 then 1 else if inB a 255 = false ∨ errB b = false then 2 else 0
theorem ack_no (k s t l q x y er sl rk ep : Int) (d : List UInt8) (a b : Int) (c : Int) (hc : ackE k s t l q x y er sl rk ep d a b = c) (h0 : c ≠ 0) (w : World) :
    Calls Try.prog 19 #[.agg (fr k s t l q x y er sl rk ep d), .int .i64 a, .int .i64 b] w fun r w' => r = .returned (.tuple #[.agg zs, .int .i64 c]) ∧ Below w.heap.size w w' := by
  unfold ackE at hc
  by_cases h1 : okF k s t l q x y er sl rk ep d = false
  · rw [if_pos (.inl h1)] at hc; subst hc; exact ack_wrong _ _ _ _ _ _ _ _ _ _ _ _ _ _ (chk_no h1) w
  have ho : okF k s t l q x y er sl rk ep d = true := by simpa using h1
  by_cases hk1 : k = 1
  · subst hk1
    have ht := (ok_1 ho).1.1.1
    rw [if_neg (by simp [ho]; omega)] at hc
    by_cases hu : inB a 255 = false
    · rw [if_pos (.inl hu)] at hc; subst hc; exact ack_list1 _ _ _ _ _ _ _ _ _ _ _ _ _ (decide_eq_false (by omega)) hu (chk_ok ho) w
    · by_cases hv : errB b = false
      · rw [if_pos (.inr hv)] at hc; subst hc; exact ack_diff1 _ _ _ _ _ _ _ _ _ _ _ _ _ (decide_eq_false (by omega)) (by simpa using hu) hv (chk_ok ho) w
      · rw [if_neg (by simp [hu, hv])] at hc; exact absurd hc.symm h0
  by_cases hk4 : k = 4
  · subst hk4
    by_cases ht : t = -1
    · subst ht; rw [if_pos (.inr (.inr rfl))] at hc; subst hc; exact ack_toall _ _ _ _ _ _ _ _ _ _ _ _ (chk_ok ho) w
    · rw [if_neg (by simp [ho, ht])] at hc
      by_cases hu : inB a 255 = false
      · rw [if_pos (.inl hu)] at hc; subst hc; exact ack_list4 _ _ _ _ _ _ _ _ _ _ _ _ _ (decide_eq_false ht) hu (chk_ok ho) w
      · by_cases hv : errB b = false
        · rw [if_pos (.inr hv)] at hc; subst hc; exact ack_diff4 _ _ _ _ _ _ _ _ _ _ _ _ _ (decide_eq_false ht) (by simpa using hu) hv (chk_ok ho) w
        · rw [if_neg (by simp [hu, hv])] at hc; exact absurd hc.symm h0
  · rw [if_pos (.inr (.inl ⟨hk1, hk4⟩))] at hc; subst hc
    exact ack_kind _ _ _ _ _ _ _ _ _ _ _ _ _ _ (decide_eq_false hk1) (decide_eq_false hk4) (chk_ok ho) w
theorem ack_yes (k s t l q x y er sl rk ep : Int) (d : List UInt8) (a b : Int) (hc : ackE k s t l q x y er sl rk ep d a b = 0) (w : World) :
    Calls Try.prog 19 #[.agg (fr k s t l q x y er sl rk ep d), .int .i64 a, .int .i64 b] w fun r w' => r = .returned (.tuple #[.agg (fr 2 t s a q 0 0 b 0 0 0 []), .int .i64 0]) ∧ Below w.heap.size w w' := by
  unfold ackE at hc
  by_cases h1 : okF k s t l q x y er sl rk ep d = false ∨ (k ≠ 1 ∧ k ≠ 4) ∨ t = -1
  · rw [if_pos h1] at hc; cases hc
  rw [if_neg h1] at hc
  by_cases h2 : inB a 255 = false ∨ errB b = false
  · rw [if_pos h2] at hc; cases hc
  have ho : okF k s t l q x y er sl rk ep d = true := by
    cases g : okF k s t l q x y er sl rk ep d
    · exact absurd (.inl g) h1
    · rfl
  have hu : inB a 255 = true := by
    cases g : inB a 255
    · exact absurd (.inl g) h2
    · rfl
  have hv : errB b = true := by
    cases g : errB b
    · exact absurd (.inr g) h2
    · rfl
  have ht : ¬ t = -1 := fun e => h1 (.inr (.inr e))
  have hk : k = 1 ∨ k = 4 := by omega
  rcases hk with rfl | rfl
  · exact ack_right1 _ _ _ _ _ _ _ _ _ _ _ _ _ (decide_eq_false ht) hu hv (chk_ok ho) w
  · exact ack_right4 _ _ _ _ _ _ _ _ _ _ _ _ _ (decide_eq_false ht) hu hv (chk_ok ho) w
end Go.Proofs.Ytbgnkjaikbhdoaa.FrK
