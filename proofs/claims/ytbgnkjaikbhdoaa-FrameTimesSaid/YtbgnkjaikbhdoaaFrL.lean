/- frame.Answers and frame.For, where they are true. -/
import Derived.Test.YtbgnkjaikbhdoaaFrT
namespace Go.Proofs.Ytbgnkjaikbhdoaa.FrL
open Go.RowKit Go.Proofs.Ytbgnkjaikbhdoaa.Pack Go.Proofs.Ytbgnkjaikbhdoaa.FrA Go.Proofs.Ytbgnkjaikbhdoaa.FrF Go.Proofs.Ytbgnkjaikbhdoaa.FrCrc Go.Proofs.Ytbgnkjaikbhdoaa.FrE Go.Proofs.Ytbgnkjaikbhdoaa.FrC Go.Proofs.Ytbgnkjaikbhdoaa.FrEn Go.Proofs.Ytbgnkjaikbhdoaa.FrT Go.Proofs.Ytbgnkjaikbhdoaa.Alg
open Go.Proofs.Ytbgnkjaikbhdoaa.Bytes (Str)

set_option maxRecDepth 100000 in
set_option maxHeartbeats 4000000 in
/-- A frame that is sent to the node n. -/
theorem for_to (k s n l q x y er sl rk ep : Int) (d : List UInt8) (h : Chk (fr k s n l q x y er sl rk ep d) 0) (hn : inB n 31 = true) (w : World) :
    Calls Try.prog 21 #[.agg (fr k s n l q x y er sl rk ep d), .int .i64 n] w fun r w' => r = .returned (.bool true) ∧ Below w.heap.size w w' := by
  go_enter Try.func21, Try.ntmps21
  go_wp2_with fail
  refine (h _).mono ?_
  rintro r w1 ⟨rfl, hb⟩
  have HT := Lib.hid (boxed _ _ _ hb).2
  have c2 := cell_of_row w1 _ 2 _ _ _ (boxed _ _ _ hb).1
  simp only [fr] at c2
  clear hb h
  go_wp2_with fail
  refine (in_any n 31 _).mono ?_
  rintro r w' ⟨rfl, rfl⟩
  rw [hn]
  go_wp2_with fail
  go_ret
  exact ⟨rfl, HT.out⟩

/-- frame.Ack returns the frame cs. -/
abbrev Acks (cs : Array Value) (a b : Int) (ds : Array Value) : Prop := ∀ w : World, Calls Try.prog 19 #[.agg cs, .int .i64 a, .int .i64 b] w fun r w' => r = .returned (.tuple #[.agg ds, .int .i64 0]) ∧ Below w.heap.size w w'
theorem eqF_self (k s t l q x y er sl rk ep : Int) (d : ByteArray) : eqF k k s s t t l l q q x x y y er er sl sl rk rk ep ep d d = true := by
  unfold eqF; simp
theorem pair (cs ds : Array Value) (w w1 : World) (hb : Below ((w.alloc (.cells cs TF)).alloc (.cells ds TF)).heap.size ((w.alloc (.cells cs TF)).alloc (.cells ds TF)) w1) :
    w1.heap[w.heap.size + 1]? = some (.cells ds TF (0, 0)) ∧ Below w.heap.size w w1 := by
  refine ⟨?_, ?_⟩
  · rw [hb.block _ (by simp)]; exact heap_alloc2_new _ _ _
  · exact (((Below.refl _ _).alloc (Nat.le_refl _) _).alloc (by simp) _).trans (hb.mono (by simp; omega))
theorem pair2 (ds es : Array Value) (w w1 w2 : World) (b : Nat) (hlt : b < w1.heap.size) (h : w1.heap[b]? = some (.cells ds TF (0, 0))) (hw : Below w.heap.size w w1)
    (hb : Below (w1.alloc (.cells es TF)).heap.size (w1.alloc (.cells es TF)) w2) : w2.heap[b]? = some (.cells ds TF (0, 0)) ∧ w2.heap[w1.heap.size]? = some (.cells es TF (0, 0)) ∧ Below w.heap.size w w2 := by
  have hs := hw.size
  refine ⟨?_, ?_, ?_⟩
  · rw [hb.block _ (by simp; omega), heap_alloc_old _ _ hlt]; exact h
  · rw [hb.block _ (by simp)]; exact heap_alloc_new _ _
  · exact (hw.alloc hs _).trans (hb.mono (by simp; omega))
attribute [local go_sem high] eqFr
set_option maxRecDepth 100000 in
set_option maxHeartbeats 4000000 in
theorem answers_yes (cs : Array Value) (k s t l q x y er sl rk ep : Int) (d : List UInt8) (hcs : ∃ k s t l q x y er sl rk ep d, cs = fr k s t l q x y er sl rk ep d) (ha : Acks cs l er (fr k s t l q x y er sl rk ep d)) (h : Chk (fr k s t l q x y er sl rk ep d) 0) (w : World) :
    Calls Try.prog 20 #[.agg cs, .agg (fr k s t l q x y er sl rk ep d)] w fun r w' => r = .returned (.bool true) ∧ Below w.heap.size w w' := by
  obtain ⟨k', s', t', l', q', x', y', er', sl', rk', ep', d', rfl⟩ := hcs
  have heq := eqF_self k s t l q x y er sl rk ep (Str d)
  go_enter Try.func20, Try.ntmps20
  go_wp2_with fail
  refine (ha _).mono ?_
  rintro r w1 ⟨rfl, hb⟩
  have HP := Lib.hid (pair _ _ _ _ hb)
  clear hb ha
  have hlt : w.heap.size + 1 < w1.heap.size := (Array.getElem?_eq_some_iff.1 HP.out.1).1
  have c0 := cell_of_row w1 _ 0 _ _ _ HP.out.1
  have c1 := cell_of_row w1 _ 1 _ _ _ HP.out.1
  have c2 := cell_of_row w1 _ 2 _ _ _ HP.out.1
  have c3 := cell_of_row w1 _ 3 _ _ _ HP.out.1
  have c4 := cell_of_row w1 _ 4 _ _ _ HP.out.1
  have c5 := cell_of_row w1 _ 5 _ _ _ HP.out.1
  have c6 := cell_of_row w1 _ 6 _ _ _ HP.out.1
  have c7 := cell_of_row w1 _ 7 _ _ _ HP.out.1
  have c8 := cell_of_row w1 _ 8 _ _ _ HP.out.1
  have c9 := cell_of_row w1 _ 9 _ _ _ HP.out.1
  have c10 := cell_of_row w1 _ 10 _ _ _ HP.out.1
  have c11 := cell_of_row w1 _ 11 _ _ _ HP.out.1
  simp only [fr] at c0 c1 c2 c3 c4 c5 c6 c7 c8 c9 c10 c11
  go_wp2_with fail
  refine (h _).mono ?_
  rintro r w2 ⟨rfl, hb⟩
  have H2 := Lib.hid (pair2 _ _ _ _ _ _ hlt HP.out.1 HP.out.2 hb)
  clear hb h HP c0 c1 c2 c3 c4 c5 c6 c7 c8 c9 c10 c11
  have a0 := cell_of_row w2 _ 0 _ _ _ H2.out.1
  have b0 := cell_of_row w2 _ 0 _ _ _ H2.out.2.1
  have a1 := cell_of_row w2 _ 1 _ _ _ H2.out.1
  have b1 := cell_of_row w2 _ 1 _ _ _ H2.out.2.1
  have a2 := cell_of_row w2 _ 2 _ _ _ H2.out.1
  have b2 := cell_of_row w2 _ 2 _ _ _ H2.out.2.1
  have a3 := cell_of_row w2 _ 3 _ _ _ H2.out.1
  have b3 := cell_of_row w2 _ 3 _ _ _ H2.out.2.1
  have a4 := cell_of_row w2 _ 4 _ _ _ H2.out.1
  have b4 := cell_of_row w2 _ 4 _ _ _ H2.out.2.1
  have a5 := cell_of_row w2 _ 5 _ _ _ H2.out.1
  have b5 := cell_of_row w2 _ 5 _ _ _ H2.out.2.1
  have a6 := cell_of_row w2 _ 6 _ _ _ H2.out.1
  have b6 := cell_of_row w2 _ 6 _ _ _ H2.out.2.1
  have a7 := cell_of_row w2 _ 7 _ _ _ H2.out.1
  have b7 := cell_of_row w2 _ 7 _ _ _ H2.out.2.1
  have a8 := cell_of_row w2 _ 8 _ _ _ H2.out.1
  have b8 := cell_of_row w2 _ 8 _ _ _ H2.out.2.1
  have a9 := cell_of_row w2 _ 9 _ _ _ H2.out.1
  have b9 := cell_of_row w2 _ 9 _ _ _ H2.out.2.1
  have a10 := cell_of_row w2 _ 10 _ _ _ H2.out.1
  have b10 := cell_of_row w2 _ 10 _ _ _ H2.out.2.1
  have a11 := cell_of_row w2 _ 11 _ _ _ H2.out.1
  have b11 := cell_of_row w2 _ 11 _ _ _ H2.out.2.1
  simp only [fr] at a0 b0 a1 b1 a2 b2 a3 b3 a4 b4 a5 b5 a6 b6 a7 b7 a8 b8 a9 b9 a10 b10 a11 b11
  clear hlt
  go_wp2_with fail
  go_ret
  exact ⟨rfl, H2.out.2.2⟩
end Go.Proofs.Ytbgnkjaikbhdoaa.FrL
