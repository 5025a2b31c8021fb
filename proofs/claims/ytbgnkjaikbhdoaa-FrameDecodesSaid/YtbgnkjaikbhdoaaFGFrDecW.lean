/- The walk of FrameDecodes. (cut to what is reached: wip/tools/slimout2.py) -/
import Derived.Test.YtbgnkjaikbhdoaaFGFrAt
import Derived.Test.YtbgnkjaikbhdoaaFGRfDec
namespace Go.Proofs.Ytbgnkjaikbhdoaa.FrDecW
set_option linter.unusedSimpArgs false
set_option linter.unusedVariables false
open Go.RowKit Go.Proofs.Ytbgnkjaikbhdoaa.Pack Go.Proofs.Ytbgnkjaikbhdoaa.FrA Go.Proofs.Ytbgnkjaikbhdoaa.FrF Go.Proofs.Ytbgnkjaikbhdoaa.FrCrc Go.Proofs.Ytbgnkjaikbhdoaa.FrE Go.Proofs.Ytbgnkjaikbhdoaa.FrC Go.Proofs.Ytbgnkjaikbhdoaa.FrEn Go.Proofs.Ytbgnkjaikbhdoaa.FrT Go.Proofs.Ytbgnkjaikbhdoaa.FrAw Go.Proofs.Ytbgnkjaikbhdoaa.Alg Go.Proofs.Ytbgnkjaikbhdoaa.Dec Go.Proofs.Ytbgnkjaikbhdoaa.RfDec Go.Proofs.Ytbgnkjaikbhdoaa.FrAt
open Go.Proofs.Ytbgnkjaikbhdoaa.Bytes (Str)
set_option maxRecDepth 100000 in
set_option maxHeartbeats 8000000 in
theorem far (m : List UInt8) (hd : 300 < m.length) (w : World) :
    Calls Try.prog 5 #[.string (Str m)] w fun r w' => r = .returned (.bool true) ∧ Below w.heap.size w w' := by
  have es : (Str m).size = m.length := FrCrc.str_size m
  have e1 : decide ((300 : Int) < (m.length : Int)) = true := decide_eq_true (by omega)
  clear hd
  go_enter Try.func5, Try.ntmps5
  go_wp2_with fail
  ((with_reducible refine (awake_any _).mono ?_); rintro r w1 ⟨rfl, hb⟩)
  have A1 := Lib.hid hb
  clear hb
  go_wp2_with fail
  go_ret
  exact ⟨rfl, A1.out⟩
attribute [local go_sem high] eqFr
set_option maxRecDepth 100000 in
set_option maxHeartbeats 8000000 in
theorem near (m : List UInt8) (hd : m.length ≤ 300) (k s t l q x y er sl rk ep : Int) (d : List UInt8) (e : Int) (hD : decF m = (⟨k, s, t, l, q, x, y, er, sl, rk, ep, d⟩, e)) (w : World) :
    Calls Try.prog 5 #[.string (Str m)] w fun r w' => r = .returned (.bool true) ∧ Below w.heap.size w w' := by
  have es : (Str m).size = m.length := FrCrc.str_size m
  have e1 : decide ((300 : Int) < (m.length : Int)) = false := decide_eq_false (by omega)
  have HD : Hid (∀ w, Calls Try.prog 22 #[.string (Str m)] w fun r w' => r = .returned (.tuple #[.agg (fr k s t l q x y er sl rk ep d), .int .i64 e]) ∧ Below w.heap.size w w') := Lib.hid (fun w => decode_any m _ hD w)
  have HE : Hid (∀ w, Calls Try.prog 23 #[.string (Str m)] w fun r w' => r = .returned (.tuple #[.agg (fr k s t l q x y er sl rk ep d), .int .i64 e]) ∧ Below w.heap.size w w') := Lib.hid (fun w => rdecode_any m (by omega) _ hD w)
  have heq := eq_self k s t l q x y er sl rk ep (Str d)
  clear hD hd
  go_enter Try.func5, Try.ntmps5
  go_wp2_with fail
  ((with_reducible refine (awake_any _).mono ?_); rintro r w1 ⟨rfl, hb⟩)
  have A1 := Lib.hid hb
  clear hb
  go_wp2_with fail
  ((with_reducible refine (HD.out _).mono ?_); rintro r w2 ⟨rfl, hb⟩)
  have A2 := Lib.hid (A1.out.trans (hb.mono A1.out.size))
  clear hb A1 HD
  go_wp2_with fail
  ((with_reducible refine (HE.out _).mono ?_); rintro r w3 ⟨rfl, hb⟩)
  have A3 := Lib.hid ((A2.out.alloc A2.out.size (.cells (fr k s t l q x y er sl rk ep d) TF)).trans (hb.mono (by simp; have := A2.out.size; omega)))
  have hw3 : w3.heap[w2.heap.size]? = some (.cells (fr k s t l q x y er sl rk ep d) TF) := by rw [hb.block _ (by simp)]; exact heap_alloc_new _ _
  have G1 : Hid ((w3.alloc (.cells (fr k s t l q x y er sl rk ep d) TF)).heap[w2.heap.size]? = some (.cells (fr k s t l q x y er sl rk ep d) TF)) := Lib.hid (by rw [heap_alloc_old _ _ (Array.getElem?_eq_some_iff.1 hw3).1]; exact hw3)
  have G2 : Hid ((w3.alloc (.cells (fr k s t l q x y er sl rk ep d) TF)).heap[w3.heap.size]? = some (.cells (fr k s t l q x y er sl rk ep d) TF)) := Lib.hid (heap_alloc_new _ _)
  have A4 := Lib.hid (A3.out.alloc A3.out.size (.cells (fr k s t l q x y er sl rk ep d) TF))
  clear hb HE hw3 A3 A2
  go_wp2_with (first | (refine wpList_load_row rfl TF _ rfl w2.heap.size rfl TF (fr k s t l q x y er sl rk ep d) (0, 0) _ G1.out Try.underlying23 rfl (by kernel_rfl) ?_) | (refine wpList_load_row rfl TF _ rfl w3.heap.size rfl TF (fr k s t l q x y er sl rk ep d) (0, 0) _ G2.out Try.underlying23 rfl (by kernel_rfl) ?_))
  go_ret
  exact ⟨rfl, A4.out⟩
theorem walk (a : ByteArray) (w : World) (_ : a.size ≤ 140737488351232) :
    Calls Try.prog 5 #[.string a] w fun r w' => r = .returned (.bool true) ∧ Below w.heap.size w w' := by
  obtain ⟨m, rfl⟩ := str_of a
  by_cases hd : 300 < m.length
  · exact far m hd w
  · exact near m (by omega) _ _ _ _ _ _ _ _ _ _ _ _ _ rfl w
end Go.Proofs.Ytbgnkjaikbhdoaa.FrDecW
