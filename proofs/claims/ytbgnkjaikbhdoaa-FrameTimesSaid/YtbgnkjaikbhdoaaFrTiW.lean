/- The walk of FrameTimes. Printed by wip/frti.py. -/
import Derived.Test.YtbgnkjaikbhdoaaFrK
import Derived.Test.YtbgnkjaikbhdoaaFrL
import Derived.Test.YtbgnkjaikbhdoaaFrAw
namespace Go.Proofs.Ytbgnkjaikbhdoaa.FrTiW
open Go.RowKit Go.Proofs.Ytbgnkjaikbhdoaa.Pack Go.Proofs.Ytbgnkjaikbhdoaa.FrA Go.Proofs.Ytbgnkjaikbhdoaa.FrF Go.Proofs.Ytbgnkjaikbhdoaa.FrCrc Go.Proofs.Ytbgnkjaikbhdoaa.FrE Go.Proofs.Ytbgnkjaikbhdoaa.FrC Go.Proofs.Ytbgnkjaikbhdoaa.FrEn Go.Proofs.Ytbgnkjaikbhdoaa.FrT Go.Proofs.Ytbgnkjaikbhdoaa.FrK Go.Proofs.Ytbgnkjaikbhdoaa.FrL Go.Proofs.Ytbgnkjaikbhdoaa.FrAw Go.Proofs.Ytbgnkjaikbhdoaa.Alg
open Go.Proofs.Ytbgnkjaikbhdoaa.Bytes (Str)

/-- Block b holds the frame cs, and all below it is as it was. -/
abbrev At (w w1 : World) (b : Nat) (cs : Array Value) : Prop := w1.heap[b]? = some (.cells cs TF (0, 0)) ∧ Below w.heap.size w w1
theorem At.later {w w1 w2 : World} {b : Nat} {cs : Array Value} (h : At w w1 b cs) (hb : Below w1.heap.size w1 w2) : At w w2 b cs := by
  have hlt : b < w1.heap.size := (Array.getElem?_eq_some_iff.1 h.1).1
  exact ⟨by rw [hb.block _ hlt]; exact h.1, h.2.trans (hb.mono h.2.size)⟩
theorem At.laid {w w1 w2 : World} {b : Nat} {cs ds : Array Value} (h : At w w1 b cs) (hb : Below (w1.alloc (.cells ds TF)).heap.size (w1.alloc (.cells ds TF)) w2) : At w w2 b cs ∧ At w w2 w1.heap.size ds := by
  have hlt : b < w1.heap.size := (Array.getElem?_eq_some_iff.1 h.1).1
  have hl := (h.2.alloc h.2.size (.cells ds TF)).trans (hb.mono (by simp; have := h.2.size; omega))
  refine ⟨⟨?_, hl⟩, ?_, hl⟩
  · rw [hb.block _ (by simp; omega), heap_alloc_old _ _ hlt]; exact h.1
  · rw [hb.block _ (by simp)]; exact heap_alloc_new _ _
theorem At.lt {w w1 : World} {b : Nat} {cs : Array Value} (h : At w w1 b cs) : b < w1.heap.size := (Array.getElem?_eq_some_iff.1 h.1).1

set_option maxRecDepth 100000 in
set_option maxHeartbeats 8000000 in
theorem far (k s t l q x y er sl rk ep : Int) (d : List UInt8) (a b : Int) (hd : 300 < d.length) (w : World) :
    Calls Try.prog 4 #[.agg (fr k s t l q x y er sl rk ep d), .int .i64 a, .int .i64 b] w fun r w' => r = .returned (.bool true) ∧ Below w.heap.size w w' := by
  have es : (Str d).size = d.length := str_size d
  have e1 : decide ((300 : Int) < (d.length : Int)) = true := decide_eq_true (by omega)
  clear hd
  go_enter Try.func4, Try.ntmps4
  go_wp2_with fail
  refine (awake_any _).mono ?_
  rintro r w1 ⟨rfl, hb⟩
  have A1 : Hid (At w w1 w.heap.size (fr k s t l q x y er sl rk ep d)) := Lib.hid (boxed _ _ _ hb)
  clear hb
  have c0 := cell_of_row w1 _ 0 _ _ _ A1.out.1
  have c1 := cell_of_row w1 _ 1 _ _ _ A1.out.1
  have c2 := cell_of_row w1 _ 2 _ _ _ A1.out.1
  have c3 := cell_of_row w1 _ 3 _ _ _ A1.out.1
  have c4 := cell_of_row w1 _ 4 _ _ _ A1.out.1
  have c5 := cell_of_row w1 _ 5 _ _ _ A1.out.1
  have c6 := cell_of_row w1 _ 6 _ _ _ A1.out.1
  have c7 := cell_of_row w1 _ 7 _ _ _ A1.out.1
  have c8 := cell_of_row w1 _ 8 _ _ _ A1.out.1
  have c9 := cell_of_row w1 _ 9 _ _ _ A1.out.1
  have c10 := cell_of_row w1 _ 10 _ _ _ A1.out.1
  have c11 := cell_of_row w1 _ 11 _ _ _ A1.out.1
  try simp only [fr] at c0 c1 c2 c3 c4 c5 c6 c7 c8 c9 c10 c11
  go_wp2_with fail
  go_ret
  exact ⟨rfl, A1.out.2⟩
set_option maxRecDepth 100000 in
set_option maxHeartbeats 8000000 in
theorem bad (k s t l q x y er sl rk ep : Int) (d : List UInt8) (a b : Int) (hd : d.length ≤ 300) (e : Int) (ht : timeF k s t l q x y er sl rk ep d = (0, e)) (he : decide (e = 0) = false) (w : World) :
    Calls Try.prog 4 #[.agg (fr k s t l q x y er sl rk ep d), .int .i64 a, .int .i64 b] w fun r w' => r = .returned (.bool true) ∧ Below w.heap.size w w' := by
  have es : (Str d).size = d.length := str_size d
  have e1 : decide ((300 : Int) < (d.length : Int)) = false := decide_eq_false (by omega)
  clear hd
  have he2 : (e == 0) = false := he
  have HT := Lib.hid ht
  clear ht
  go_enter Try.func4, Try.ntmps4
  go_wp2_with fail
  refine (awake_any _).mono ?_
  rintro r w1 ⟨rfl, hb⟩
  have A1 : Hid (At w w1 w.heap.size (fr k s t l q x y er sl rk ep d)) := Lib.hid (boxed _ _ _ hb)
  clear hb
  have c0 := cell_of_row w1 _ 0 _ _ _ A1.out.1
  have c1 := cell_of_row w1 _ 1 _ _ _ A1.out.1
  have c2 := cell_of_row w1 _ 2 _ _ _ A1.out.1
  have c3 := cell_of_row w1 _ 3 _ _ _ A1.out.1
  have c4 := cell_of_row w1 _ 4 _ _ _ A1.out.1
  have c5 := cell_of_row w1 _ 5 _ _ _ A1.out.1
  have c6 := cell_of_row w1 _ 6 _ _ _ A1.out.1
  have c7 := cell_of_row w1 _ 7 _ _ _ A1.out.1
  have c8 := cell_of_row w1 _ 8 _ _ _ A1.out.1
  have c9 := cell_of_row w1 _ 9 _ _ _ A1.out.1
  have c10 := cell_of_row w1 _ 10 _ _ _ A1.out.1
  have c11 := cell_of_row w1 _ 11 _ _ _ A1.out.1
  try simp only [fr] at c0 c1 c2 c3 c4 c5 c6 c7 c8 c9 c10 c11
  go_wp2_with fail
  refine (time_any k s t l q x y er sl rk ep d _ HT.out _).mono ?_
  rintro r w2 ⟨rfl, hb⟩
  have A2 := Lib.hid (A1.out.later hb)
  clear hb A1 c0 c1 c2 c3 c4 c5 c6 c7 c8 c9 c10 c11
  go_wp2_with fail
  go_ret
  exact ⟨rfl, A2.out.2⟩
attribute [local go_sem high] eqFr
set_option maxRecDepth 100000 in
set_option maxHeartbeats 8000000 in
theorem noack (k s t l q x y er sl rk ep : Int) (d : List UInt8) (a b : Int) (hd : d.length ≤ 300) (n : Int) (ht : timeF k s t l q x y er sl rk ep d = (n, 0)) (hn : decide (n < 192) = false) (c : Int) (hc : ackE k s t l q x y er sl rk ep d a b = c) (h0 : decide (c = 0) = false) (w : World) :
    Calls Try.prog 4 #[.agg (fr k s t l q x y er sl rk ep d), .int .i64 a, .int .i64 b] w fun r w' => r = .returned (.bool true) ∧ Below w.heap.size w w' := by
  have es : (Str d).size = d.length := str_size d
  have e1 : decide ((300 : Int) < (d.length : Int)) = false := decide_eq_false (by omega)
  clear hd
  have HT := Lib.hid ht
  clear ht
  have h02 : (c == 0) = false := h0
  have HC := Lib.hid hc
  clear hc
  have heq := eqF_self 0 0 0 0 0 0 0 0 0 0 0 (⟨#[]⟩ : ByteArray)
  go_enter Try.func4, Try.ntmps4
  go_wp2_with fail
  refine (awake_any _).mono ?_
  rintro r w1 ⟨rfl, hb⟩
  have A1 : Hid (At w w1 w.heap.size (fr k s t l q x y er sl rk ep d)) := Lib.hid (boxed _ _ _ hb)
  clear hb
  have c0 := cell_of_row w1 _ 0 _ _ _ A1.out.1
  have c1 := cell_of_row w1 _ 1 _ _ _ A1.out.1
  have c2 := cell_of_row w1 _ 2 _ _ _ A1.out.1
  have c3 := cell_of_row w1 _ 3 _ _ _ A1.out.1
  have c4 := cell_of_row w1 _ 4 _ _ _ A1.out.1
  have c5 := cell_of_row w1 _ 5 _ _ _ A1.out.1
  have c6 := cell_of_row w1 _ 6 _ _ _ A1.out.1
  have c7 := cell_of_row w1 _ 7 _ _ _ A1.out.1
  have c8 := cell_of_row w1 _ 8 _ _ _ A1.out.1
  have c9 := cell_of_row w1 _ 9 _ _ _ A1.out.1
  have c10 := cell_of_row w1 _ 10 _ _ _ A1.out.1
  have c11 := cell_of_row w1 _ 11 _ _ _ A1.out.1
  try simp only [fr] at c0 c1 c2 c3 c4 c5 c6 c7 c8 c9 c10 c11
  go_wp2_with fail
  refine (time_any k s t l q x y er sl rk ep d _ HT.out _).mono ?_
  rintro r w2 ⟨rfl, hb⟩
  have A2 := Lib.hid (A1.out.later hb)
  clear hb A1 HT c0 c1 c2 c3 c4 c5 c6 c7 c8 c9 c10 c11
  have c0 := cell_of_row w2 _ 0 _ _ _ A2.out.1
  have c1 := cell_of_row w2 _ 1 _ _ _ A2.out.1
  have c2 := cell_of_row w2 _ 2 _ _ _ A2.out.1
  have c3 := cell_of_row w2 _ 3 _ _ _ A2.out.1
  have c4 := cell_of_row w2 _ 4 _ _ _ A2.out.1
  have c5 := cell_of_row w2 _ 5 _ _ _ A2.out.1
  have c6 := cell_of_row w2 _ 6 _ _ _ A2.out.1
  have c7 := cell_of_row w2 _ 7 _ _ _ A2.out.1
  have c8 := cell_of_row w2 _ 8 _ _ _ A2.out.1
  have c9 := cell_of_row w2 _ 9 _ _ _ A2.out.1
  have c10 := cell_of_row w2 _ 10 _ _ _ A2.out.1
  have c11 := cell_of_row w2 _ 11 _ _ _ A2.out.1
  try simp only [fr] at c0 c1 c2 c3 c4 c5 c6 c7 c8 c9 c10 c11
  go_wp2_with fail
  refine (ack_no k s t l q x y er sl rk ep d a b c HC.out (of_decide_eq_false h0) _).mono ?_
  rintro r w3 ⟨rfl, hb⟩
  have A3 := Lib.hid (A2.out.later hb)
  clear hb A2 HC c0 c1 c2 c3 c4 c5 c6 c7 c8 c9 c10 c11
  go_wp2_with fail
  go_ret
  exact ⟨rfl, A3.out.2.alloc A3.out.2.size _⟩
set_option maxRecDepth 100000 in
set_option maxHeartbeats 8000000 in
theorem acked (k s t l q x y er sl rk ep : Int) (d : List UInt8) (a b : Int) (hd : d.length ≤ 300) (n : Int) (ht : timeF k s t l q x y er sl rk ep d = (n, 0)) (hn : decide (n < 192) = false) (hc : ackE k s t l q x y er sl rk ep d a b = 0) (hu : timeF 2 t s a q 0 0 b 0 0 0 [] = (832, 0)) (ho : okF k s t l q x y er sl rk ep d = true) (hk : okF 2 t s a q 0 0 b 0 0 0 [] = true) (hs : inB s 31 = true) (hT : inB t 31 = true) (n1 n2 n3 : Int) (m1 : IntKind.i64.wrap (3220 + n) = n1) (m2 : IntKind.i64.wrap (n1 + 1000) = n2) (m3 : IntKind.i64.wrap (n2 + 832) = n3) (m4 : decide (n3 < 10000) = true) (w : World) :
    Calls Try.prog 4 #[.agg (fr k s t l q x y er sl rk ep d), .int .i64 a, .int .i64 b] w fun r w' => r = .returned (.bool true) ∧ Below w.heap.size w w' := by
  have es : (Str d).size = d.length := str_size d
  have e1 : decide ((300 : Int) < (d.length : Int)) = false := decide_eq_false (by omega)
  clear hd
  have HT := Lib.hid ht
  clear ht
  have HC := Lib.hid hc
  have HU := Lib.hid hu
  have HO := Lib.hid ho
  have HK := Lib.hid hk
  have HS := Lib.hid hs
  have HTT := Lib.hid hT
  clear hc hu ho hk hs hT
  go_enter Try.func4, Try.ntmps4
  go_wp2_with fail
  refine (awake_any _).mono ?_
  rintro r w1 ⟨rfl, hb⟩
  have A1 : Hid (At w w1 w.heap.size (fr k s t l q x y er sl rk ep d)) := Lib.hid (boxed _ _ _ hb)
  clear hb
  have c0 := cell_of_row w1 _ 0 _ _ _ A1.out.1
  have c1 := cell_of_row w1 _ 1 _ _ _ A1.out.1
  have c2 := cell_of_row w1 _ 2 _ _ _ A1.out.1
  have c3 := cell_of_row w1 _ 3 _ _ _ A1.out.1
  have c4 := cell_of_row w1 _ 4 _ _ _ A1.out.1
  have c5 := cell_of_row w1 _ 5 _ _ _ A1.out.1
  have c6 := cell_of_row w1 _ 6 _ _ _ A1.out.1
  have c7 := cell_of_row w1 _ 7 _ _ _ A1.out.1
  have c8 := cell_of_row w1 _ 8 _ _ _ A1.out.1
  have c9 := cell_of_row w1 _ 9 _ _ _ A1.out.1
  have c10 := cell_of_row w1 _ 10 _ _ _ A1.out.1
  have c11 := cell_of_row w1 _ 11 _ _ _ A1.out.1
  try simp only [fr] at c0 c1 c2 c3 c4 c5 c6 c7 c8 c9 c10 c11
  go_wp2_with fail
  refine (time_any k s t l q x y er sl rk ep d _ HT.out _).mono ?_
  rintro r w2 ⟨rfl, hb⟩
  have A2 := Lib.hid (A1.out.later hb)
  clear hb A1 HT c0 c1 c2 c3 c4 c5 c6 c7 c8 c9 c10 c11
  have c0 := cell_of_row w2 _ 0 _ _ _ A2.out.1
  have c1 := cell_of_row w2 _ 1 _ _ _ A2.out.1
  have c2 := cell_of_row w2 _ 2 _ _ _ A2.out.1
  have c3 := cell_of_row w2 _ 3 _ _ _ A2.out.1
  have c4 := cell_of_row w2 _ 4 _ _ _ A2.out.1
  have c5 := cell_of_row w2 _ 5 _ _ _ A2.out.1
  have c6 := cell_of_row w2 _ 6 _ _ _ A2.out.1
  have c7 := cell_of_row w2 _ 7 _ _ _ A2.out.1
  have c8 := cell_of_row w2 _ 8 _ _ _ A2.out.1
  have c9 := cell_of_row w2 _ 9 _ _ _ A2.out.1
  have c10 := cell_of_row w2 _ 10 _ _ _ A2.out.1
  have c11 := cell_of_row w2 _ 11 _ _ _ A2.out.1
  try simp only [fr] at c0 c1 c2 c3 c4 c5 c6 c7 c8 c9 c10 c11
  go_wp2_with fail
  refine (ack_yes k s t l q x y er sl rk ep d a b HC.out _).mono ?_
  rintro r w3 ⟨rfl, hb⟩
  have A3 := Lib.hid (A2.out.later hb)
  clear hb A2 c0 c1 c2 c3 c4 c5 c6 c7 c8 c9 c10 c11
  go_wp2_with fail
  refine (time_any 2 t s a q 0 0 b 0 0 0 [] _ HU.out _).mono ?_
  rintro r w4 ⟨rfl, hb⟩
  have A4 := Lib.hid (A3.out.laid hb)
  clear hb HU
  have c0 := cell_of_row w4 _ 0 _ _ _ A4.out.1.1
  have c1 := cell_of_row w4 _ 1 _ _ _ A4.out.1.1
  have c2 := cell_of_row w4 _ 2 _ _ _ A4.out.1.1
  have c3 := cell_of_row w4 _ 3 _ _ _ A4.out.1.1
  have c4 := cell_of_row w4 _ 4 _ _ _ A4.out.1.1
  have c5 := cell_of_row w4 _ 5 _ _ _ A4.out.1.1
  have c6 := cell_of_row w4 _ 6 _ _ _ A4.out.1.1
  have c7 := cell_of_row w4 _ 7 _ _ _ A4.out.1.1
  have c8 := cell_of_row w4 _ 8 _ _ _ A4.out.1.1
  have c9 := cell_of_row w4 _ 9 _ _ _ A4.out.1.1
  have c10 := cell_of_row w4 _ 10 _ _ _ A4.out.1.1
  have c11 := cell_of_row w4 _ 11 _ _ _ A4.out.1.1
  try simp only [fr] at c0 c1 c2 c3 c4 c5 c6 c7 c8 c9 c10 c11
  have b0 := cell_of_row w4 _ 0 _ _ _ A4.out.2.1
  have b1 := cell_of_row w4 _ 1 _ _ _ A4.out.2.1
  have b2 := cell_of_row w4 _ 2 _ _ _ A4.out.2.1
  have b3 := cell_of_row w4 _ 3 _ _ _ A4.out.2.1
  have b4 := cell_of_row w4 _ 4 _ _ _ A4.out.2.1
  have b5 := cell_of_row w4 _ 5 _ _ _ A4.out.2.1
  have b6 := cell_of_row w4 _ 6 _ _ _ A4.out.2.1
  have b7 := cell_of_row w4 _ 7 _ _ _ A4.out.2.1
  have b8 := cell_of_row w4 _ 8 _ _ _ A4.out.2.1
  have b9 := cell_of_row w4 _ 9 _ _ _ A4.out.2.1
  have b10 := cell_of_row w4 _ 10 _ _ _ A4.out.2.1
  have b11 := cell_of_row w4 _ 11 _ _ _ A4.out.2.1
  try simp only [fr] at b0 b1 b2 b3 b4 b5 b6 b7 b8 b9 b10 b11
  go_wp2_with fail
  refine (answers_yes (fr k s t l q x y er sl rk ep d) 2 t s a q 0 0 b 0 0 0 [] ⟨_, _, _, _, _, _, _, _, _, _, _, _, rfl⟩ (fun w => ack_yes k s t l q x y er sl rk ep d a b HC.out w) (chk_ok HK.out) _).mono ?_
  rintro r w5 ⟨rfl, hb⟩
  have A5 := Lib.hid (And.intro (A4.out.1.later hb) (A4.out.2.later hb))
  clear hb A4 HC c0 c1 c2 c3 c4 c5 c6 c7 c8 c9 c10 c11 b0 b1 b2 b3 b4 b5 b6 b7 b8 b9 b10 b11
  have c0 := cell_of_row w5 _ 0 _ _ _ A5.out.1.1
  have c1 := cell_of_row w5 _ 1 _ _ _ A5.out.1.1
  have c2 := cell_of_row w5 _ 2 _ _ _ A5.out.1.1
  have c3 := cell_of_row w5 _ 3 _ _ _ A5.out.1.1
  have c4 := cell_of_row w5 _ 4 _ _ _ A5.out.1.1
  have c5 := cell_of_row w5 _ 5 _ _ _ A5.out.1.1
  have c6 := cell_of_row w5 _ 6 _ _ _ A5.out.1.1
  have c7 := cell_of_row w5 _ 7 _ _ _ A5.out.1.1
  have c8 := cell_of_row w5 _ 8 _ _ _ A5.out.1.1
  have c9 := cell_of_row w5 _ 9 _ _ _ A5.out.1.1
  have c10 := cell_of_row w5 _ 10 _ _ _ A5.out.1.1
  have c11 := cell_of_row w5 _ 11 _ _ _ A5.out.1.1
  try simp only [fr] at c0 c1 c2 c3 c4 c5 c6 c7 c8 c9 c10 c11
  have b0 := cell_of_row w5 _ 0 _ _ _ A5.out.2.1
  have b1 := cell_of_row w5 _ 1 _ _ _ A5.out.2.1
  have b2 := cell_of_row w5 _ 2 _ _ _ A5.out.2.1
  have b3 := cell_of_row w5 _ 3 _ _ _ A5.out.2.1
  have b4 := cell_of_row w5 _ 4 _ _ _ A5.out.2.1
  have b5 := cell_of_row w5 _ 5 _ _ _ A5.out.2.1
  have b6 := cell_of_row w5 _ 6 _ _ _ A5.out.2.1
  have b7 := cell_of_row w5 _ 7 _ _ _ A5.out.2.1
  have b8 := cell_of_row w5 _ 8 _ _ _ A5.out.2.1
  have b9 := cell_of_row w5 _ 9 _ _ _ A5.out.2.1
  have b10 := cell_of_row w5 _ 10 _ _ _ A5.out.2.1
  have b11 := cell_of_row w5 _ 11 _ _ _ A5.out.2.1
  try simp only [fr] at b0 b1 b2 b3 b4 b5 b6 b7 b8 b9 b10 b11
  go_wp2_with fail
  refine (for_to 2 t s a q 0 0 b 0 0 0 [] (chk_ok HK.out) HS.out _).mono ?_
  rintro r w6 ⟨rfl, hb⟩
  have A6 := Lib.hid (And.intro (A5.out.1.later hb) (A5.out.2.later hb))
  clear hb A5 HK c0 c1 c2 c3 c4 c5 c6 c7 c8 c9 c10 c11 b0 b1 b2 b3 b4 b5 b6 b7 b8 b9 b10 b11
  have c0 := cell_of_row w6 _ 0 _ _ _ A6.out.1.1
  have c1 := cell_of_row w6 _ 1 _ _ _ A6.out.1.1
  have c2 := cell_of_row w6 _ 2 _ _ _ A6.out.1.1
  have c3 := cell_of_row w6 _ 3 _ _ _ A6.out.1.1
  have c4 := cell_of_row w6 _ 4 _ _ _ A6.out.1.1
  have c5 := cell_of_row w6 _ 5 _ _ _ A6.out.1.1
  have c6 := cell_of_row w6 _ 6 _ _ _ A6.out.1.1
  have c7 := cell_of_row w6 _ 7 _ _ _ A6.out.1.1
  have c8 := cell_of_row w6 _ 8 _ _ _ A6.out.1.1
  have c9 := cell_of_row w6 _ 9 _ _ _ A6.out.1.1
  have c10 := cell_of_row w6 _ 10 _ _ _ A6.out.1.1
  have c11 := cell_of_row w6 _ 11 _ _ _ A6.out.1.1
  try simp only [fr] at c0 c1 c2 c3 c4 c5 c6 c7 c8 c9 c10 c11
  have b0 := cell_of_row w6 _ 0 _ _ _ A6.out.2.1
  have b1 := cell_of_row w6 _ 1 _ _ _ A6.out.2.1
  have b2 := cell_of_row w6 _ 2 _ _ _ A6.out.2.1
  have b3 := cell_of_row w6 _ 3 _ _ _ A6.out.2.1
  have b4 := cell_of_row w6 _ 4 _ _ _ A6.out.2.1
  have b5 := cell_of_row w6 _ 5 _ _ _ A6.out.2.1
  have b6 := cell_of_row w6 _ 6 _ _ _ A6.out.2.1
  have b7 := cell_of_row w6 _ 7 _ _ _ A6.out.2.1
  have b8 := cell_of_row w6 _ 8 _ _ _ A6.out.2.1
  have b9 := cell_of_row w6 _ 9 _ _ _ A6.out.2.1
  have b10 := cell_of_row w6 _ 10 _ _ _ A6.out.2.1
  have b11 := cell_of_row w6 _ 11 _ _ _ A6.out.2.1
  try simp only [fr] at b0 b1 b2 b3 b4 b5 b6 b7 b8 b9 b10 b11
  go_wp2_with fail
  refine (for_to k s t l q x y er sl rk ep d (chk_ok HO.out) HTT.out _).mono ?_
  rintro r w7 ⟨rfl, hb⟩
  have A7 := Lib.hid (A6.out.1.later hb)
  clear hb A6 HO HS HTT A3 c0 c1 c2 c3 c4 c5 c6 c7 c8 c9 c10 c11 b0 b1 b2 b3 b4 b5 b6 b7 b8 b9 b10 b11
  go_wp2_with fail
  go_ret
  exact ⟨rfl, A7.out.2⟩

theorem time_two (k s t l q x y er sl rk ep : Int) (d : List UInt8) : (∃ e, timeF k s t l q x y er sl rk ep d = (0, e) ∧ e ≠ 0) ∨ (okF k s t l q x y er sl rk ep d = true ∧ ∃ n, timeF k s t l q x y er sl rk ep d = (n, 0) ∧ 192 ≤ n ∧ n ≤ 4256) := by
  have hl := enc_len k s t l q x y er sl rk ep d
  unfold timeF
  by_cases h : (encF k s t l q x y er sl rk ep d).2 = 0
  · right
    refine ⟨?_, ?_⟩
    · cases g : okF k s t l q x y er sl rk ep d
      · rw [encF, if_pos g] at h; cases h
      · rfl
    · rw [if_pos h]; exact ⟨_, rfl, by split <;> omega, by split <;> omega⟩
  · left; rw [if_neg h]; exact ⟨_, rfl, h⟩
theorem ack_facts {k s t l q x y er sl rk ep : Int} {d : List UInt8} {a b : Int} (ho : okF k s t l q x y er sl rk ep d = true) (hc : ackE k s t l q x y er sl rk ep d a b = 0) :
    okF 2 t s a q 0 0 b 0 0 0 [] = true ∧ inB s 31 = true ∧ inB t 31 = true ∧ timeF 2 t s a q 0 0 b 0 0 0 [] = (832, 0) := by
  unfold ackE at hc
  by_cases h1 : okF k s t l q x y er sl rk ep d = false ∨ (k ≠ 1 ∧ k ≠ 4) ∨ t = -1
  · rw [if_pos h1] at hc; cases hc
  rw [if_neg h1] at hc
  by_cases h2 : inB a 255 = false ∨ errB b = false
  · rw [if_pos h2] at hc; cases hc
  have hu : inB a 255 = true := by
    cases g : inB a 255
    · exact absurd (.inl g) h2
    · rfl
  have hv : errB b = true := by
    cases g : errB b
    · exact absurd (.inr g) h2
    · rfl
  have ht : ¬ t = -1 := fun e => h1 (.inr (.inr e))
  have hk : k = 1 ∨ k = 4 := by omega
  have hall : (0 ≤ t ∧ t ≤ 31) ∧ t ≠ s ∧ (0 ≤ s ∧ s ≤ 31) ∧ (0 ≤ q ∧ q ≤ 255) := by
    rcases hk with rfl | rfl
    · have := ok_1 ho; omega
    · have := ok_4 ho; omega
  have hs : inB s 31 = true := (inB_iff _ _).2 hall.2.2.1
  have hT : inB t 31 = true := (inB_iff _ _).2 hall.1
  have hok : okF 2 t s a q 0 0 b 0 0 0 [] = true := by
    have g : tgB t s = true := (tgB_iff _ _).2 ⟨hall.2.2.1, fun e => hall.2.1 e.symm⟩
    have hq : inB q 255 = true := (inB_iff _ _).2 hall.2.2.2
    simp [okF, g, hv, hu, hT, hq, zeroB]
  refine ⟨hok, hs, hT, ?_⟩
  have hlen : (pack (frBits 2 t s a q 0 0 b 0 0 0 [])).length ≤ 125 := by
    have := frBits_length 2 t s a q 0 0 b 0 0 0 []
    rw [pack_length]; simp at this ⊢; omega
  have e : (encF 2 t s a q 0 0 b 0 0 0 []).2 = 0 := by
    unfold encF; rw [if_neg (by rw [hok]; decide), if_neg (by decide), if_neg (by omega)]
  unfold timeF; rw [if_pos e]; rfl

theorem walk (k s t l q x y er sl rk ep : Int) (dd : ByteArray) (a b : Int) (w : World) (_ : (Lit.int .i64 k).wf = true) (_ : (Lit.int .i64 s).wf = true) (_ : (Lit.int .i64 t).wf = true) (_ : (Lit.int .i64 l).wf = true) (_ : (Lit.int .i64 q).wf = true) (_ : (Lit.int .i64 x).wf = true) (_ : (Lit.int .i64 y).wf = true) (_ : (Lit.int .i64 er).wf = true) (_ : (Lit.int .i64 sl).wf = true) (_ : (Lit.int .i64 rk).wf = true) (_ : (Lit.int .i64 ep).wf = true) (_ : dd.size ≤ maxLen) (_ : (Lit.int .i64 a).wf = true) (_ : (Lit.int .i64 b).wf = true) :
    Calls Try.prog 4 #[.agg #[.int .i64 k, .int .i64 s, .int .i64 t, .int .i64 l, .int .i64 q, .int .i64 x, .int .i64 y, .int .i64 er, .int .i64 sl, .int .i64 rk, .int .i64 ep, .string dd], .int .i64 a, .int .i64 b] w fun r w' => r = .returned (.bool true) ∧ Below w.heap.size w w' := by
  obtain ⟨d, rfl⟩ := str_of dd
  by_cases hd : 300 < d.length
  · exact far k s t l q x y er sl rk ep d a b hd w
  · have hd : d.length ≤ 300 := by omega
    rcases time_two k s t l q x y er sl rk ep d with ⟨e, he, h0⟩ | ⟨ho, n, hn, n1, n2⟩
    · exact bad k s t l q x y er sl rk ep d a b hd e he (decide_eq_false h0) w
    · by_cases hc : ackE k s t l q x y er sl rk ep d a b = 0
      · obtain ⟨h1, h2, h3, h4⟩ := ack_facts ho hc
        exact acked k s t l q x y er sl rk ep d a b hd n hn (decide_eq_false (by omega)) hc h4 ho h1 h2 h3 (3220 + n) (3220 + n + 1000) (3220 + n + 1000 + 832) (by rw [IntKind.wrap_i64]; omega) (by rw [IntKind.wrap_i64]; omega) (by rw [IntKind.wrap_i64]; omega) (decide_eq_true (by omega)) w
      · exact noack k s t l q x y er sl rk ep d a b hd n hn (decide_eq_false (by omega)) _ rfl (decide_eq_false hc) w
end Go.Proofs.Ytbgnkjaikbhdoaa.FrTiW
