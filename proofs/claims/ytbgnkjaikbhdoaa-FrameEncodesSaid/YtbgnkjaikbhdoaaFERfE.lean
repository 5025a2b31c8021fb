/- hopmeshref13.Encode: right frames. (cut to what is reached: wip/tools/slimout.py) -/
import Derived.Test.YtbgnkjaikbhdoaaFERfU
namespace Go.Proofs.Ytbgnkjaikbhdoaa.RfE
set_option linter.unusedSimpArgs false
set_option linter.unusedVariables false
open Go.RowKit Go.Proofs.Ytbgnkjaikbhdoaa.Pack Go.Proofs.Ytbgnkjaikbhdoaa.Wf Go.Proofs.Ytbgnkjaikbhdoaa.WfAll Go.Proofs.Ytbgnkjaikbhdoaa.WfText Go.Proofs.Ytbgnkjaikbhdoaa.WfBytes Go.Proofs.Ytbgnkjaikbhdoaa.FrA Go.Proofs.Ytbgnkjaikbhdoaa.FrC Go.Proofs.Ytbgnkjaikbhdoaa.FrCrc Go.Proofs.Ytbgnkjaikbhdoaa.RfU Go.Proofs.Ytbgnkjaikbhdoaa.RfC Go.Proofs.YtbgnkjaikbhdoaaW.PrintWords
open Go.Proofs.Ytbgnkjaikbhdoaa.WrText (textBits byteBits byteBits_length)
open Go.Proofs.Ytbgnkjaikbhdoaa.Alg (protect)
open Go.Proofs.Ytbgnkjaikbhdoaa.Wr (T8)
open Go.Proofs.Ytbgnkjaikbhdoaa.Bytes (Str)
theorem fr_not8 (cs : Array Value) : ¬ T8 (.cells cs TF) := by rintro ⟨cur, e⟩; injection e with _ e; exact absurd e (by decide)
theorem textBits_len (d : List UInt8) : (textBits d).length = 7 + 8 * d.length := by unfold textBits; rw [List.length_append, bitsN_length, byteBits_length]
set_option maxRecDepth 100000 in
set_option maxHeartbeats 4000000 in
theorem enc_data (s t l q x y er sl rk ep : Int) (d : List UInt8) (hok : ckF 1 s t l q x y er sl rk ep d = 0) (hs0 : 0 ≤ s) (hs1 : s ≤ 31) (ht0 : 0 ≤ t) (ht1 : t ≤ 31) (hl0 : 0 ≤ l) (hl1 : l ≤ 255) (hq0 : 0 ≤ q) (hq1 : q ≤ 255) (hx0 : 0 ≤ x) (hx1 : x ≤ 255) (hy0 : 0 ≤ y) (hy1 : y ≤ 65535) (hd : d.length ≤ 127) (p : List UInt8) (hp : pack (((((((((([] : List Bool) ++ bitsN 3 (1 : Int).toNat) ++ bitsN 5 (s : Int).toNat) ++ [true]) ++ bitsN 5 (t : Int).toNat) ++ bitsN 8 (l : Int).toNat) ++ bitsN 8 (q : Int).toNat) ++ bitsN 8 (x : Int).toNat) ++ bitsN 16 (y : Int).toNat) ++ textBits d) = p) (r : List UInt8 × Int) (hr : (if 125 < p.length then ([], 8) else (protect p, 0)) = r) (w : World) :
    Calls Try.prog 12 #[.agg (fr 1 s t l q x y er sl rk ep d)] w fun e w' => e = .returned (.tuple #[.string (Str r.1), .int .i64 r.2]) ∧ Below w.heap.size w w' := by
  have HW0 : Hid ((w.alloc (.cells (fr 1 s t l q x y er sl rk ep d) TF)).heap[w.heap.size]? = some (.cells (fr 1 s t l q x y er sl rk ep d) TF (0, 0))) := Lib.hid (heap_alloc_new _ _)
  have HB0 : Hid (Below w.heap.size w (w.alloc (.cells (fr 1 s t l q x y er sl rk ep d) TF))) := Lib.hid ((Below.refl _ _).alloc (Nat.le_refl _) _)
  have HOK := Lib.hid hok
  have HR := Lib.hid hr
  have HP := Lib.hid hp
  clear hok hr hp
  go_enter Try.func12, Try.ntmps12
  go_wp2_with ((refine wpList_load_row rfl TF _ rfl w.heap.size rfl TF (fr 1 s t l q x y er sl rk ep d) (0, 0) _ HW0.out Try.underlying23 rfl (by kernel_rfl) ?_))
  refine (rcheck_any 1 s t l q x y er sl rk ep d _).mono ?_
  rintro e w1 ⟨rfl, hb1⟩
  rw [HOK.out]
  have hw1 : w1.heap[w.heap.size]? = some (.cells (fr 1 s t l q x y er sl rk ep d) TF (0, 0)) := by rw [hb1.block _ (by simp)]; exact HW0.out
  have HW1 := Lib.hid hw1
  have HB1 := Lib.hid (HB0.out.trans (hb1.mono HB0.out.size))
  have hlt : w.heap.size < w1.heap.size := (Array.getElem?_eq_some_iff.1 hw1).1
  have c11 : w1.cell? ⟨w.heap.size, 11, none⟩ = some (.string (Str d)) := (cell_of_row w1 _ 11 _ _ _ hw1).trans rfl
  have e1 : (Str d).size = d.length := str_size d
  have e2 : decide ((d.length : Int) > 127) = false := decide_eq_false (by omega)
  clear hb1 hw1 HB0 HW0 HOK
  go_wp2_with fail
  refine (new_f (B := w.heap.size) w1 (by omega)).mono ?_
  rintro e w2 ⟨rfl, h2, b2⟩
  have H := Lib.hid (addG h2 (by rw [b2.block _ hlt]; exact HW1.out) (by omega) (fr_not8 (fr 1 s t l q x y er sl rk ep d)))
  have HB := Lib.hid (HB1.out.trans (b2.mono HB1.out.size))
  clear h2 b2 HB1 HW1 c11 e1 e2
  generalize w1.heap.size = g at *
  clear hlt
  have eT : decide (t ≥ 0) = true := decide_eq_true ht0
  have c0 : w2.cell? ⟨w.heap.size, 0, none⟩ = some (.int .i64 1) := guest_c H.out (.head _) rfl
  have k2 : w2.cell? ⟨w.heap.size, 2, none⟩ = some (.int .i64 t) := guest_c H.out (.head _) rfl
  have hn : (([] : List Bool)).length ≤ 1300 := by simp only [List.length_append, List.length_cons, List.length_nil, bitsN_length]; omega
  go_wp2_with fail
  refine (u3 H.out 1 (by omega) (by omega) (by omega)).mono ?_
  rintro e w3 ⟨rfl, h, b⟩
  clear c0 hn k2
  have H' := Lib.hid h
  have HB' := Lib.hid (HB.out.trans b)
  clear h b H HB
  have H := H'
  have HB := HB'
  clear H' HB'
  have c0 : w3.cell? ⟨w.heap.size, 0, none⟩ = some (.int .i64 1) := guest_c H.out (.head _) rfl
  have k1 : w3.cell? ⟨w.heap.size, 1, none⟩ = some (.int .i64 s) := guest_c H.out (.head _) rfl
  have k2 : w3.cell? ⟨w.heap.size, 2, none⟩ = some (.int .i64 t) := guest_c H.out (.head _) rfl
  have hn : ((([] : List Bool) ++ bitsN 3 (1 : Int).toNat)).length ≤ 1300 := by simp only [List.length_append, List.length_cons, List.length_nil, bitsN_length]; omega
  go_wp2_with fail
  refine (u5 H.out s (by omega) (by omega) (by omega)).mono ?_
  rintro e w4 ⟨rfl, h, b⟩
  clear c0 hn k1 k2
  have H' := Lib.hid h
  have HB' := Lib.hid (HB.out.trans b)
  clear h b H HB
  have H := H'
  have HB := HB'
  clear H' HB'
  have c0 : w4.cell? ⟨w.heap.size, 0, none⟩ = some (.int .i64 1) := guest_c H.out (.head _) rfl
  have k2 : w4.cell? ⟨w.heap.size, 2, none⟩ = some (.int .i64 t) := guest_c H.out (.head _) rfl
  have hn : (((([] : List Bool) ++ bitsN 3 (1 : Int).toNat) ++ bitsN 5 (s : Int).toNat)).length ≤ 1300 := by simp only [List.length_append, List.length_cons, List.length_nil, bitsN_length]; omega
  go_wp2_with fail
  refine (flag_f H.out true (by omega)).mono ?_
  rintro e w5 ⟨rfl, h, b⟩
  clear c0 hn k2
  have H' := Lib.hid h
  have HB' := Lib.hid (HB.out.trans b)
  clear h b H HB
  have H := H'
  have HB := HB'
  clear H' HB'
  have c0 : w5.cell? ⟨w.heap.size, 0, none⟩ = some (.int .i64 1) := guest_c H.out (.head _) rfl
  have k2 : w5.cell? ⟨w.heap.size, 2, none⟩ = some (.int .i64 t) := guest_c H.out (.head _) rfl
  have hn : ((((([] : List Bool) ++ bitsN 3 (1 : Int).toNat) ++ bitsN 5 (s : Int).toNat) ++ [true])).length ≤ 1300 := by simp only [List.length_append, List.length_cons, List.length_nil, bitsN_length]; omega
  go_wp2_with fail
  refine (u5 H.out t (by omega) (by omega) (by omega)).mono ?_
  rintro e w6 ⟨rfl, h, b⟩
  clear c0 hn k2
  have H' := Lib.hid h
  have HB' := Lib.hid (HB.out.trans b)
  clear h b H HB
  have H := H'
  have HB := HB'
  clear H' HB'
  have c0 : w6.cell? ⟨w.heap.size, 0, none⟩ = some (.int .i64 1) := guest_c H.out (.head _) rfl
  have k3 : w6.cell? ⟨w.heap.size, 3, none⟩ = some (.int .i64 l) := guest_c H.out (.head _) rfl
  have k2 : w6.cell? ⟨w.heap.size, 2, none⟩ = some (.int .i64 t) := guest_c H.out (.head _) rfl
  have hn : (((((([] : List Bool) ++ bitsN 3 (1 : Int).toNat) ++ bitsN 5 (s : Int).toNat) ++ [true]) ++ bitsN 5 (t : Int).toNat)).length ≤ 1300 := by simp only [List.length_append, List.length_cons, List.length_nil, bitsN_length]; omega
  go_wp2_with fail
  refine (u8 H.out l (by omega) (by omega) (by omega)).mono ?_
  rintro e w7 ⟨rfl, h, b⟩
  clear c0 hn k3 k2
  have H' := Lib.hid h
  have HB' := Lib.hid (HB.out.trans b)
  clear h b H HB
  have H := H'
  have HB := HB'
  clear H' HB'
  have c0 : w7.cell? ⟨w.heap.size, 0, none⟩ = some (.int .i64 1) := guest_c H.out (.head _) rfl
  have k4 : w7.cell? ⟨w.heap.size, 4, none⟩ = some (.int .i64 q) := guest_c H.out (.head _) rfl
  have k2 : w7.cell? ⟨w.heap.size, 2, none⟩ = some (.int .i64 t) := guest_c H.out (.head _) rfl
  have hn : ((((((([] : List Bool) ++ bitsN 3 (1 : Int).toNat) ++ bitsN 5 (s : Int).toNat) ++ [true]) ++ bitsN 5 (t : Int).toNat) ++ bitsN 8 (l : Int).toNat)).length ≤ 1300 := by simp only [List.length_append, List.length_cons, List.length_nil, bitsN_length]; omega
  go_wp2_with fail
  refine (u8 H.out q (by omega) (by omega) (by omega)).mono ?_
  rintro e w8 ⟨rfl, h, b⟩
  clear c0 hn k4 k2
  have H' := Lib.hid h
  have HB' := Lib.hid (HB.out.trans b)
  clear h b H HB
  have H := H'
  have HB := HB'
  clear H' HB'
  have c0 : w8.cell? ⟨w.heap.size, 0, none⟩ = some (.int .i64 1) := guest_c H.out (.head _) rfl
  have k5 : w8.cell? ⟨w.heap.size, 5, none⟩ = some (.int .i64 x) := guest_c H.out (.head _) rfl
  have k2 : w8.cell? ⟨w.heap.size, 2, none⟩ = some (.int .i64 t) := guest_c H.out (.head _) rfl
  have hn : (((((((([] : List Bool) ++ bitsN 3 (1 : Int).toNat) ++ bitsN 5 (s : Int).toNat) ++ [true]) ++ bitsN 5 (t : Int).toNat) ++ bitsN 8 (l : Int).toNat) ++ bitsN 8 (q : Int).toNat)).length ≤ 1300 := by simp only [List.length_append, List.length_cons, List.length_nil, bitsN_length]; omega
  go_wp2_with fail
  refine (u8 H.out x (by omega) (by omega) (by omega)).mono ?_
  rintro e w9 ⟨rfl, h, b⟩
  clear c0 hn k5 k2
  have H' := Lib.hid h
  have HB' := Lib.hid (HB.out.trans b)
  clear h b H HB
  have H := H'
  have HB := HB'
  clear H' HB'
  have c0 : w9.cell? ⟨w.heap.size, 0, none⟩ = some (.int .i64 1) := guest_c H.out (.head _) rfl
  have k6 : w9.cell? ⟨w.heap.size, 6, none⟩ = some (.int .i64 y) := guest_c H.out (.head _) rfl
  have k2 : w9.cell? ⟨w.heap.size, 2, none⟩ = some (.int .i64 t) := guest_c H.out (.head _) rfl
  have hn : ((((((((([] : List Bool) ++ bitsN 3 (1 : Int).toNat) ++ bitsN 5 (s : Int).toNat) ++ [true]) ++ bitsN 5 (t : Int).toNat) ++ bitsN 8 (l : Int).toNat) ++ bitsN 8 (q : Int).toNat) ++ bitsN 8 (x : Int).toNat)).length ≤ 1300 := by simp only [List.length_append, List.length_cons, List.length_nil, bitsN_length]; omega
  go_wp2_with fail
  refine (u16 H.out y (by omega) (by omega) (by omega)).mono ?_
  rintro e w10 ⟨rfl, h, b⟩
  clear c0 hn k6 k2
  have H' := Lib.hid h
  have HB' := Lib.hid (HB.out.trans b)
  clear h b H HB
  have H := H'
  have HB := HB'
  clear H' HB'
  have c0 : w10.cell? ⟨w.heap.size, 0, none⟩ = some (.int .i64 1) := guest_c H.out (.head _) rfl
  have k11 : w10.cell? ⟨w.heap.size, 11, none⟩ = some (.string (Str d)) := guest_c H.out (.head _) rfl
  have k2 : w10.cell? ⟨w.heap.size, 2, none⟩ = some (.int .i64 t) := guest_c H.out (.head _) rfl
  have hn : (((((((((([] : List Bool) ++ bitsN 3 (1 : Int).toNat) ++ bitsN 5 (s : Int).toNat) ++ [true]) ++ bitsN 5 (t : Int).toNat) ++ bitsN 8 (l : Int).toNat) ++ bitsN 8 (q : Int).toNat) ++ bitsN 8 (x : Int).toNat) ++ bitsN 16 (y : Int).toNat)).length ≤ 1300 := by simp only [List.length_append, List.length_cons, List.length_nil, bitsN_length]; omega
  go_wp2_with fail
  refine (text_f H.out d hd (by omega)).mono ?_
  rintro e w11 ⟨rfl, h, b⟩
  clear c0 hn k11 k2
  have H' := Lib.hid h
  have HB' := Lib.hid (HB.out.trans b)
  clear h b H HB
  have H := H'
  have HB := HB'
  clear H' HB'
  have c0 : w11.cell? ⟨w.heap.size, 0, none⟩ = some (.int .i64 1) := guest_c H.out (.head _) rfl
  have hn : ((((((((((([] : List Bool) ++ bitsN 3 (1 : Int).toNat) ++ bitsN 5 (s : Int).toNat) ++ [true]) ++ bitsN 5 (t : Int).toNat) ++ bitsN 8 (l : Int).toNat) ++ bitsN 8 (q : Int).toNat) ++ bitsN 8 (x : Int).toNat) ++ bitsN 16 (y : Int).toNat) ++ textBits d)).length ≤ 1300 := by simp only [List.length_append, List.length_cons, List.length_nil, bitsN_length, textBits_len]; omega
  go_wp2_with fail
  refine (bytes_f H.out (by omega)).mono ?_
  rintro e w12 ⟨rfl, b⟩
  rw [HP.out]
  have hpl : p.length ≤ 1000 := by rw [← HP.out, pack_length]; omega
  have HB' := Lib.hid (HB.out.trans (b.mono HB.out.size))
  clear b H HB c0 hn HP
  go_wp2_with fail
  refine (rprotect_any p (by omega) _).mono ?_
  rintro e w13 ⟨rfl, b⟩
  have HB := Lib.hid (HB'.out.trans (b.mono HB'.out.size))
  clear b HB'
  have e1 : (Str (protect p)).size = p.length + 2 := by rw [str_size, protect_length]
  by_cases hb : 125 < p.length
  · have e2 : decide (((p.length : Int) + 2) > 127) = true := decide_eq_true (by omega)
    have HR2 := Lib.hid ((if_pos hb).symm.trans HR.out)
    clear HR hb
    go_wp2_with fail
    go_ret2
    exact ⟨by rw [← HR2.out]; rfl, HB.out⟩
  · have e2 : decide (((p.length : Int) + 2) > 127) = false := decide_eq_false (by omega)
    have HR2 := Lib.hid ((if_neg hb).symm.trans HR.out)
    clear HR hb
    go_wp2_with fail
    go_ret2
    exact ⟨by rw [← HR2.out]; rfl, HB.out⟩
set_option maxRecDepth 100000 in
set_option maxHeartbeats 4000000 in
theorem enc_ack (s t l q x y er sl rk ep : Int) (hok : ckF 2 s t l q x y er sl rk ep [] = 0) (hs0 : 0 ≤ s) (hs1 : s ≤ 31) (ht0 : 0 ≤ t) (ht1 : t ≤ 31) (hl0 : 0 ≤ l) (hl1 : l ≤ 255) (hq0 : 0 ≤ q) (hq1 : q ≤ 255) (he0 : -32768 ≤ er) (he1 : er ≤ 32767) (p : List UInt8) (hp : pack (((((((([] : List Bool) ++ bitsN 3 (2 : Int).toNat) ++ bitsN 5 (s : Int).toNat) ++ [true]) ++ bitsN 5 (t : Int).toNat) ++ bitsN 8 (l : Int).toNat) ++ bitsN 8 (q : Int).toNat) ++ bitsN 16 (er % 18446744073709551616).toNat) = p) (r : List UInt8 × Int) (hr : (if 125 < p.length then ([], 8) else (protect p, 0)) = r) (w : World) :
    Calls Try.prog 12 #[.agg (fr 2 s t l q x y er sl rk ep [])] w fun e w' => e = .returned (.tuple #[.string (Str r.1), .int .i64 r.2]) ∧ Below w.heap.size w w' := by
  have HW0 : Hid ((w.alloc (.cells (fr 2 s t l q x y er sl rk ep []) TF)).heap[w.heap.size]? = some (.cells (fr 2 s t l q x y er sl rk ep []) TF (0, 0))) := Lib.hid (heap_alloc_new _ _)
  have HB0 : Hid (Below w.heap.size w (w.alloc (.cells (fr 2 s t l q x y er sl rk ep []) TF))) := Lib.hid ((Below.refl _ _).alloc (Nat.le_refl _) _)
  have HOK := Lib.hid hok
  have HR := Lib.hid hr
  have HP := Lib.hid hp
  clear hok hr hp
  go_enter Try.func12, Try.ntmps12
  go_wp2_with ((refine wpList_load_row rfl TF _ rfl w.heap.size rfl TF (fr 2 s t l q x y er sl rk ep []) (0, 0) _ HW0.out Try.underlying23 rfl (by kernel_rfl) ?_))
  refine (rcheck_any 2 s t l q x y er sl rk ep [] _).mono ?_
  rintro e w1 ⟨rfl, hb1⟩
  rw [HOK.out]
  have hw1 : w1.heap[w.heap.size]? = some (.cells (fr 2 s t l q x y er sl rk ep []) TF (0, 0)) := by rw [hb1.block _ (by simp)]; exact HW0.out
  have HW1 := Lib.hid hw1
  have HB1 := Lib.hid (HB0.out.trans (hb1.mono HB0.out.size))
  have hlt : w.heap.size < w1.heap.size := (Array.getElem?_eq_some_iff.1 hw1).1
  have c11 : w1.cell? ⟨w.heap.size, 11, none⟩ = some (.string (Str [])) := (cell_of_row w1 _ 11 _ _ _ hw1).trans rfl
  have e1 : (Str []).size = 0 := rfl
  clear hb1 hw1 HB0 HW0 HOK
  go_wp2_with fail
  refine (new_f (B := w.heap.size) w1 (by omega)).mono ?_
  rintro e w2 ⟨rfl, h2, b2⟩
  have H := Lib.hid (addG h2 (by rw [b2.block _ hlt]; exact HW1.out) (by omega) (fr_not8 (fr 2 s t l q x y er sl rk ep [])))
  have HB := Lib.hid (HB1.out.trans (b2.mono HB1.out.size))
  clear h2 b2 HB1 HW1 c11 e1
  generalize w1.heap.size = g at *
  clear hlt
  have eT : decide (t ≥ 0) = true := decide_eq_true ht0
  have c0 : w2.cell? ⟨w.heap.size, 0, none⟩ = some (.int .i64 2) := guest_c H.out (.head _) rfl
  have k2 : w2.cell? ⟨w.heap.size, 2, none⟩ = some (.int .i64 t) := guest_c H.out (.head _) rfl
  have hn : (([] : List Bool)).length ≤ 1300 := by simp only [List.length_append, List.length_cons, List.length_nil, bitsN_length]; omega
  go_wp2_with fail
  refine (u3 H.out 2 (by omega) (by omega) (by omega)).mono ?_
  rintro e w3 ⟨rfl, h, b⟩
  clear c0 hn k2
  have H' := Lib.hid h
  have HB' := Lib.hid (HB.out.trans b)
  clear h b H HB
  have H := H'
  have HB := HB'
  clear H' HB'
  have c0 : w3.cell? ⟨w.heap.size, 0, none⟩ = some (.int .i64 2) := guest_c H.out (.head _) rfl
  have k1 : w3.cell? ⟨w.heap.size, 1, none⟩ = some (.int .i64 s) := guest_c H.out (.head _) rfl
  have k2 : w3.cell? ⟨w.heap.size, 2, none⟩ = some (.int .i64 t) := guest_c H.out (.head _) rfl
  have hn : ((([] : List Bool) ++ bitsN 3 (2 : Int).toNat)).length ≤ 1300 := by simp only [List.length_append, List.length_cons, List.length_nil, bitsN_length]; omega
  go_wp2_with fail
  refine (u5 H.out s (by omega) (by omega) (by omega)).mono ?_
  rintro e w4 ⟨rfl, h, b⟩
  clear c0 hn k1 k2
  have H' := Lib.hid h
  have HB' := Lib.hid (HB.out.trans b)
  clear h b H HB
  have H := H'
  have HB := HB'
  clear H' HB'
  have c0 : w4.cell? ⟨w.heap.size, 0, none⟩ = some (.int .i64 2) := guest_c H.out (.head _) rfl
  have k2 : w4.cell? ⟨w.heap.size, 2, none⟩ = some (.int .i64 t) := guest_c H.out (.head _) rfl
  have hn : (((([] : List Bool) ++ bitsN 3 (2 : Int).toNat) ++ bitsN 5 (s : Int).toNat)).length ≤ 1300 := by simp only [List.length_append, List.length_cons, List.length_nil, bitsN_length]; omega
  go_wp2_with fail
  refine (flag_f H.out true (by omega)).mono ?_
  rintro e w5 ⟨rfl, h, b⟩
  clear c0 hn k2
  have H' := Lib.hid h
  have HB' := Lib.hid (HB.out.trans b)
  clear h b H HB
  have H := H'
  have HB := HB'
  clear H' HB'
  have c0 : w5.cell? ⟨w.heap.size, 0, none⟩ = some (.int .i64 2) := guest_c H.out (.head _) rfl
  have k2 : w5.cell? ⟨w.heap.size, 2, none⟩ = some (.int .i64 t) := guest_c H.out (.head _) rfl
  have hn : ((((([] : List Bool) ++ bitsN 3 (2 : Int).toNat) ++ bitsN 5 (s : Int).toNat) ++ [true])).length ≤ 1300 := by simp only [List.length_append, List.length_cons, List.length_nil, bitsN_length]; omega
  go_wp2_with fail
  refine (u5 H.out t (by omega) (by omega) (by omega)).mono ?_
  rintro e w6 ⟨rfl, h, b⟩
  clear c0 hn k2
  have H' := Lib.hid h
  have HB' := Lib.hid (HB.out.trans b)
  clear h b H HB
  have H := H'
  have HB := HB'
  clear H' HB'
  have c0 : w6.cell? ⟨w.heap.size, 0, none⟩ = some (.int .i64 2) := guest_c H.out (.head _) rfl
  have k3 : w6.cell? ⟨w.heap.size, 3, none⟩ = some (.int .i64 l) := guest_c H.out (.head _) rfl
  have k2 : w6.cell? ⟨w.heap.size, 2, none⟩ = some (.int .i64 t) := guest_c H.out (.head _) rfl
  have hn : (((((([] : List Bool) ++ bitsN 3 (2 : Int).toNat) ++ bitsN 5 (s : Int).toNat) ++ [true]) ++ bitsN 5 (t : Int).toNat)).length ≤ 1300 := by simp only [List.length_append, List.length_cons, List.length_nil, bitsN_length]; omega
  go_wp2_with fail
  refine (u8 H.out l (by omega) (by omega) (by omega)).mono ?_
  rintro e w7 ⟨rfl, h, b⟩
  clear c0 hn k3 k2
  have H' := Lib.hid h
  have HB' := Lib.hid (HB.out.trans b)
  clear h b H HB
  have H := H'
  have HB := HB'
  clear H' HB'
  have c0 : w7.cell? ⟨w.heap.size, 0, none⟩ = some (.int .i64 2) := guest_c H.out (.head _) rfl
  have k4 : w7.cell? ⟨w.heap.size, 4, none⟩ = some (.int .i64 q) := guest_c H.out (.head _) rfl
  have k2 : w7.cell? ⟨w.heap.size, 2, none⟩ = some (.int .i64 t) := guest_c H.out (.head _) rfl
  have hn : ((((((([] : List Bool) ++ bitsN 3 (2 : Int).toNat) ++ bitsN 5 (s : Int).toNat) ++ [true]) ++ bitsN 5 (t : Int).toNat) ++ bitsN 8 (l : Int).toNat)).length ≤ 1300 := by simp only [List.length_append, List.length_cons, List.length_nil, bitsN_length]; omega
  go_wp2_with fail
  refine (u8 H.out q (by omega) (by omega) (by omega)).mono ?_
  rintro e w8 ⟨rfl, h, b⟩
  clear c0 hn k4 k2
  have H' := Lib.hid h
  have HB' := Lib.hid (HB.out.trans b)
  clear h b H HB
  have H := H'
  have HB := HB'
  clear H' HB'
  have c0 : w8.cell? ⟨w.heap.size, 0, none⟩ = some (.int .i64 2) := guest_c H.out (.head _) rfl
  have k7 : w8.cell? ⟨w.heap.size, 7, none⟩ = some (.int .i64 er) := guest_c H.out (.head _) rfl
  have k2 : w8.cell? ⟨w.heap.size, 2, none⟩ = some (.int .i64 t) := guest_c H.out (.head _) rfl
  have hn : (((((((([] : List Bool) ++ bitsN 3 (2 : Int).toNat) ++ bitsN 5 (s : Int).toNat) ++ [true]) ++ bitsN 5 (t : Int).toNat) ++ bitsN 8 (l : Int).toNat) ++ bitsN 8 (q : Int).toNat)).length ≤ 1300 := by simp only [List.length_append, List.length_cons, List.length_nil, bitsN_length]; omega
  go_wp2_with fail
  refine (signed_f H.out er he0 he1 (by omega)).mono ?_
  rintro e w9 ⟨rfl, h, b⟩
  clear c0 hn k7 k2
  have H' := Lib.hid h
  have HB' := Lib.hid (HB.out.trans b)
  clear h b H HB
  have H := H'
  have HB := HB'
  clear H' HB'
  have c0 : w9.cell? ⟨w.heap.size, 0, none⟩ = some (.int .i64 2) := guest_c H.out (.head _) rfl
  have hn : ((((((((([] : List Bool) ++ bitsN 3 (2 : Int).toNat) ++ bitsN 5 (s : Int).toNat) ++ [true]) ++ bitsN 5 (t : Int).toNat) ++ bitsN 8 (l : Int).toNat) ++ bitsN 8 (q : Int).toNat) ++ bitsN 16 (er % 18446744073709551616).toNat)).length ≤ 1300 := by simp only [List.length_append, List.length_cons, List.length_nil, bitsN_length, textBits_len]; omega
  go_wp2_with fail
  refine (bytes_f H.out (by omega)).mono ?_
  rintro e w10 ⟨rfl, b⟩
  rw [HP.out]
  have hpl : p.length ≤ 1000 := by rw [← HP.out, pack_length]; omega
  have HB' := Lib.hid (HB.out.trans (b.mono HB.out.size))
  clear b H HB c0 hn HP
  go_wp2_with fail
  refine (rprotect_any p (by omega) _).mono ?_
  rintro e w11 ⟨rfl, b⟩
  have HB := Lib.hid (HB'.out.trans (b.mono HB'.out.size))
  clear b HB'
  have e1 : (Str (protect p)).size = p.length + 2 := by rw [str_size, protect_length]
  by_cases hb : 125 < p.length
  · have e2 : decide (((p.length : Int) + 2) > 127) = true := decide_eq_true (by omega)
    have HR2 := Lib.hid ((if_pos hb).symm.trans HR.out)
    clear HR hb
    go_wp2_with fail
    go_ret2
    exact ⟨by rw [← HR2.out]; rfl, HB.out⟩
  · have e2 : decide (((p.length : Int) + 2) > 127) = false := decide_eq_false (by omega)
    have HR2 := Lib.hid ((if_neg hb).symm.trans HR.out)
    clear HR hb
    go_wp2_with fail
    go_ret2
    exact ⟨by rw [← HR2.out]; rfl, HB.out⟩
set_option maxRecDepth 100000 in
set_option maxHeartbeats 4000000 in
theorem enc_beacon (s l q x y er sl rk ep : Int) (d : List UInt8) (hok : ckF 3 s (-1) l q x y er sl rk ep d = 0) (hs0 : 0 ≤ s) (hs1 : s ≤ 31) (hl0 : 0 ≤ l) (hl1 : l ≤ 255) (hq0 : 0 ≤ q) (hq1 : q ≤ 255) (hz0 : 0 ≤ sl) (hz1 : sl ≤ 109951162) (hk0 : 0 ≤ rk) (hk1 : rk ≤ 65535) (hp0 : 0 ≤ ep) (hp1 : ep ≤ 65535) (hd : d.length ≤ 127) (p : List UInt8) (hp : pack (((((((((([] : List Bool) ++ bitsN 3 (3 : Int).toNat) ++ bitsN 5 (s : Int).toNat) ++ [false]) ++ bitsN 8 (l : Int).toNat) ++ bitsN 8 (q : Int).toNat) ++ bitsN 27 (sl : Int).toNat) ++ bitsN 16 (rk : Int).toNat) ++ bitsN 16 (ep : Int).toNat) ++ textBits d) = p) (r : List UInt8 × Int) (hr : (if 125 < p.length then ([], 8) else (protect p, 0)) = r) (w : World) :
    Calls Try.prog 12 #[.agg (fr 3 s (-1) l q x y er sl rk ep d)] w fun e w' => e = .returned (.tuple #[.string (Str r.1), .int .i64 r.2]) ∧ Below w.heap.size w w' := by
  have HW0 : Hid ((w.alloc (.cells (fr 3 s (-1) l q x y er sl rk ep d) TF)).heap[w.heap.size]? = some (.cells (fr 3 s (-1) l q x y er sl rk ep d) TF (0, 0))) := Lib.hid (heap_alloc_new _ _)
  have HB0 : Hid (Below w.heap.size w (w.alloc (.cells (fr 3 s (-1) l q x y er sl rk ep d) TF))) := Lib.hid ((Below.refl _ _).alloc (Nat.le_refl _) _)
  have HOK := Lib.hid hok
  have HR := Lib.hid hr
  have HP := Lib.hid hp
  clear hok hr hp
  go_enter Try.func12, Try.ntmps12
  go_wp2_with ((refine wpList_load_row rfl TF _ rfl w.heap.size rfl TF (fr 3 s (-1) l q x y er sl rk ep d) (0, 0) _ HW0.out Try.underlying23 rfl (by kernel_rfl) ?_))
  refine (rcheck_any 3 s (-1) l q x y er sl rk ep d _).mono ?_
  rintro e w1 ⟨rfl, hb1⟩
  rw [HOK.out]
  have hw1 : w1.heap[w.heap.size]? = some (.cells (fr 3 s (-1) l q x y er sl rk ep d) TF (0, 0)) := by rw [hb1.block _ (by simp)]; exact HW0.out
  have HW1 := Lib.hid hw1
  have HB1 := Lib.hid (HB0.out.trans (hb1.mono HB0.out.size))
  have hlt : w.heap.size < w1.heap.size := (Array.getElem?_eq_some_iff.1 hw1).1
  have c11 : w1.cell? ⟨w.heap.size, 11, none⟩ = some (.string (Str d)) := (cell_of_row w1 _ 11 _ _ _ hw1).trans rfl
  have e1 : (Str d).size = d.length := str_size d
  have e2 : decide ((d.length : Int) > 127) = false := decide_eq_false (by omega)
  clear hb1 hw1 HB0 HW0 HOK
  go_wp2_with fail
  refine (new_f (B := w.heap.size) w1 (by omega)).mono ?_
  rintro e w2 ⟨rfl, h2, b2⟩
  have H := Lib.hid (addG h2 (by rw [b2.block _ hlt]; exact HW1.out) (by omega) (fr_not8 (fr 3 s (-1) l q x y er sl rk ep d)))
  have HB := Lib.hid (HB1.out.trans (b2.mono HB1.out.size))
  clear h2 b2 HB1 HW1 c11 e1 e2
  generalize w1.heap.size = g at *
  clear hlt
  have c0 : w2.cell? ⟨w.heap.size, 0, none⟩ = some (.int .i64 3) := guest_c H.out (.head _) rfl
  have k2 : w2.cell? ⟨w.heap.size, 2, none⟩ = some (.int .i64 (-1)) := guest_c H.out (.head _) rfl
  have hn : (([] : List Bool)).length ≤ 1300 := by simp only [List.length_append, List.length_cons, List.length_nil, bitsN_length]; omega
  go_wp2_with fail
  refine (u3 H.out 3 (by omega) (by omega) (by omega)).mono ?_
  rintro e w3 ⟨rfl, h, b⟩
  clear c0 hn k2
  have H' := Lib.hid h
  have HB' := Lib.hid (HB.out.trans b)
  clear h b H HB
  have H := H'
  have HB := HB'
  clear H' HB'
  have c0 : w3.cell? ⟨w.heap.size, 0, none⟩ = some (.int .i64 3) := guest_c H.out (.head _) rfl
  have k1 : w3.cell? ⟨w.heap.size, 1, none⟩ = some (.int .i64 s) := guest_c H.out (.head _) rfl
  have k2 : w3.cell? ⟨w.heap.size, 2, none⟩ = some (.int .i64 (-1)) := guest_c H.out (.head _) rfl
  have hn : ((([] : List Bool) ++ bitsN 3 (3 : Int).toNat)).length ≤ 1300 := by simp only [List.length_append, List.length_cons, List.length_nil, bitsN_length]; omega
  go_wp2_with fail
  refine (u5 H.out s (by omega) (by omega) (by omega)).mono ?_
  rintro e w4 ⟨rfl, h, b⟩
  clear c0 hn k1 k2
  have H' := Lib.hid h
  have HB' := Lib.hid (HB.out.trans b)
  clear h b H HB
  have H := H'
  have HB := HB'
  clear H' HB'
  have c0 : w4.cell? ⟨w.heap.size, 0, none⟩ = some (.int .i64 3) := guest_c H.out (.head _) rfl
  have k2 : w4.cell? ⟨w.heap.size, 2, none⟩ = some (.int .i64 (-1)) := guest_c H.out (.head _) rfl
  have hn : (((([] : List Bool) ++ bitsN 3 (3 : Int).toNat) ++ bitsN 5 (s : Int).toNat)).length ≤ 1300 := by simp only [List.length_append, List.length_cons, List.length_nil, bitsN_length]; omega
  go_wp2_with fail
  refine (flag_f H.out false (by omega)).mono ?_
  rintro e w5 ⟨rfl, h, b⟩
  clear c0 hn k2
  have H' := Lib.hid h
  have HB' := Lib.hid (HB.out.trans b)
  clear h b H HB
  have H := H'
  have HB := HB'
  clear H' HB'
  have c0 : w5.cell? ⟨w.heap.size, 0, none⟩ = some (.int .i64 3) := guest_c H.out (.head _) rfl
  have k3 : w5.cell? ⟨w.heap.size, 3, none⟩ = some (.int .i64 l) := guest_c H.out (.head _) rfl
  have k2 : w5.cell? ⟨w.heap.size, 2, none⟩ = some (.int .i64 (-1)) := guest_c H.out (.head _) rfl
  have hn : ((((([] : List Bool) ++ bitsN 3 (3 : Int).toNat) ++ bitsN 5 (s : Int).toNat) ++ [false])).length ≤ 1300 := by simp only [List.length_append, List.length_cons, List.length_nil, bitsN_length]; omega
  go_wp2_with fail
  refine (u8 H.out l (by omega) (by omega) (by omega)).mono ?_
  rintro e w6 ⟨rfl, h, b⟩
  clear c0 hn k3 k2
  have H' := Lib.hid h
  have HB' := Lib.hid (HB.out.trans b)
  clear h b H HB
  have H := H'
  have HB := HB'
  clear H' HB'
  have c0 : w6.cell? ⟨w.heap.size, 0, none⟩ = some (.int .i64 3) := guest_c H.out (.head _) rfl
  have k4 : w6.cell? ⟨w.heap.size, 4, none⟩ = some (.int .i64 q) := guest_c H.out (.head _) rfl
  have k2 : w6.cell? ⟨w.heap.size, 2, none⟩ = some (.int .i64 (-1)) := guest_c H.out (.head _) rfl
  have hn : (((((([] : List Bool) ++ bitsN 3 (3 : Int).toNat) ++ bitsN 5 (s : Int).toNat) ++ [false]) ++ bitsN 8 (l : Int).toNat)).length ≤ 1300 := by simp only [List.length_append, List.length_cons, List.length_nil, bitsN_length]; omega
  go_wp2_with fail
  refine (u8 H.out q (by omega) (by omega) (by omega)).mono ?_
  rintro e w7 ⟨rfl, h, b⟩
  clear c0 hn k4 k2
  have H' := Lib.hid h
  have HB' := Lib.hid (HB.out.trans b)
  clear h b H HB
  have H := H'
  have HB := HB'
  clear H' HB'
  have c0 : w7.cell? ⟨w.heap.size, 0, none⟩ = some (.int .i64 3) := guest_c H.out (.head _) rfl
  have k8 : w7.cell? ⟨w.heap.size, 8, none⟩ = some (.int .i64 sl) := guest_c H.out (.head _) rfl
  have k2 : w7.cell? ⟨w.heap.size, 2, none⟩ = some (.int .i64 (-1)) := guest_c H.out (.head _) rfl
  have hn : ((((((([] : List Bool) ++ bitsN 3 (3 : Int).toNat) ++ bitsN 5 (s : Int).toNat) ++ [false]) ++ bitsN 8 (l : Int).toNat) ++ bitsN 8 (q : Int).toNat)).length ≤ 1300 := by simp only [List.length_append, List.length_cons, List.length_nil, bitsN_length]; omega
  go_wp2_with fail
  refine (u27 H.out sl (by omega) (by omega) (by omega)).mono ?_
  rintro e w8 ⟨rfl, h, b⟩
  clear c0 hn k8 k2
  have H' := Lib.hid h
  have HB' := Lib.hid (HB.out.trans b)
  clear h b H HB
  have H := H'
  have HB := HB'
  clear H' HB'
  have c0 : w8.cell? ⟨w.heap.size, 0, none⟩ = some (.int .i64 3) := guest_c H.out (.head _) rfl
  have k9 : w8.cell? ⟨w.heap.size, 9, none⟩ = some (.int .i64 rk) := guest_c H.out (.head _) rfl
  have k2 : w8.cell? ⟨w.heap.size, 2, none⟩ = some (.int .i64 (-1)) := guest_c H.out (.head _) rfl
  have hn : (((((((([] : List Bool) ++ bitsN 3 (3 : Int).toNat) ++ bitsN 5 (s : Int).toNat) ++ [false]) ++ bitsN 8 (l : Int).toNat) ++ bitsN 8 (q : Int).toNat) ++ bitsN 27 (sl : Int).toNat)).length ≤ 1300 := by simp only [List.length_append, List.length_cons, List.length_nil, bitsN_length]; omega
  go_wp2_with fail
  refine (u16 H.out rk (by omega) (by omega) (by omega)).mono ?_
  rintro e w9 ⟨rfl, h, b⟩
  clear c0 hn k9 k2
  have H' := Lib.hid h
  have HB' := Lib.hid (HB.out.trans b)
  clear h b H HB
  have H := H'
  have HB := HB'
  clear H' HB'
  have c0 : w9.cell? ⟨w.heap.size, 0, none⟩ = some (.int .i64 3) := guest_c H.out (.head _) rfl
  have k10 : w9.cell? ⟨w.heap.size, 10, none⟩ = some (.int .i64 ep) := guest_c H.out (.head _) rfl
  have k2 : w9.cell? ⟨w.heap.size, 2, none⟩ = some (.int .i64 (-1)) := guest_c H.out (.head _) rfl
  have hn : ((((((((([] : List Bool) ++ bitsN 3 (3 : Int).toNat) ++ bitsN 5 (s : Int).toNat) ++ [false]) ++ bitsN 8 (l : Int).toNat) ++ bitsN 8 (q : Int).toNat) ++ bitsN 27 (sl : Int).toNat) ++ bitsN 16 (rk : Int).toNat)).length ≤ 1300 := by simp only [List.length_append, List.length_cons, List.length_nil, bitsN_length]; omega
  go_wp2_with fail
  refine (u16 H.out ep (by omega) (by omega) (by omega)).mono ?_
  rintro e w10 ⟨rfl, h, b⟩
  clear c0 hn k10 k2
  have H' := Lib.hid h
  have HB' := Lib.hid (HB.out.trans b)
  clear h b H HB
  have H := H'
  have HB := HB'
  clear H' HB'
  have c0 : w10.cell? ⟨w.heap.size, 0, none⟩ = some (.int .i64 3) := guest_c H.out (.head _) rfl
  have k11 : w10.cell? ⟨w.heap.size, 11, none⟩ = some (.string (Str d)) := guest_c H.out (.head _) rfl
  have k2 : w10.cell? ⟨w.heap.size, 2, none⟩ = some (.int .i64 (-1)) := guest_c H.out (.head _) rfl
  have hn : (((((((((([] : List Bool) ++ bitsN 3 (3 : Int).toNat) ++ bitsN 5 (s : Int).toNat) ++ [false]) ++ bitsN 8 (l : Int).toNat) ++ bitsN 8 (q : Int).toNat) ++ bitsN 27 (sl : Int).toNat) ++ bitsN 16 (rk : Int).toNat) ++ bitsN 16 (ep : Int).toNat)).length ≤ 1300 := by simp only [List.length_append, List.length_cons, List.length_nil, bitsN_length]; omega
  go_wp2_with fail
  refine (text_f H.out d hd (by omega)).mono ?_
  rintro e w11 ⟨rfl, h, b⟩
  clear c0 hn k11 k2
  have H' := Lib.hid h
  have HB' := Lib.hid (HB.out.trans b)
  clear h b H HB
  have H := H'
  have HB := HB'
  clear H' HB'
  have c0 : w11.cell? ⟨w.heap.size, 0, none⟩ = some (.int .i64 3) := guest_c H.out (.head _) rfl
  have hn : ((((((((((([] : List Bool) ++ bitsN 3 (3 : Int).toNat) ++ bitsN 5 (s : Int).toNat) ++ [false]) ++ bitsN 8 (l : Int).toNat) ++ bitsN 8 (q : Int).toNat) ++ bitsN 27 (sl : Int).toNat) ++ bitsN 16 (rk : Int).toNat) ++ bitsN 16 (ep : Int).toNat) ++ textBits d)).length ≤ 1300 := by simp only [List.length_append, List.length_cons, List.length_nil, bitsN_length, textBits_len]; omega
  go_wp2_with fail
  refine (bytes_f H.out (by omega)).mono ?_
  rintro e w12 ⟨rfl, b⟩
  rw [HP.out]
  have hpl : p.length ≤ 1000 := by rw [← HP.out, pack_length]; omega
  have HB' := Lib.hid (HB.out.trans (b.mono HB.out.size))
  clear b H HB c0 hn HP
  go_wp2_with fail
  refine (rprotect_any p (by omega) _).mono ?_
  rintro e w13 ⟨rfl, b⟩
  have HB := Lib.hid (HB'.out.trans (b.mono HB'.out.size))
  clear b HB'
  have e1 : (Str (protect p)).size = p.length + 2 := by rw [str_size, protect_length]
  by_cases hb : 125 < p.length
  · have e2 : decide (((p.length : Int) + 2) > 127) = true := decide_eq_true (by omega)
    have HR2 := Lib.hid ((if_pos hb).symm.trans HR.out)
    clear HR hb
    go_wp2_with fail
    go_ret2
    exact ⟨by rw [← HR2.out]; rfl, HB.out⟩
  · have e2 : decide (((p.length : Int) + 2) > 127) = false := decide_eq_false (by omega)
    have HR2 := Lib.hid ((if_neg hb).symm.trans HR.out)
    clear HR hb
    go_wp2_with fail
    go_ret2
    exact ⟨by rw [← HR2.out]; rfl, HB.out⟩
set_option maxRecDepth 100000 in
set_option maxHeartbeats 4000000 in
theorem enc_message (s t l q x y er sl rk ep : Int) (d : List UInt8) (hok : ckF 4 s t l q x y er sl rk ep d = 0) (hs0 : 0 ≤ s) (hs1 : s ≤ 31) (ht0 : 0 ≤ t) (ht1 : t ≤ 31) (hl0 : 0 ≤ l) (hl1 : l ≤ 255) (hq0 : 0 ≤ q) (hq1 : q ≤ 255) (hd : d.length ≤ 127) (p : List UInt8) (hp : pack (((((((([] : List Bool) ++ bitsN 3 (4 : Int).toNat) ++ bitsN 5 (s : Int).toNat) ++ [true]) ++ bitsN 5 (t : Int).toNat) ++ bitsN 8 (l : Int).toNat) ++ bitsN 8 (q : Int).toNat) ++ textBits d) = p) (r : List UInt8 × Int) (hr : (if 125 < p.length then ([], 8) else (protect p, 0)) = r) (w : World) :
    Calls Try.prog 12 #[.agg (fr 4 s t l q x y er sl rk ep d)] w fun e w' => e = .returned (.tuple #[.string (Str r.1), .int .i64 r.2]) ∧ Below w.heap.size w w' := by
  have HW0 : Hid ((w.alloc (.cells (fr 4 s t l q x y er sl rk ep d) TF)).heap[w.heap.size]? = some (.cells (fr 4 s t l q x y er sl rk ep d) TF (0, 0))) := Lib.hid (heap_alloc_new _ _)
  have HB0 : Hid (Below w.heap.size w (w.alloc (.cells (fr 4 s t l q x y er sl rk ep d) TF))) := Lib.hid ((Below.refl _ _).alloc (Nat.le_refl _) _)
  have HOK := Lib.hid hok
  have HR := Lib.hid hr
  have HP := Lib.hid hp
  clear hok hr hp
  go_enter Try.func12, Try.ntmps12
  go_wp2_with ((refine wpList_load_row rfl TF _ rfl w.heap.size rfl TF (fr 4 s t l q x y er sl rk ep d) (0, 0) _ HW0.out Try.underlying23 rfl (by kernel_rfl) ?_))
  refine (rcheck_any 4 s t l q x y er sl rk ep d _).mono ?_
  rintro e w1 ⟨rfl, hb1⟩
  rw [HOK.out]
  have hw1 : w1.heap[w.heap.size]? = some (.cells (fr 4 s t l q x y er sl rk ep d) TF (0, 0)) := by rw [hb1.block _ (by simp)]; exact HW0.out
  have HW1 := Lib.hid hw1
  have HB1 := Lib.hid (HB0.out.trans (hb1.mono HB0.out.size))
  have hlt : w.heap.size < w1.heap.size := (Array.getElem?_eq_some_iff.1 hw1).1
  have c11 : w1.cell? ⟨w.heap.size, 11, none⟩ = some (.string (Str d)) := (cell_of_row w1 _ 11 _ _ _ hw1).trans rfl
  have e1 : (Str d).size = d.length := str_size d
  have e2 : decide ((d.length : Int) > 127) = false := decide_eq_false (by omega)
  clear hb1 hw1 HB0 HW0 HOK
  go_wp2_with fail
  refine (new_f (B := w.heap.size) w1 (by omega)).mono ?_
  rintro e w2 ⟨rfl, h2, b2⟩
  have H := Lib.hid (addG h2 (by rw [b2.block _ hlt]; exact HW1.out) (by omega) (fr_not8 (fr 4 s t l q x y er sl rk ep d)))
  have HB := Lib.hid (HB1.out.trans (b2.mono HB1.out.size))
  clear h2 b2 HB1 HW1 c11 e1 e2
  generalize w1.heap.size = g at *
  clear hlt
  have eT : decide (t ≥ 0) = true := decide_eq_true ht0
  have c0 : w2.cell? ⟨w.heap.size, 0, none⟩ = some (.int .i64 4) := guest_c H.out (.head _) rfl
  have k2 : w2.cell? ⟨w.heap.size, 2, none⟩ = some (.int .i64 t) := guest_c H.out (.head _) rfl
  have hn : (([] : List Bool)).length ≤ 1300 := by simp only [List.length_append, List.length_cons, List.length_nil, bitsN_length]; omega
  go_wp2_with fail
  refine (u3 H.out 4 (by omega) (by omega) (by omega)).mono ?_
  rintro e w3 ⟨rfl, h, b⟩
  clear c0 hn k2
  have H' := Lib.hid h
  have HB' := Lib.hid (HB.out.trans b)
  clear h b H HB
  have H := H'
  have HB := HB'
  clear H' HB'
  have c0 : w3.cell? ⟨w.heap.size, 0, none⟩ = some (.int .i64 4) := guest_c H.out (.head _) rfl
  have k1 : w3.cell? ⟨w.heap.size, 1, none⟩ = some (.int .i64 s) := guest_c H.out (.head _) rfl
  have k2 : w3.cell? ⟨w.heap.size, 2, none⟩ = some (.int .i64 t) := guest_c H.out (.head _) rfl
  have hn : ((([] : List Bool) ++ bitsN 3 (4 : Int).toNat)).length ≤ 1300 := by simp only [List.length_append, List.length_cons, List.length_nil, bitsN_length]; omega
  go_wp2_with fail
  refine (u5 H.out s (by omega) (by omega) (by omega)).mono ?_
  rintro e w4 ⟨rfl, h, b⟩
  clear c0 hn k1 k2
  have H' := Lib.hid h
  have HB' := Lib.hid (HB.out.trans b)
  clear h b H HB
  have H := H'
  have HB := HB'
  clear H' HB'
  have c0 : w4.cell? ⟨w.heap.size, 0, none⟩ = some (.int .i64 4) := guest_c H.out (.head _) rfl
  have k2 : w4.cell? ⟨w.heap.size, 2, none⟩ = some (.int .i64 t) := guest_c H.out (.head _) rfl
  have hn : (((([] : List Bool) ++ bitsN 3 (4 : Int).toNat) ++ bitsN 5 (s : Int).toNat)).length ≤ 1300 := by simp only [List.length_append, List.length_cons, List.length_nil, bitsN_length]; omega
  go_wp2_with fail
  refine (flag_f H.out true (by omega)).mono ?_
  rintro e w5 ⟨rfl, h, b⟩
  clear c0 hn k2
  have H' := Lib.hid h
  have HB' := Lib.hid (HB.out.trans b)
  clear h b H HB
  have H := H'
  have HB := HB'
  clear H' HB'
  have c0 : w5.cell? ⟨w.heap.size, 0, none⟩ = some (.int .i64 4) := guest_c H.out (.head _) rfl
  have k2 : w5.cell? ⟨w.heap.size, 2, none⟩ = some (.int .i64 t) := guest_c H.out (.head _) rfl
  have hn : ((((([] : List Bool) ++ bitsN 3 (4 : Int).toNat) ++ bitsN 5 (s : Int).toNat) ++ [true])).length ≤ 1300 := by simp only [List.length_append, List.length_cons, List.length_nil, bitsN_length]; omega
  go_wp2_with fail
  refine (u5 H.out t (by omega) (by omega) (by omega)).mono ?_
  rintro e w6 ⟨rfl, h, b⟩
  clear c0 hn k2
  have H' := Lib.hid h
  have HB' := Lib.hid (HB.out.trans b)
  clear h b H HB
  have H := H'
  have HB := HB'
  clear H' HB'
  have c0 : w6.cell? ⟨w.heap.size, 0, none⟩ = some (.int .i64 4) := guest_c H.out (.head _) rfl
  have k3 : w6.cell? ⟨w.heap.size, 3, none⟩ = some (.int .i64 l) := guest_c H.out (.head _) rfl
  have k2 : w6.cell? ⟨w.heap.size, 2, none⟩ = some (.int .i64 t) := guest_c H.out (.head _) rfl
  have hn : (((((([] : List Bool) ++ bitsN 3 (4 : Int).toNat) ++ bitsN 5 (s : Int).toNat) ++ [true]) ++ bitsN 5 (t : Int).toNat)).length ≤ 1300 := by simp only [List.length_append, List.length_cons, List.length_nil, bitsN_length]; omega
  go_wp2_with fail
  refine (u8 H.out l (by omega) (by omega) (by omega)).mono ?_
  rintro e w7 ⟨rfl, h, b⟩
  clear c0 hn k3 k2
  have H' := Lib.hid h
  have HB' := Lib.hid (HB.out.trans b)
  clear h b H HB
  have H := H'
  have HB := HB'
  clear H' HB'
  have c0 : w7.cell? ⟨w.heap.size, 0, none⟩ = some (.int .i64 4) := guest_c H.out (.head _) rfl
  have k4 : w7.cell? ⟨w.heap.size, 4, none⟩ = some (.int .i64 q) := guest_c H.out (.head _) rfl
  have k2 : w7.cell? ⟨w.heap.size, 2, none⟩ = some (.int .i64 t) := guest_c H.out (.head _) rfl
  have hn : ((((((([] : List Bool) ++ bitsN 3 (4 : Int).toNat) ++ bitsN 5 (s : Int).toNat) ++ [true]) ++ bitsN 5 (t : Int).toNat) ++ bitsN 8 (l : Int).toNat)).length ≤ 1300 := by simp only [List.length_append, List.length_cons, List.length_nil, bitsN_length]; omega
  go_wp2_with fail
  refine (u8 H.out q (by omega) (by omega) (by omega)).mono ?_
  rintro e w8 ⟨rfl, h, b⟩
  clear c0 hn k4 k2
  have H' := Lib.hid h
  have HB' := Lib.hid (HB.out.trans b)
  clear h b H HB
  have H := H'
  have HB := HB'
  clear H' HB'
  have c0 : w8.cell? ⟨w.heap.size, 0, none⟩ = some (.int .i64 4) := guest_c H.out (.head _) rfl
  have k11 : w8.cell? ⟨w.heap.size, 11, none⟩ = some (.string (Str d)) := guest_c H.out (.head _) rfl
  have k2 : w8.cell? ⟨w.heap.size, 2, none⟩ = some (.int .i64 t) := guest_c H.out (.head _) rfl
  have hn : (((((((([] : List Bool) ++ bitsN 3 (4 : Int).toNat) ++ bitsN 5 (s : Int).toNat) ++ [true]) ++ bitsN 5 (t : Int).toNat) ++ bitsN 8 (l : Int).toNat) ++ bitsN 8 (q : Int).toNat)).length ≤ 1300 := by simp only [List.length_append, List.length_cons, List.length_nil, bitsN_length]; omega
  go_wp2_with fail
  refine (text_f H.out d hd (by omega)).mono ?_
  rintro e w9 ⟨rfl, h, b⟩
  clear c0 hn k11 k2
  have H' := Lib.hid h
  have HB' := Lib.hid (HB.out.trans b)
  clear h b H HB
  have H := H'
  have HB := HB'
  clear H' HB'
  have c0 : w9.cell? ⟨w.heap.size, 0, none⟩ = some (.int .i64 4) := guest_c H.out (.head _) rfl
  have hn : ((((((((([] : List Bool) ++ bitsN 3 (4 : Int).toNat) ++ bitsN 5 (s : Int).toNat) ++ [true]) ++ bitsN 5 (t : Int).toNat) ++ bitsN 8 (l : Int).toNat) ++ bitsN 8 (q : Int).toNat) ++ textBits d)).length ≤ 1300 := by simp only [List.length_append, List.length_cons, List.length_nil, bitsN_length, textBits_len]; omega
  go_wp2_with fail
  refine (bytes_f H.out (by omega)).mono ?_
  rintro e w10 ⟨rfl, b⟩
  rw [HP.out]
  have hpl : p.length ≤ 1000 := by rw [← HP.out, pack_length]; omega
  have HB' := Lib.hid (HB.out.trans (b.mono HB.out.size))
  clear b H HB c0 hn HP
  go_wp2_with fail
  refine (rprotect_any p (by omega) _).mono ?_
  rintro e w11 ⟨rfl, b⟩
  have HB := Lib.hid (HB'.out.trans (b.mono HB'.out.size))
  clear b HB'
  have e1 : (Str (protect p)).size = p.length + 2 := by rw [str_size, protect_length]
  by_cases hb : 125 < p.length
  · have e2 : decide (((p.length : Int) + 2) > 127) = true := decide_eq_true (by omega)
    have HR2 := Lib.hid ((if_pos hb).symm.trans HR.out)
    clear HR hb
    go_wp2_with fail
    go_ret2
    exact ⟨by rw [← HR2.out]; rfl, HB.out⟩
  · have e2 : decide (((p.length : Int) + 2) > 127) = false := decide_eq_false (by omega)
    have HR2 := Lib.hid ((if_neg hb).symm.trans HR.out)
    clear HR hb
    go_wp2_with fail
    go_ret2
    exact ⟨by rw [← HR2.out]; rfl, HB.out⟩
set_option maxRecDepth 100000 in
set_option maxHeartbeats 4000000 in
theorem enc_all (s l q x y er sl rk ep : Int) (d : List UInt8) (hok : ckF 4 s (-1) l q x y er sl rk ep d = 0) (hs0 : 0 ≤ s) (hs1 : s ≤ 31) (hl0 : 0 ≤ l) (hl1 : l ≤ 255) (hq0 : 0 ≤ q) (hq1 : q ≤ 255) (hd : d.length ≤ 127) (p : List UInt8) (hp : pack ((((((([] : List Bool) ++ bitsN 3 (4 : Int).toNat) ++ bitsN 5 (s : Int).toNat) ++ [false]) ++ bitsN 8 (l : Int).toNat) ++ bitsN 8 (q : Int).toNat) ++ textBits d) = p) (r : List UInt8 × Int) (hr : (if 125 < p.length then ([], 8) else (protect p, 0)) = r) (w : World) :
    Calls Try.prog 12 #[.agg (fr 4 s (-1) l q x y er sl rk ep d)] w fun e w' => e = .returned (.tuple #[.string (Str r.1), .int .i64 r.2]) ∧ Below w.heap.size w w' := by
  have HW0 : Hid ((w.alloc (.cells (fr 4 s (-1) l q x y er sl rk ep d) TF)).heap[w.heap.size]? = some (.cells (fr 4 s (-1) l q x y er sl rk ep d) TF (0, 0))) := Lib.hid (heap_alloc_new _ _)
  have HB0 : Hid (Below w.heap.size w (w.alloc (.cells (fr 4 s (-1) l q x y er sl rk ep d) TF))) := Lib.hid ((Below.refl _ _).alloc (Nat.le_refl _) _)
  have HOK := Lib.hid hok
  have HR := Lib.hid hr
  have HP := Lib.hid hp
  clear hok hr hp
  go_enter Try.func12, Try.ntmps12
  go_wp2_with ((refine wpList_load_row rfl TF _ rfl w.heap.size rfl TF (fr 4 s (-1) l q x y er sl rk ep d) (0, 0) _ HW0.out Try.underlying23 rfl (by kernel_rfl) ?_))
  refine (rcheck_any 4 s (-1) l q x y er sl rk ep d _).mono ?_
  rintro e w1 ⟨rfl, hb1⟩
  rw [HOK.out]
  have hw1 : w1.heap[w.heap.size]? = some (.cells (fr 4 s (-1) l q x y er sl rk ep d) TF (0, 0)) := by rw [hb1.block _ (by simp)]; exact HW0.out
  have HW1 := Lib.hid hw1
  have HB1 := Lib.hid (HB0.out.trans (hb1.mono HB0.out.size))
  have hlt : w.heap.size < w1.heap.size := (Array.getElem?_eq_some_iff.1 hw1).1
  have c11 : w1.cell? ⟨w.heap.size, 11, none⟩ = some (.string (Str d)) := (cell_of_row w1 _ 11 _ _ _ hw1).trans rfl
  have e1 : (Str d).size = d.length := str_size d
  have e2 : decide ((d.length : Int) > 127) = false := decide_eq_false (by omega)
  clear hb1 hw1 HB0 HW0 HOK
  go_wp2_with fail
  refine (new_f (B := w.heap.size) w1 (by omega)).mono ?_
  rintro e w2 ⟨rfl, h2, b2⟩
  have H := Lib.hid (addG h2 (by rw [b2.block _ hlt]; exact HW1.out) (by omega) (fr_not8 (fr 4 s (-1) l q x y er sl rk ep d)))
  have HB := Lib.hid (HB1.out.trans (b2.mono HB1.out.size))
  clear h2 b2 HB1 HW1 c11 e1 e2
  generalize w1.heap.size = g at *
  clear hlt
  have c0 : w2.cell? ⟨w.heap.size, 0, none⟩ = some (.int .i64 4) := guest_c H.out (.head _) rfl
  have k2 : w2.cell? ⟨w.heap.size, 2, none⟩ = some (.int .i64 (-1)) := guest_c H.out (.head _) rfl
  have hn : (([] : List Bool)).length ≤ 1300 := by simp only [List.length_append, List.length_cons, List.length_nil, bitsN_length]; omega
  go_wp2_with fail
  refine (u3 H.out 4 (by omega) (by omega) (by omega)).mono ?_
  rintro e w3 ⟨rfl, h, b⟩
  clear c0 hn k2
  have H' := Lib.hid h
  have HB' := Lib.hid (HB.out.trans b)
  clear h b H HB
  have H := H'
  have HB := HB'
  clear H' HB'
  have c0 : w3.cell? ⟨w.heap.size, 0, none⟩ = some (.int .i64 4) := guest_c H.out (.head _) rfl
  have k1 : w3.cell? ⟨w.heap.size, 1, none⟩ = some (.int .i64 s) := guest_c H.out (.head _) rfl
  have k2 : w3.cell? ⟨w.heap.size, 2, none⟩ = some (.int .i64 (-1)) := guest_c H.out (.head _) rfl
  have hn : ((([] : List Bool) ++ bitsN 3 (4 : Int).toNat)).length ≤ 1300 := by simp only [List.length_append, List.length_cons, List.length_nil, bitsN_length]; omega
  go_wp2_with fail
  refine (u5 H.out s (by omega) (by omega) (by omega)).mono ?_
  rintro e w4 ⟨rfl, h, b⟩
  clear c0 hn k1 k2
  have H' := Lib.hid h
  have HB' := Lib.hid (HB.out.trans b)
  clear h b H HB
  have H := H'
  have HB := HB'
  clear H' HB'
  have c0 : w4.cell? ⟨w.heap.size, 0, none⟩ = some (.int .i64 4) := guest_c H.out (.head _) rfl
  have k2 : w4.cell? ⟨w.heap.size, 2, none⟩ = some (.int .i64 (-1)) := guest_c H.out (.head _) rfl
  have hn : (((([] : List Bool) ++ bitsN 3 (4 : Int).toNat) ++ bitsN 5 (s : Int).toNat)).length ≤ 1300 := by simp only [List.length_append, List.length_cons, List.length_nil, bitsN_length]; omega
  go_wp2_with fail
  refine (flag_f H.out false (by omega)).mono ?_
  rintro e w5 ⟨rfl, h, b⟩
  clear c0 hn k2
  have H' := Lib.hid h
  have HB' := Lib.hid (HB.out.trans b)
  clear h b H HB
  have H := H'
  have HB := HB'
  clear H' HB'
  have c0 : w5.cell? ⟨w.heap.size, 0, none⟩ = some (.int .i64 4) := guest_c H.out (.head _) rfl
  have k3 : w5.cell? ⟨w.heap.size, 3, none⟩ = some (.int .i64 l) := guest_c H.out (.head _) rfl
  have k2 : w5.cell? ⟨w.heap.size, 2, none⟩ = some (.int .i64 (-1)) := guest_c H.out (.head _) rfl
  have hn : ((((([] : List Bool) ++ bitsN 3 (4 : Int).toNat) ++ bitsN 5 (s : Int).toNat) ++ [false])).length ≤ 1300 := by simp only [List.length_append, List.length_cons, List.length_nil, bitsN_length]; omega
  go_wp2_with fail
  refine (u8 H.out l (by omega) (by omega) (by omega)).mono ?_
  rintro e w6 ⟨rfl, h, b⟩
  clear c0 hn k3 k2
  have H' := Lib.hid h
  have HB' := Lib.hid (HB.out.trans b)
  clear h b H HB
  have H := H'
  have HB := HB'
  clear H' HB'
  have c0 : w6.cell? ⟨w.heap.size, 0, none⟩ = some (.int .i64 4) := guest_c H.out (.head _) rfl
  have k4 : w6.cell? ⟨w.heap.size, 4, none⟩ = some (.int .i64 q) := guest_c H.out (.head _) rfl
  have k2 : w6.cell? ⟨w.heap.size, 2, none⟩ = some (.int .i64 (-1)) := guest_c H.out (.head _) rfl
  have hn : (((((([] : List Bool) ++ bitsN 3 (4 : Int).toNat) ++ bitsN 5 (s : Int).toNat) ++ [false]) ++ bitsN 8 (l : Int).toNat)).length ≤ 1300 := by simp only [List.length_append, List.length_cons, List.length_nil, bitsN_length]; omega
  go_wp2_with fail
  refine (u8 H.out q (by omega) (by omega) (by omega)).mono ?_
  rintro e w7 ⟨rfl, h, b⟩
  clear c0 hn k4 k2
  have H' := Lib.hid h
  have HB' := Lib.hid (HB.out.trans b)
  clear h b H HB
  have H := H'
  have HB := HB'
  clear H' HB'
  have c0 : w7.cell? ⟨w.heap.size, 0, none⟩ = some (.int .i64 4) := guest_c H.out (.head _) rfl
  have k11 : w7.cell? ⟨w.heap.size, 11, none⟩ = some (.string (Str d)) := guest_c H.out (.head _) rfl
  have k2 : w7.cell? ⟨w.heap.size, 2, none⟩ = some (.int .i64 (-1)) := guest_c H.out (.head _) rfl
  have hn : ((((((([] : List Bool) ++ bitsN 3 (4 : Int).toNat) ++ bitsN 5 (s : Int).toNat) ++ [false]) ++ bitsN 8 (l : Int).toNat) ++ bitsN 8 (q : Int).toNat)).length ≤ 1300 := by simp only [List.length_append, List.length_cons, List.length_nil, bitsN_length]; omega
  go_wp2_with fail
  refine (text_f H.out d hd (by omega)).mono ?_
  rintro e w8 ⟨rfl, h, b⟩
  clear c0 hn k11 k2
  have H' := Lib.hid h
  have HB' := Lib.hid (HB.out.trans b)
  clear h b H HB
  have H := H'
  have HB := HB'
  clear H' HB'
  have c0 : w8.cell? ⟨w.heap.size, 0, none⟩ = some (.int .i64 4) := guest_c H.out (.head _) rfl
  have hn : (((((((([] : List Bool) ++ bitsN 3 (4 : Int).toNat) ++ bitsN 5 (s : Int).toNat) ++ [false]) ++ bitsN 8 (l : Int).toNat) ++ bitsN 8 (q : Int).toNat) ++ textBits d)).length ≤ 1300 := by simp only [List.length_append, List.length_cons, List.length_nil, bitsN_length, textBits_len]; omega
  go_wp2_with fail
  refine (bytes_f H.out (by omega)).mono ?_
  rintro e w9 ⟨rfl, b⟩
  rw [HP.out]
  have hpl : p.length ≤ 1000 := by rw [← HP.out, pack_length]; omega
  have HB' := Lib.hid (HB.out.trans (b.mono HB.out.size))
  clear b H HB c0 hn HP
  go_wp2_with fail
  refine (rprotect_any p (by omega) _).mono ?_
  rintro e w10 ⟨rfl, b⟩
  have HB := Lib.hid (HB'.out.trans (b.mono HB'.out.size))
  clear b HB'
  have e1 : (Str (protect p)).size = p.length + 2 := by rw [str_size, protect_length]
  by_cases hb : 125 < p.length
  · have e2 : decide (((p.length : Int) + 2) > 127) = true := decide_eq_true (by omega)
    have HR2 := Lib.hid ((if_pos hb).symm.trans HR.out)
    clear HR hb
    go_wp2_with fail
    go_ret2
    exact ⟨by rw [← HR2.out]; rfl, HB.out⟩
  · have e2 : decide (((p.length : Int) + 2) > 127) = false := decide_eq_false (by omega)
    have HR2 := Lib.hid ((if_neg hb).symm.trans HR.out)
    clear HR hb
    go_wp2_with fail
    go_ret2
    exact ⟨by rw [← HR2.out]; rfl, HB.out⟩
end Go.Proofs.Ytbgnkjaikbhdoaa.RfE
