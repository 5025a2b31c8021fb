/- The check sum of the exclusive or of two strings: the walk of CrcLinear. -/
import Derived.Test.YtkhkmmabbpfngaaCrcFlip
namespace Go.Proofs.Ytkhkmmabbpfngaa.CrcLinearW
open Go.Proofs.Ytkhkmmabbpfngaa.Con hiding Str
open Go.RowKit Go.Proofs.Ytkhkmmabbpfngaa.Bytes Go.Proofs.Ytkhkmmabbpfngaa.Alg Go.Proofs.Ytkhkmmabbpfngaa.CrcA Go.Proofs.YtkhkmmabbpfngaaW.PrintWords Go.Proofs.YtkhkmmabbpfngaaW.PrintLast

/-- The row behind k rounds. -/
def mid (a b : List UInt8) (k : Nat) : List UInt8 := (xors a b).take k ++ a.drop k
theorem mid_zero (a b : List UInt8) : mid a b 0 = a := by simp [mid]
theorem mid_all (a b : List UInt8) (h : b.length = a.length) : mid a b a.length = xors a b := by
  unfold mid; rw [List.drop_length, List.append_nil, List.take_of_length_le (by rw [xors_length a b h.symm]; exact Nat.le_refl _)]
theorem mid_length (a b : List UInt8) (h : b.length = a.length) (k : Nat) (hk : k ≤ a.length) : (mid a b k).length = a.length := by
  unfold mid; rw [List.length_append, List.length_take, List.length_drop, xors_length a b h.symm]; omega
theorem mid_get (a b : List UInt8) (h : b.length = a.length) (k : Nat) (hk : k < a.length) : (mid a b k).getD k 0 = a.getD k 0 := by
  unfold mid
  have hl : ((xors a b).take k).length = k := by rw [List.length_take, xors_length a b h.symm]; omega
  rw [List.getD_eq_getElem?_getD, List.getElem?_append_right (by omega), hl]
  simp
theorem mid_set (a b : List UInt8) (h : b.length = a.length) (k : Nat) (hk : k < a.length) : (mid a b k).set k (a.getD k 0 ^^^ b.getD k 0) = mid a b (k + 1) := by
  have hl : ((xors a b).take k).length = k := by rw [List.length_take, xors_length a b h.symm]; omega
  unfold mid
  rw [List.set_append_right _ _ (by omega), hl, Nat.sub_self, List.drop_eq_getElem_cons hk, List.set_cons_zero, List.take_succ_eq_append_getElem (by rw [xors_length a b h.symm]; exact hk), List.append_assoc]
  congr 1
  have hb : k < b.length := by omega
  simp [xors, List.getD, hk, hb]

set_option maxHeartbeats 4000000 in
theorem walk0 (a b : List UInt8) (w : World) (ha : a.length ≤ 300) (hb : b.length = a.length) :
    Calls Try.prog 5 #[.string (Str a), .string (Str b)] w fun e w' => e = .returned (.bool true) ∧ Below w.heap.size w w' := by
  have kc := fun (w : World) => Lib.run_convert_string_bytes (P := Try.prog) w 9 29 5 (Str a) Try.underlying9 Try.underlying29 Try.underlying5
  have hsa : (Str a).size = a.length := by show a.toArray.size = _; simp
  have hsb : (Str b).size = a.length := by show b.toArray.size = _; simpa using hb
  have hbk : ∀ k, (h : k < (Str b).size) → (Str b)[k] = b.getD k 0 := by
    intro k h
    have h' : k < b.length := by omega
    show b.toArray[k]'_ = _
    simp [List.getD, h']
  have P1 := sum_any (Str (xors a b)) (by show (xors a b).toArray.size ≤ _; simp [xors]; omega) (crc a ^^^ crc b) (by rw [Con.str_list]; exact crc_xors a b hb.symm)
  have P2 := sum_any (Str a) (by omega) (crc a) (by rw [Con.str_list])
  have P3 := sum_any (Str b) (by omega) (crc b) (by rw [Con.str_list])
  have hx := xor_int (crc a) (crc b)
  have H1 := Lib.hid P1
  have H2 := Lib.hid P2
  have H3 := Lib.hid P3
  have HX := Lib.hid hx
  have HK := Lib.hid hbk
  clear P1 P2 P3 hx hbk
  go_enter Try.func5, Try.ntmps5
  go_wp2_with fail
  refine (awake_any _).mono ?_
  rintro e w1 ⟨rfl, hw1⟩
  have HR := Lib.hid (ByteRow.conv w1 5 a)
  have HB := Lib.hid (bl hw1 (Joins.below_bytesWorld w1.heap.size w1 5 (Str a) (Nat.le_refl _)))
  have HZ : Hid (w1.heap.size < (Lib.bytesWorld w1 5 (Str a)).heap.size) := Lib.hid (by rw [Lib.bytesWorld_size]; omega)
  go_wp2_with fail
  have HSA := Lib.hid hsa
  have HSB := Lib.hid hsb
  clear hsa kc
  generalize Lib.bytesWorld w1 5 (Str a) = W1 at HR HB HZ ⊢
  go_loopw [23] (fun i wr => ∃ k : Nat, k ≤ a.length ∧ i = .int .i64 k ∧ Hid (ByteRow wr w1.heap.size (mid a b k)) ∧ Hid (Below w.heap.size w wr) ∧ Hid (w1.heap.size < wr.heap.size)) (fun i _ => a.length - (intOf i).toNat)
  case atStart => exact ⟨0, Nat.zero_le _, rfl, by rw [mid_zero]; exact HR, HB, HZ⟩
  case round =>
    clear HR HB HZ
    obtain ⟨k, hk, rfl, HR, HB, HZ⟩ := hrel
    by_cases hlt : k < a.length
    · have hm := mid_length a b hb k hk
      obtain ⟨hc, hf⟩ := HR.out k (by omega)
      rw [mid_get a b hb k hlt] at hc
      have hkb : k < (Str b).size := by omega
      have hkk := HK.out k hkb
      have HN : Hid (ByteRow ((wr.setCell ⟨w1.heap.size, k, none⟩ (.int .u8 ((a.getD k 0 ^^^ b.getD k 0).toNat : Int))).drew) w1.heap.size (mid a b (k + 1))) := by
        have := (HR.out.set k (by omega) (a.getD k 0 ^^^ b.getD k 0)).drew
        rw [mid_set a b hb k hlt] at this
        exact Lib.hid this
      have HB2 := Lib.hid (below_drew1 (HB.out.setCell (p := ⟨w1.heap.size, k, none⟩) hw1.size (.int .u8 ((a.getD k 0 ^^^ b.getD k 0).toNat : Int))))
      have hv : Go.bits .xor .u8 ((a.getD k 0).toNat : Int) ((b.getD k 0).toNat : Int) = ((a.getD k 0 ^^^ b.getD k 0).toNat : Int) := by
        rw [u8_xor_nat _ _ (UInt8.toNat_lt _) (UInt8.toNat_lt _), UInt8.toNat_xor]
      have HV := Lib.hid hv
      have HM := Lib.hid hm
      have HKK := Lib.hid hkk
      clear hv hm hsb hkk
      generalize a.getD k 0 = u at *
      generalize hbu : b.getD k 0 = v at *
      go_wp2_with fail
      go_region
      rw [HKK.out, HV.out]
      have HZ2 : Hid (w1.heap.size < (World.drew (wr.setCell ⟨w1.heap.size, k, none⟩ (.int .u8 ((u ^^^ v).toNat : Int)))).heap.size) := Lib.hid (by have := HZ.out; simpa using this)
      clear hc hf HKK HV HR HB HZ HM
      generalize World.drew (wr.setCell ⟨w1.heap.size, k, none⟩ (.int .u8 ((u ^^^ v).toNat : Int))) = W2 at *
      go_wp2
      go_roundw
      case rel => exact ⟨k + 1, by omega, by go_num, HN, HB2, HZ2⟩
      case measure => simp [intOf]; omega
    · obtain rfl : k = a.length := by omega
      have hm := mid_all a b hb
      have HR2 : Hid (ByteRow wr w1.heap.size (xors a b)) := by rw [← hm]; exact HR
      have kt := HR2.out.text (P := Try.prog) (grownCap w1 a.length 0 5) 29 5 9 Try.underlying29 Try.underlying5 Try.underlying9
      rw [xors_length a b hb.symm] at kt
      clear hm HR HR2
      go_wp2_with fail
      refine (H1.out _).mono ?_
      rintro e w2 ⟨rfl, hw2⟩
      go_wp2_with fail
      refine (H2.out _).mono ?_
      rintro e w3 ⟨rfl, hw3⟩
      go_wp2_with fail
      refine (H3.out _).mono ?_
      rintro e w4 ⟨rfl, hw4⟩
      have hx := HX.out
      go_wp2_with fail
      go_ret
      exact ⟨rfl, bl (bl (bl HB.out hw2) hw3) hw4⟩

set_option maxHeartbeats 2000000 in
theorem walk1 (x y : ByteArray) (w : World) (ho : 300 < x.size ∨ (x.size ≤ 300 ∧ y.size ≠ x.size)) :
    Calls Try.prog 5 #[.string x, .string y] w fun e w' => e = .returned (.bool true) ∧ Below w.heap.size w w' := by
  rcases ho with h | ⟨h, h2⟩
  · go_enter Try.func5, Try.ntmps5
    go_wp2_with fail
    refine (awake_any _).mono ?_
    rintro e w1 ⟨rfl, hw1⟩
    go_wp2_with fail
    go_ret
    exact ⟨rfl, hw1⟩
  · have h3 : ((y.size : Int) != (x.size : Int)) = true := by rw [bne_iff_ne]; omega
    go_enter Try.func5, Try.ntmps5
    go_wp2_with fail
    refine (awake_any _).mono ?_
    rintro e w1 ⟨rfl, hw1⟩
    go_wp2_with fail
    go_ret
    exact ⟨rfl, hw1⟩
theorem walk (x y : ByteArray) (w : World) (_ : x.size ≤ 140737488351232) (_ : y.size ≤ 140737488351232) :
    Calls Try.prog 5 #[.string x, .string y] w fun e w' => e = .returned (.bool true) ∧ Below w.heap.size w w' := by
  obtain ⟨a, rfl⟩ := str_of x
  obtain ⟨b, rfl⟩ := str_of y
  by_cases h : 300 < (Str a).size ∨ ((Str a).size ≤ 300 ∧ (Str b).size ≠ (Str a).size)
  · exact walk1 _ _ w h
  · rw [str_size, str_size] at h
    exact walk0 a b w (by omega) (by omega)
end Go.Proofs.Ytkhkmmabbpfngaa.CrcLinearW
