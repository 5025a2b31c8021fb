/- The check sum of two strings, one behind the other: the walk of CrcJoins. -/
import Derived.Test.YtkhkmmabbpfngaaCrcConB
namespace Go.Proofs.Ytkhkmmabbpfngaa.CrcJoinsW
open Go.RowKit Go.Proofs.Ytkhkmmabbpfngaa.Alg Go.Proofs.Ytkhkmmabbpfngaa.Ev Go.Proofs.Ytkhkmmabbpfngaa.Pure Go.Proofs.Ytkhkmmabbpfngaa.CrcA Go.Proofs.Ytkhkmmabbpfngaa.Con Go.Proofs.Ytkhkmmabbpfngaa.CrcSumsW Go.Proofs.YtkhkmmabbpfngaaW.PrintWords Go.Proofs.YtkhkmmabbpfngaaW.PrintLast

theorem comb_join (a b : List UInt8) : comb (crc a) (crc b) (b.length : Int) = crcU (crc a) b := by
  unfold comb; rw [if_neg (by omega), Int.toNat_natCast, crcU_eq, crc_rem b]
theorem crc_join (a b : List UInt8) : crcU (crc a) b = crc (a ++ b) := by unfold crc; rw [crcU_append]

set_option maxHeartbeats 2000000 in
theorem walk0 (a b : List UInt8) (w : World) (ha : a.length ≤ 300) (hb : b.length ≤ 300) :
    Calls Try.prog 8 #[.string (Str a), .string (Str b)] w fun e w' => e = .returned (.bool true) ∧ Below w.heap.size w w' := by
  have ha' : (Str a).size ≤ 300 := by rw [str_size]; exact ha
  have hb' : (Str b).size ≤ 300 := by rw [str_size]; exact hb
  have e0 : (Str a ++ Str b).data.toList = a ++ b := by
    show (Str a ++ Str b).data.toList = _
    simp
  have e1 : comb (crc a) (crc b) ((Str b).size : Int) = crc (a ++ b) := by rw [str_size, comb_join, crc_join]
  have e2 : crcU (crc a) (Str b).data.toList = crc (a ++ b) := by rw [str_list, crc_join]
  have e3 : crcU 0#16 (Str a).data.toList = crc a := by rw [str_list]; rfl
  have ea : crc (Str a).data.toList = crc a := by rw [str_list]
  have eb : crc (Str b).data.toList = crc b := by rw [str_list]
  have es : crc (Str a ++ Str b).data.toList = crc (a ++ b) := by rw [e0]
  have hs : (Str a ++ Str b).size ≤ 140737488351232 := by rw [ByteArray.size_append]; omega
  have HS := Lib.hid es
  have H1 := Lib.hid e1
  have H2 := Lib.hid e2
  have H3 := Lib.hid e3
  have HA := Lib.hid ea
  have HB := Lib.hid eb
  clear e0 e1 e2 e3 ea eb es
  generalize Str a = x at *
  generalize Str b = y at *
  go_enter Try.func8, Try.ntmps8
  go_wp2_with fail
  refine (awake_any _).mono ?_
  rintro e w1 ⟨rfl, hw1⟩
  go_wp2_with fail
  refine (sum_any (x ++ y) hs _ HS.out _).mono ?_
  rintro e w2 ⟨rfl, hw2⟩
  go_wp2_with fail
  refine (sum_any x (by omega) _ HA.out _).mono ?_
  rintro e w3 ⟨rfl, hw3⟩
  go_wp2_with fail
  refine (Con.update_any (crc a) y (by omega) _ H2.out _).mono ?_
  rintro e w4 ⟨rfl, hw4⟩
  go_wp2_with fail
  refine (sum_any x (by omega) _ HA.out _).mono ?_
  rintro e w5 ⟨rfl, hw5⟩
  go_wp2_with fail
  refine (sum_any y (by omega) _ HB.out _).mono ?_
  rintro e w6 ⟨rfl, hw6⟩
  go_wp2_with fail
  refine (combine_any (crc a) (crc b) _ (y.size : Int) (by omega) H1.out _).mono ?_
  rintro e w7 ⟨rfl, n7, rfl⟩
  go_wp2_with fail
  refine (Con.update_any 0#16 x (by omega) _ H3.out _).mono ?_
  rintro e w8 ⟨rfl, hw8⟩
  go_wp2_with fail
  refine (sum_any x (by omega) _ HA.out _).mono ?_
  rintro e w9 ⟨rfl, hw9⟩
  go_wp2_with fail
  go_ret
  refine ⟨rfl, ?_⟩
  exact bl (bl (pw_below_drewN (bl (bl (bl (bl (bl hw1 hw2) hw3) hw4) hw5) hw6) _) hw8) hw9

set_option maxHeartbeats 2000000 in
theorem walk1 (x y : ByteArray) (w : World) (ho : 300 < x.size ∨ (x.size ≤ 300 ∧ 300 < y.size)) :
    Calls Try.prog 8 #[.string x, .string y] w fun e w' => e = .returned (.bool true) ∧ Below w.heap.size w w' := by
  rcases ho with h | ⟨h, h2⟩
  all_goals
    go_enter Try.func8, Try.ntmps8
    go_wp2_with fail
    refine (awake_any _).mono ?_
    rintro e w1 ⟨rfl, hw1⟩
    go_wp2_with fail
    go_ret
    exact ⟨rfl, hw1⟩
theorem walk (x y : ByteArray) (w : World) (_ : x.size ≤ 140737488351232) (_ : y.size ≤ 140737488351232) :
    Calls Try.prog 8 #[.string x, .string y] w fun e w' => e = .returned (.bool true) ∧ Below w.heap.size w w' := by
  obtain ⟨a, rfl⟩ := str_of x
  obtain ⟨b, rfl⟩ := str_of y
  by_cases h : 300 < (Str a).size ∨ ((Str a).size ≤ 300 ∧ 300 < (Str b).size)
  · exact walk1 _ _ w h
  · rw [str_size, str_size] at h; exact walk0 a b w (by omega) (by omega)
end Go.Proofs.Ytkhkmmabbpfngaa.CrcJoinsW
