/- Protected strings: the walk of CrcProtects. -/
import Derived.Test.YtkhkmmabbpfngaaCrcConB
namespace Go.Proofs.Ytkhkmmabbpfngaa.CrcProtectsW
open Go.RowKit Go.Proofs.Ytkhkmmabbpfngaa.Alg Go.Proofs.Ytkhkmmabbpfngaa.Ev Go.Proofs.Ytkhkmmabbpfngaa.Pure Go.Proofs.Ytkhkmmabbpfngaa.CrcA Go.Proofs.Ytkhkmmabbpfngaa.Con Go.Proofs.Ytkhkmmabbpfngaa.CrcSumsW Go.Proofs.YtkhkmmabbpfngaaW.PrintWords Go.Proofs.YtkhkmmabbpfngaaW.PrintLast

theorem protect_length (l : List UInt8) : (protect l).length = l.length + 2 := by simp [protect]
theorem str_inj {a b : List UInt8} : (Str a).toList = (Str b).toList ↔ a = b := by
  rw [Lib.toList_data, Lib.toList_data, str_list, str_list]

set_option maxHeartbeats 2000000 in
theorem long (x : ByteArray) (w : World) (h : 300 < x.size) :
    Calls Try.prog 9 #[.string x] w fun e w' => e = .returned (.bool true) ∧ Below w.heap.size w w' := by
  go_enter Try.func9, Try.ntmps9
  go_wp2_with fail
  refine (awake_any _).mono ?_
  rintro e w1 ⟨rfl, hw1⟩
  go_wp2_with fail
  go_ret
  exact ⟨rfl, hw1⟩

set_option maxHeartbeats 4000000 in
/-- A string of fewer than two bytes. -/
theorem short (l : List UInt8) (w : World) (h : l.length < 2) :
    Calls Try.prog 9 #[.string (Str l)] w fun e w' => e = .returned (.bool true) ∧ Below w.heap.size w w' := by
  have hp := protect_length l
  have hx : (Str l).size < 2 := by rw [str_size]; exact h
  have hz : (Str (protect l)).size = (Str l).size + 2 := by rw [str_size, str_size, hp]
  have P1 := protect_any l (by omega)
  have P2 := check_any (protect l) (by omega) (l, 0) (chk_protect l)
  have P3 := check_any l (by omega) ([], 9) (by unfold chk; rw [if_pos h])
  have P4 := syndrome_any l (by omega) (0, 9) (by unfold synd; rw [if_pos h])
  have H1 := Lib.hid P1
  have H2 := Lib.hid P2
  have H3 := Lib.hid P3
  have H4 := Lib.hid P4
  have hsz : (((Str (protect l)).size : Int) != ((Str l).size : Int) + 2) = false := by rw [hz]; simp
  clear P1 P2 P3 P4 hp hz
  generalize Str (protect l) = p at *
  generalize Str l = x at *
  go_enter Try.func9, Try.ntmps9
  go_wp2_with fail
  refine (awake_any _).mono ?_
  rintro e w1 ⟨rfl, hw1⟩
  go_wp2_with fail
  refine (H1.out _).mono ?_
  rintro e w2 ⟨rfl, hw2⟩
  go_wp2_with fail
  refine (H2.out _).mono ?_
  rintro e w3 ⟨rfl, hw3⟩
  go_wp2_with fail
  refine (H3.out _).mono ?_
  rintro e w4 ⟨rfl, hw4⟩
  go_wp2_with fail
  refine (H4.out _).mono ?_
  rintro e w5 ⟨rfl, hw5⟩
  go_wp2_with fail
  go_ret
  exact ⟨rfl, bl (bl (bl (bl hw1 hw2) hw3) hw4) hw5⟩

set_option maxHeartbeats 4000000 in
/-- A string of two bytes or more that is protected. -/
theorem right (m : List UInt8) (w : World) (h : m.length ≤ 298) :
    Calls Try.prog 9 #[.string (Str (protect m))] w fun e w' => e = .returned (.bool true) ∧ Below w.heap.size w w' := by
  have hp := protect_length (protect m)
  have hq := protect_length m
  have hx0 : 2 ≤ (Str (protect m)).size := by rw [str_size, hq]; omega
  have hx1 : (Str (protect m)).size ≤ 300 := by rw [str_size, hq]; omega
  have hz : (Str (protect (protect m))).size = (Str (protect m)).size + 2 := by rw [str_size, str_size, hp]
  have P1 := protect_any (protect m) (by omega)
  have P2 := check_any (protect (protect m)) (by omega) (protect m, 0) (chk_protect _)
  have P3 := check_any (protect m) (by omega) (m, 0) (chk_protect m)
  have P4 := syndrome_any (protect m) (by omega) (0, 0) (by unfold synd; rw [if_neg (by omega), rem_protect]; rfl)
  have P5 := protect_any m (by omega)
  have hext : (Str (protect m)).extract 0 ((Str (protect m)).size - 2) = Str m := by
    rw [str_size, hq, Nat.add_sub_cancel]; exact extract_front m _
  have H1 := Lib.hid P1
  have H2 := Lib.hid P2
  have H3 := Lib.hid P3
  have H4 := Lib.hid P4
  have H5 := Lib.hid P5
  have HE := Lib.hid hext
  have hsz : (((Str (protect (protect m))).size : Int) != ((Str (protect m)).size : Int) + 2) = false := by rw [hz]; simp
  clear P1 P2 P3 P4 P5 hp hz hq hext
  generalize Str (protect (protect m)) = p at *
  generalize Str (protect m) = x at *
  generalize Str m = y at *
  go_enter Try.func9, Try.ntmps9
  go_wp2_with fail
  refine (awake_any _).mono ?_
  rintro e w1 ⟨rfl, hw1⟩
  go_wp2_with fail
  refine (H1.out _).mono ?_
  rintro e w2 ⟨rfl, hw2⟩
  go_wp2_with fail
  refine (H2.out _).mono ?_
  rintro e w3 ⟨rfl, hw3⟩
  go_wp2_with fail
  refine (H3.out _).mono ?_
  rintro e w4 ⟨rfl, hw4⟩
  go_wp2_with fail
  refine (H4.out _).mono ?_
  rintro e w5 ⟨rfl, hw5⟩
  go_wp2_with fail
  rw [HE.out]
  refine (H5.out _).mono ?_
  rintro e w6 ⟨rfl, hw6⟩
  have hext := HE.out
  go_wp2_with fail
  go_ret
  exact ⟨rfl, bl (bl (bl (bl (bl hw1 hw2) hw3) hw4) hw5) hw6⟩

set_option maxHeartbeats 4000000 in
/-- A string of two bytes or more that is not protected. -/
theorem wrong (l m : List UInt8) (a b : UInt8) (hl : l = m ++ [a, b]) (hr : rem l ≠ 0#16) (w : World) (h : l.length ≤ 300) :
    Calls Try.prog 9 #[.string (Str l)] w fun e w' => e = .returned (.bool true) ∧ Below w.heap.size w w' := by
  have hm : l.length = m.length + 2 := by rw [hl]; simp
  have hp := protect_length l
  have hx0 : 2 ≤ (Str l).size := by rw [str_size]; omega
  have hx1 : (Str l).size ≤ 300 := by rw [str_size]; omega
  have hz : (Str (protect l)).size = (Str l).size + 2 := by rw [str_size, str_size, hp]
  have hne : protect m ≠ l := fun e => hr (by rw [← e]; exact rem_protect m)
  have P1 := protect_any l (by omega)
  have P2 := check_any (protect l) (by omega) (l, 0) (chk_protect _)
  have P3 := check_any l (by omega) ([], 10) (by unfold chk; rw [if_neg (by omega), if_neg hr])
  have P4 := syndrome_any l (by omega) (n (rem l), 0) (by unfold synd; rw [if_neg (by omega)])
  have P5 := protect_any m (by omega)
  have hext : (Str l).extract 0 ((Str l).size - 2) = Str m := by
    rw [str_size, hm, Nat.add_sub_cancel, hl]; exact extract_front m _
  have H1 := Lib.hid P1
  have H2 := Lib.hid P2
  have H3 := Lib.hid P3
  have H4 := Lib.hid P4
  have H5 := Lib.hid P5
  have HE := Lib.hid hext
  have hsz : (((Str (protect l)).size : Int) != ((Str l).size : Int) + 2) = false := by rw [hz]; simp
  have hn0 : (n (rem l) == 0) = false := by
    rw [beq_eq_false_iff_ne]; exact fun e => hr (n_inj.1 (show n _ = n 0#16 from e))
  have hpl : ((Str (protect m)).toList == (Str l).toList) = false := by
    rw [beq_eq_false_iff_ne]; exact fun e => hne (str_inj.1 e)
  clear P1 P2 P3 P4 P5 hp hz hext hne hm hl hr
  generalize n (rem l) = s at *
  generalize Str (protect l) = p at *
  generalize Str (protect m) = q at *
  generalize Str l = x at *
  generalize Str m = y at *
  go_enter Try.func9, Try.ntmps9
  go_wp2_with fail
  refine (awake_any _).mono ?_
  rintro e w1 ⟨rfl, hw1⟩
  go_wp2_with fail
  refine (H1.out _).mono ?_
  rintro e w2 ⟨rfl, hw2⟩
  go_wp2_with fail
  refine (H2.out _).mono ?_
  rintro e w3 ⟨rfl, hw3⟩
  go_wp2_with fail
  refine (H3.out _).mono ?_
  rintro e w4 ⟨rfl, hw4⟩
  go_wp2_with fail
  refine (H4.out _).mono ?_
  rintro e w5 ⟨rfl, hw5⟩
  go_wp2_with fail
  rw [HE.out]
  refine (H5.out _).mono ?_
  rintro e w6 ⟨rfl, hw6⟩
  go_wp2_with fail
  go_ret
  exact ⟨rfl, bl (bl (bl (bl (bl hw1 hw2) hw3) hw4) hw5) hw6⟩

theorem walk (x : ByteArray) (w : World) (_ : x.size ≤ 140737488351232) :
    Calls Try.prog 9 #[.string x] w fun e w' => e = .returned (.bool true) ∧ Below w.heap.size w w' := by
  obtain ⟨l, rfl⟩ := str_of x
  by_cases h : 300 < (Str l).size
  · exact long _ w h
  · rw [str_size] at h
    by_cases h2 : l.length < 2
    · exact short l w h2
    · obtain ⟨m, a, b, hl⟩ := long_parts l (by omega)
      by_cases hr : rem l = 0#16
      · have e : l = protect m := by rw [hl] at hr ⊢; exact protect_of hr
        rw [e]
        exact right m w (by rw [hl] at h; simp at h; omega)
      · exact wrong l m a b hl hr w (by omega)
end Go.Proofs.Ytkhkmmabbpfngaa.CrcProtectsW
