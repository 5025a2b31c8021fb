/- awake of the laws of frame. (cut to what is reached: wip/tools/slimout2.py) -/
import Derived.Test.YtbgnkjaikbhdoaaFGFrT
namespace Go.Proofs.Ytbgnkjaikbhdoaa.FrAw
open Go.RowKit Go.Proofs.Ytbgnkjaikbhdoaa.Pack Go.Proofs.Ytbgnkjaikbhdoaa.FrA Go.Proofs.Ytbgnkjaikbhdoaa.FrF Go.Proofs.Ytbgnkjaikbhdoaa.FrCrc Go.Proofs.Ytbgnkjaikbhdoaa.FrE Go.Proofs.Ytbgnkjaikbhdoaa.FrC Go.Proofs.Ytbgnkjaikbhdoaa.FrEn Go.Proofs.Ytbgnkjaikbhdoaa.FrT Go.Proofs.Ytbgnkjaikbhdoaa.Alg
open Go.Proofs.Ytbgnkjaikbhdoaa.Bytes (Str)
set_option maxRecDepth 100000 in
theorem enc_c : encF 2 2 1 3 4 0 0 (-1) 0 0 0 [] = (protect [66, 132, 12, 19, 255, 252], 0) := by
  have e : pack (frBits 2 2 1 3 4 0 0 (-1) 0 0 0 []) = [66, 132, 12, 19, 255, 252] := by decide +kernel
  unfold encF
  rw [e, if_neg (by decide), if_neg (by decide), if_neg (by decide)]
theorem time_c : timeF 2 2 1 3 4 0 0 (-1) 0 0 0 [] = (832, 0) := by
  unfold timeF; rw [enc_c]; rfl
set_option maxRecDepth 100000 in
theorem room_c : roomF 1 0 1 0 0 0 0 0 0 0 0 [] = (117, 0) := by
  have e : (pack (frBits 1 0 1 0 0 0 0 0 0 0 0 [])).length = 8 := by decide +kernel
  have f : encF 1 0 1 0 0 0 0 0 0 0 0 [] = (protect (pack (frBits 1 0 1 0 0 0 0 0 0 0 0 [])), 0) := by
    unfold encF
    rw [if_neg (by decide), if_neg (by decide), if_neg (by rw [e]; decide)]
  unfold roomF; rw [f, if_neg (by decide), if_pos rfl]
  show ((127 - ((protect _).length : Int)), (0 : Int)) = _
  rw [protect_length, e]; rfl
set_option maxRecDepth 100000 in
set_option maxHeartbeats 4000000 in
theorem awake_any (w : World) : Calls Try.prog 10 #[] w fun r w' => r = .returned (.bool true) ∧ Below w.heap.size w w' := by
  have hp : (Str (protect [66, 132, 12, 19, 255, 252])).size = 8 := by rw [str_size, protect_length]; rfl
  have P1 := fun w => encode_any 2 2 1 3 4 0 0 (-1) 0 0 0 [] _ enc_c w
  have P4 := fun w => protect_any [66, 132, 12, 19, 255, 252] (by decide) w
  generalize protect [66, 132, 12, 19, 255, 252] = p at hp P1 P4
  go_enter Try.func10, Try.ntmps10
  go_wp2_with fail
  refine (P1 _).mono ?_
  rintro r w1 ⟨rfl, hb⟩
  have c0 := cell_of_row w1 _ 0 _ _ _ (boxed _ _ _ hb).1
  have c1 := cell_of_row w1 _ 1 _ _ _ (boxed _ _ _ hb).1
  have c2 := cell_of_row w1 _ 2 _ _ _ (boxed _ _ _ hb).1
  have c3 := cell_of_row w1 _ 3 _ _ _ (boxed _ _ _ hb).1
  have c4 := cell_of_row w1 _ 4 _ _ _ (boxed _ _ _ hb).1
  have c5 := cell_of_row w1 _ 5 _ _ _ (boxed _ _ _ hb).1
  have c6 := cell_of_row w1 _ 6 _ _ _ (boxed _ _ _ hb).1
  have c7 := cell_of_row w1 _ 7 _ _ _ (boxed _ _ _ hb).1
  have c8 := cell_of_row w1 _ 8 _ _ _ (boxed _ _ _ hb).1
  have c9 := cell_of_row w1 _ 9 _ _ _ (boxed _ _ _ hb).1
  have c10 := cell_of_row w1 _ 10 _ _ _ (boxed _ _ _ hb).1
  have c11 := cell_of_row w1 _ 11 _ _ _ (boxed _ _ _ hb).1
  have HB := Lib.hid (boxed _ _ _ hb).2
  clear hb P1
  go_wp2_with fail
  refine (time_any 2 2 1 3 4 0 0 (-1) 0 0 0 [] _ time_c _).mono ?_
  rintro r w2 ⟨rfl, hb⟩
  have HB2 := Lib.hid (HB.out.trans (hb.mono HB.out.size))
  clear hb HB c0 c1 c2 c3 c4 c5 c6 c7 c8 c9 c10 c11
  go_wp2_with fail
  refine (room_any 1 0 1 0 0 0 0 0 0 0 0 [] _ room_c _).mono ?_
  rintro r w3 ⟨rfl, hb⟩
  have HB3 := Lib.hid (HB2.out.trans (hb.mono HB2.out.size))
  clear hb HB2
  go_wp2_with fail
  refine (P4 _).mono ?_
  rintro r w4 ⟨rfl, hb⟩
  have HB4 := Lib.hid (HB3.out.trans (hb.mono HB3.out.size))
  clear hb HB3 P4
  go_wp2_with fail
  go_ret
  exact ⟨rfl, HB4.out⟩
end Go.Proofs.Ytbgnkjaikbhdoaa.FrAw
