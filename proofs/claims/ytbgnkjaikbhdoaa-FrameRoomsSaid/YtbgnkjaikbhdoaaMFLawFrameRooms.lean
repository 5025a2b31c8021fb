/- The row of the law FrameRooms: for every input it returns true, and the input reads as it did. Written by wip/row.py of this session. The walk of FrameRooms. Printed by wip/frro.py. What FrameRooms asks, in plain words; strings.Repeat. -/
import Derived.Test.YtbgnkjaikbhdoaaMF4
import Derived.Test.YtbgnkjaikbhdoaaMF1
import Derived.Deep.RegionWith
import Derived.StillTailTactics
import Derived.Test.YtbgnkjaikbhdoaaRows
import Derived.WalkKit
import Derived.ProofKit
import Derived.OpenShut
import Derived.ShutString
import Derived.ChangeOld
import Derived.Below
import Derived.SizedLaws
-- FrRo
namespace Go.Proofs.Ytbgnkjaikbhdoaa.FrRo
open Go.RowKit Go.Proofs.Ytbgnkjaikbhdoaa.Pack Go.Proofs.Ytbgnkjaikbhdoaa.FrA Go.Proofs.Ytbgnkjaikbhdoaa.FrF Go.Proofs.Ytbgnkjaikbhdoaa.FrCrc Go.Proofs.Ytbgnkjaikbhdoaa.FrE Go.Proofs.Ytbgnkjaikbhdoaa.FrC Go.Proofs.Ytbgnkjaikbhdoaa.FrEn Go.Proofs.Ytbgnkjaikbhdoaa.FrT Go.Proofs.Ytbgnkjaikbhdoaa.Alg Go.Proofs.Ytbgnkjaikbhdoaa.WrText Go.Proofs.Ytbgnkjaikbhdoaa.PenFr
open Go.Proofs.Ytbgnkjaikbhdoaa.Bytes (Str)

theorem repeatL_one (c : UInt8) (n : Nat) : Lib.repeatL [c] n = List.replicate n c := by
  induction n with
  | zero => rfl
  | succ n ih => simp only [Lib.repeatL] at ih ⊢; simp [List.replicate_succ, ih]
theorem repeat_any (n : Nat) (h : n ≤ 1000) (w : World) : Calls Try.prog 24 #[.string ⟨#[120]⟩, .int .i64 n] w fun e w' => e = .returned (.string (Str (List.replicate n 120))) ∧ Below w.heap.size w w' := by
  have e := Try.strings_Repeat ⟨#[120]⟩ n w (by omega) (by show (#[120] : Array UInt8).size * n ≤ _; simp; omega)
  rw [show (⟨#[120]⟩ : ByteArray).data.toList = [120] from rfl, repeatL_one] at e
  exact e
theorem okF_data {k : Int} (hk : k ≠ 2) (s t l q x y er sl rk ep : Int) (d d' : List UInt8) : okF k s t l q x y er sl rk ep d = okF k s t l q x y er sl rk ep d' := by
  unfold okF; rw [if_neg hk, if_neg hk]
theorem bits_data {k : Int} (hk : k ≠ 2) (s t l q x y er sl rk ep : Int) (d d' : List UInt8) : (frBits k s t l q x y er sl rk ep d').length + 8 * d.length = (frBits k s t l q x y er sl rk ep d).length + 8 * d'.length := by
  unfold frBits moreBits
  rw [if_neg hk, if_neg hk]
  split
  · simp only [List.length_append, textBits_length]; omega
  · split
    · simp only [List.length_append, textBits_length]; omega
    · simp only [List.length_append, textBits_length]; omega
theorem bits_min {k : Int} (hk : k ≠ 2) (s t l q x y er sl rk ep : Int) (d : List UInt8) : 8 * d.length ≤ (frBits k s t l q x y er sl rk ep d).length := by
  have := bits_data hk s t l q x y er sl rk ep d []
  simp at this; omega
/-- A frame with room n. -/
theorem room_facts {k s t l q x y er sl rk ep : Int} {d : List UInt8} {n : Int} (h : roomF k s t l q x y er sl rk ep d = (n, 0)) :
    k ≠ 2 ∧ 0 ≤ n ∧ n ≤ 127 ∧ okF k s t l q x y er sl rk ep d = true ∧ ((pack (frBits k s t l q x y er sl rk ep d)).length : Int) = 125 - n := by
  unfold roomF at h
  by_cases hk : k = 2
  · rw [if_pos hk] at h; cases h
  · rw [if_neg hk] at h
    by_cases he : (encF k s t l q x y er sl rk ep d).2 = 0
    · rw [if_pos he] at h
      have hl := enc_len k s t l q x y er sl rk ep d
      have hn : 127 - ((encF k s t l q x y er sl rk ep d).1.length : Int) = n := (Prod.mk.inj h).1
      unfold encF at he hn hl
      by_cases h1 : okF k s t l q x y er sl rk ep d = false
      · rw [if_pos h1] at he; cases he
      · rw [if_neg h1] at he hn hl
        split at he
        · cases he
        · rename_i h2
          rw [if_neg h2] at hn hl
          split at he
          · cases he
          · rename_i h3
            rw [if_neg h3] at hn hl
            simp only [protect_length] at hn hl
            refine ⟨hk, by omega, by omega, ?_, by omega⟩
            cases g : okF k s t l q x y er sl rk ep d
            · exact absurd g h1
            · rfl
    · rw [if_neg he] at h; exact absurd (Prod.mk.inj h).2 he
theorem enc_more {k s t l q x y er sl rk ep : Int} {d : List UInt8} {n : Int} (h : roomF k s t l q x y er sl rk ep d = (n, 0)) (m : List UInt8) :
    (m.length = n.toNat → (encF k s t l q x y er sl rk ep (d ++ m)).2 = 0 ∧ (encF k s t l q x y er sl rk ep (d ++ m)).1.length = 127) ∧ (m.length = n.toNat + 1 → encF k s t l q x y er sl rk ep (d ++ m) = ([], 8)) := by
  obtain ⟨hk, h0, h1, ho, hp⟩ := room_facts h
  have ho' := okF_data hk s t l q x y er sl rk ep d (d ++ m)
  rw [ho] at ho'
  have hb := bits_data hk s t l q x y er sl rk ep d (d ++ m)
  have hm := bits_min hk s t l q x y er sl rk ep (d ++ m)
  rw [List.length_append] at hb hm
  rw [pack_length] at hp
  unfold encF
  rw [if_neg (by rw [← ho']; decide)]
  refine ⟨fun e => ?_, fun e => ?_⟩
  · rw [if_neg (by rw [List.length_append]; omega), if_neg (by rw [pack_length]; omega)]
    exact ⟨rfl, by rw [protect_length, pack_length]; omega⟩
  · by_cases h2 : k ≠ 2 ∧ 127 < (d ++ m).length
    · rw [if_pos h2]
    · rw [if_neg h2, if_pos (by rw [pack_length]; omega)]
theorem time_more {k s t l q x y er sl rk ep : Int} {d : List UInt8} (hk : k ≠ 2) (h : (encF k s t l q x y er sl rk ep d).2 = 0) (h1 : (encF k s t l q x y er sl rk ep d).1.length = 127) : timeF k s t l q x y er sl rk ep d = (4256, 0) := by
  unfold timeF; rw [if_pos h, if_neg hk, h1]; rfl
end Go.Proofs.Ytbgnkjaikbhdoaa.FrRo

-- FrRoW
namespace Go.Proofs.Ytbgnkjaikbhdoaa.FrRoW
open Go.RowKit Go.Proofs.Ytbgnkjaikbhdoaa.Pack Go.Proofs.Ytbgnkjaikbhdoaa.FrA Go.Proofs.Ytbgnkjaikbhdoaa.FrF Go.Proofs.Ytbgnkjaikbhdoaa.FrCrc Go.Proofs.Ytbgnkjaikbhdoaa.FrE Go.Proofs.Ytbgnkjaikbhdoaa.FrC Go.Proofs.Ytbgnkjaikbhdoaa.FrEn Go.Proofs.Ytbgnkjaikbhdoaa.FrT Go.Proofs.Ytbgnkjaikbhdoaa.FrAw Go.Proofs.Ytbgnkjaikbhdoaa.FrAt Go.Proofs.Ytbgnkjaikbhdoaa.FrRo Go.Proofs.Ytbgnkjaikbhdoaa.Alg
open Go.Proofs.Ytbgnkjaikbhdoaa.Bytes (Str)


theorem str_app (a b : List UInt8) : (Str a ++ Str b) = Str (a ++ b) := by apply ByteArray.ext; simp
set_option maxRecDepth 100000 in
set_option maxHeartbeats 8000000 in
theorem far (k s t l q x y er sl rk ep : Int) (d : List UInt8) (hd : 300 < d.length) (w : World) :
    Calls Try.prog 9 #[.agg (fr k s t l q x y er sl rk ep d)] w fun r w' => r = .returned (.bool true) ∧ Below w.heap.size w w' := by
  have es : (Str d).size = d.length := str_size d
  have e1 : decide ((300 : Int) < (d.length : Int)) = true := decide_eq_true (by omega)
  clear hd
  go_enter Try.func9, Try.ntmps9
  go_wp2_with fail
  refine (awake_any _).mono ?_
  rintro r w1 ⟨rfl, hb⟩
  have A1 : Hid (At w w1 w.heap.size (fr k s t l q x y er sl rk ep d)) := Lib.hid (boxed _ _ _ hb)
  clear hb
  have c0 := cell_of_row w1 _ 0 _ _ _ A1.out.1
  have c1 := cell_of_row w1 _ 1 _ _ _ A1.out.1
  have c2 := cell_of_row w1 _ 2 _ _ _ A1.out.1
  have c3 := cell_of_row w1 _ 3 _ _ _ A1.out.1
  have c4 := cell_of_row w1 _ 4 _ _ _ A1.out.1
  have c5 := cell_of_row w1 _ 5 _ _ _ A1.out.1
  have c6 := cell_of_row w1 _ 6 _ _ _ A1.out.1
  have c7 := cell_of_row w1 _ 7 _ _ _ A1.out.1
  have c8 := cell_of_row w1 _ 8 _ _ _ A1.out.1
  have c9 := cell_of_row w1 _ 9 _ _ _ A1.out.1
  have c10 := cell_of_row w1 _ 10 _ _ _ A1.out.1
  have c11 := cell_of_row w1 _ 11 _ _ _ A1.out.1
  try simp only [fr] at c0 c1 c2 c3 c4 c5 c6 c7 c8 c9 c10 c11
  go_wp2_with fail
  go_ret
  exact ⟨rfl, A1.out.2⟩
set_option maxRecDepth 100000 in
set_option maxHeartbeats 8000000 in
theorem bad (k s t l q x y er sl rk ep : Int) (d : List UInt8) (hd : d.length ≤ 300) (e : Int) (ht : roomF k s t l q x y er sl rk ep d = (0, e)) (he : decide (e = 0) = false) (w : World) :
    Calls Try.prog 9 #[.agg (fr k s t l q x y er sl rk ep d)] w fun r w' => r = .returned (.bool true) ∧ Below w.heap.size w w' := by
  have es : (Str d).size = d.length := str_size d
  have e1 : decide ((300 : Int) < (d.length : Int)) = false := decide_eq_false (by omega)
  clear hd
  have he2 : (e == 0) = false := he
  have HT := Lib.hid ht
  clear ht
  go_enter Try.func9, Try.ntmps9
  go_wp2_with fail
  refine (awake_any _).mono ?_
  rintro r w1 ⟨rfl, hb⟩
  have A1 : Hid (At w w1 w.heap.size (fr k s t l q x y er sl rk ep d)) := Lib.hid (boxed _ _ _ hb)
  clear hb
  have c0 := cell_of_row w1 _ 0 _ _ _ A1.out.1
  have c1 := cell_of_row w1 _ 1 _ _ _ A1.out.1
  have c2 := cell_of_row w1 _ 2 _ _ _ A1.out.1
  have c3 := cell_of_row w1 _ 3 _ _ _ A1.out.1
  have c4 := cell_of_row w1 _ 4 _ _ _ A1.out.1
  have c5 := cell_of_row w1 _ 5 _ _ _ A1.out.1
  have c6 := cell_of_row w1 _ 6 _ _ _ A1.out.1
  have c7 := cell_of_row w1 _ 7 _ _ _ A1.out.1
  have c8 := cell_of_row w1 _ 8 _ _ _ A1.out.1
  have c9 := cell_of_row w1 _ 9 _ _ _ A1.out.1
  have c10 := cell_of_row w1 _ 10 _ _ _ A1.out.1
  have c11 := cell_of_row w1 _ 11 _ _ _ A1.out.1
  try simp only [fr] at c0 c1 c2 c3 c4 c5 c6 c7 c8 c9 c10 c11
  go_wp2_with fail
  refine (room_any k s t l q x y er sl rk ep d _ HT.out _).mono ?_
  rintro r w2 ⟨rfl, hb⟩
  have A2 := Lib.hid (A1.out.later hb)
  clear hb A1 c0 c1 c2 c3 c4 c5 c6 c7 c8 c9 c10 c11
  go_wp2_with fail
  go_ret
  exact ⟨rfl, A2.out.2⟩
set_option maxRecDepth 100000 in
set_option maxHeartbeats 8000000 in
theorem good (k s t l q x y er sl rk ep : Int) (d : List UInt8) (hd : d.length ≤ 300) (n : Nat) (m : List UInt8) (hml : m.length = n) (hrep : ∀ w : World, Calls Try.prog 24 #[.string ⟨#[120]⟩, .int .i64 (n : Int)] w fun e w' => e = .returned (.string (Str m)) ∧ Below w.heap.size w w') (ht : roomF k s t l q x y er sl rk ep d = ((n : Int), 0)) (u1 : decide ((n : Int) < 0) = false) (u2 : decide ((127 : Int) < (n : Int)) = false) (p : List UInt8) (hp : encF k s t l q x y er sl rk ep (d ++ m) = (p, 0)) (hpl : p.length = 127) (htm : timeF k s t l q x y er sl rk ep (d ++ m) = (4256, 0)) (hq : encF k s t l q x y er sl rk ep ((d ++ m) ++ [120]) = ([], 8)) (w : World) :
    Calls Try.prog 9 #[.agg (fr k s t l q x y er sl rk ep d)] w fun r w' => r = .returned (.bool true) ∧ Below w.heap.size w w' := by
  have es : (Str d).size = d.length := str_size d
  have e1 : decide ((300 : Int) < (d.length : Int)) = false := decide_eq_false (by omega)
  have HT := Lib.hid ht
  have HP := Lib.hid hp
  have HTM := Lib.hid htm
  have HQ := Lib.hid hq
  have hps : (Str p).size = 127 := by rw [str_size, hpl]
  have hn : n ≤ 127 := by have := of_decide_eq_false u2; omega
  have esm : (Str m).size = n := by rw [str_size, hml]
  have HREP := Lib.hid hrep
  have hdm : (d ++ m).length ≤ 427 := by rw [List.length_append]; omega
  have HDM := Lib.hid hdm
  clear ht hp htm hq hpl hrep hml hdm
  go_enter Try.func9, Try.ntmps9
  go_wp2_with fail
  refine (awake_any _).mono ?_
  rintro r w1 ⟨rfl, hb⟩
  have A1 : Hid (At w w1 w.heap.size (fr k s t l q x y er sl rk ep d)) := Lib.hid (boxed _ _ _ hb)
  clear hb
  have c0 := cell_of_row w1 _ 0 _ _ _ A1.out.1
  have c1 := cell_of_row w1 _ 1 _ _ _ A1.out.1
  have c2 := cell_of_row w1 _ 2 _ _ _ A1.out.1
  have c3 := cell_of_row w1 _ 3 _ _ _ A1.out.1
  have c4 := cell_of_row w1 _ 4 _ _ _ A1.out.1
  have c5 := cell_of_row w1 _ 5 _ _ _ A1.out.1
  have c6 := cell_of_row w1 _ 6 _ _ _ A1.out.1
  have c7 := cell_of_row w1 _ 7 _ _ _ A1.out.1
  have c8 := cell_of_row w1 _ 8 _ _ _ A1.out.1
  have c9 := cell_of_row w1 _ 9 _ _ _ A1.out.1
  have c10 := cell_of_row w1 _ 10 _ _ _ A1.out.1
  have c11 := cell_of_row w1 _ 11 _ _ _ A1.out.1
  try simp only [fr] at c0 c1 c2 c3 c4 c5 c6 c7 c8 c9 c10 c11
  go_wp2_with fail
  refine (room_any k s t l q x y er sl rk ep d _ HT.out _).mono ?_
  rintro r w2 ⟨rfl, hb⟩
  have A2 := Lib.hid (A1.out.later hb)
  clear hb A1 HT c0 c1 c2 c3 c4 c5 c6 c7 c8 c9 c10 c11
  have c0 := cell_of_row w2 _ 0 _ _ _ A2.out.1
  have c1 := cell_of_row w2 _ 1 _ _ _ A2.out.1
  have c2 := cell_of_row w2 _ 2 _ _ _ A2.out.1
  have c3 := cell_of_row w2 _ 3 _ _ _ A2.out.1
  have c4 := cell_of_row w2 _ 4 _ _ _ A2.out.1
  have c5 := cell_of_row w2 _ 5 _ _ _ A2.out.1
  have c6 := cell_of_row w2 _ 6 _ _ _ A2.out.1
  have c7 := cell_of_row w2 _ 7 _ _ _ A2.out.1
  have c8 := cell_of_row w2 _ 8 _ _ _ A2.out.1
  have c9 := cell_of_row w2 _ 9 _ _ _ A2.out.1
  have c10 := cell_of_row w2 _ 10 _ _ _ A2.out.1
  have c11 := cell_of_row w2 _ 11 _ _ _ A2.out.1
  try simp only [fr] at c0 c1 c2 c3 c4 c5 c6 c7 c8 c9 c10 c11
  go_wp2_with fail
  have hlt2 : w.heap.size < w2.heap.size := A2.out.lt
  have A2D := Lib.hid (At.drew A2.out)
  go_region_with ((go_at_call 24; refine (HREP.out _).mono ?_; rintro r w3 ⟨rfl, hb3⟩; have A3 := Lib.hid (At.later A2D.out hb3); have d11 := cell_of_row w3 _ 11 _ _ _ A3.out.1; have f11 := fun j => frozen_of_row w3 _ j _ _ A3.out.1; simp only [fr] at d11; have g11 := f11 11; clear hb3 f11))
  all_goals (try (exfalso; omega))
  all_goals rw [str_app]
  all_goals have A4 := Lib.hid (At.set A3.out (Nat.le_refl _) 11 (.string (Str (d ++ m))) (fr k s t l q x y er sl rk ep (d ++ m)) rfl)
  all_goals clear A3 d11 g11 hlt2 A2D A2 c0 c1 c2 c3 c4 c5 c6 c7 c8 c9 c10 c11
  all_goals generalize World.setCell w3 _ _ = w4 at A4 ⊢
  all_goals generalize d ++ m = dm at *
  all_goals
    have hdm := HDM.out
    have esd : (Str dm).size = dm.length := str_size dm
    clear es e1 u1 u2 hd esm HREP
    have c0 := cell_of_row w4 _ 0 _ _ _ A4.out.1
    have c1 := cell_of_row w4 _ 1 _ _ _ A4.out.1
    have c2 := cell_of_row w4 _ 2 _ _ _ A4.out.1
    have c3 := cell_of_row w4 _ 3 _ _ _ A4.out.1
    have c4 := cell_of_row w4 _ 4 _ _ _ A4.out.1
    have c5 := cell_of_row w4 _ 5 _ _ _ A4.out.1
    have c6 := cell_of_row w4 _ 6 _ _ _ A4.out.1
    have c7 := cell_of_row w4 _ 7 _ _ _ A4.out.1
    have c8 := cell_of_row w4 _ 8 _ _ _ A4.out.1
    have c9 := cell_of_row w4 _ 9 _ _ _ A4.out.1
    have c10 := cell_of_row w4 _ 10 _ _ _ A4.out.1
    have c11 := cell_of_row w4 _ 11 _ _ _ A4.out.1
    try simp only [fr] at c0 c1 c2 c3 c4 c5 c6 c7 c8 c9 c10 c11
    go_wp2_with fail
    ((with_reducible refine (encode_any k s t l q x y er sl rk ep dm _ HP.out _).mono ?_); rintro r w5 ⟨rfl, hb⟩)
    have A5 := Lib.hid (A4.out.later hb)
    clear hb A4 HP c0 c1 c2 c3 c4 c5 c6 c7 c8 c9 c10 c11
    have c0 := cell_of_row w5 _ 0 _ _ _ A5.out.1
    have c1 := cell_of_row w5 _ 1 _ _ _ A5.out.1
    have c2 := cell_of_row w5 _ 2 _ _ _ A5.out.1
    have c3 := cell_of_row w5 _ 3 _ _ _ A5.out.1
    have c4 := cell_of_row w5 _ 4 _ _ _ A5.out.1
    have c5 := cell_of_row w5 _ 5 _ _ _ A5.out.1
    have c6 := cell_of_row w5 _ 6 _ _ _ A5.out.1
    have c7 := cell_of_row w5 _ 7 _ _ _ A5.out.1
    have c8 := cell_of_row w5 _ 8 _ _ _ A5.out.1
    have c9 := cell_of_row w5 _ 9 _ _ _ A5.out.1
    have c10 := cell_of_row w5 _ 10 _ _ _ A5.out.1
    have c11 := cell_of_row w5 _ 11 _ _ _ A5.out.1
    try simp only [fr] at c0 c1 c2 c3 c4 c5 c6 c7 c8 c9 c10 c11
    go_wp2_with fail
    ((with_reducible refine (time_any k s t l q x y er sl rk ep dm _ HTM.out _).mono ?_); rintro r w6 ⟨rfl, hb⟩)
    have A6 := Lib.hid (A5.out.later hb)
    clear hb A5 HTM c0 c1 c2 c3 c4 c5 c6 c7 c8 c9 c10 c11
    have c0 := cell_of_row w6 _ 0 _ _ _ A6.out.1
    have c1 := cell_of_row w6 _ 1 _ _ _ A6.out.1
    have c2 := cell_of_row w6 _ 2 _ _ _ A6.out.1
    have c3 := cell_of_row w6 _ 3 _ _ _ A6.out.1
    have c4 := cell_of_row w6 _ 4 _ _ _ A6.out.1
    have c5 := cell_of_row w6 _ 5 _ _ _ A6.out.1
    have c6 := cell_of_row w6 _ 6 _ _ _ A6.out.1
    have c7 := cell_of_row w6 _ 7 _ _ _ A6.out.1
    have c8 := cell_of_row w6 _ 8 _ _ _ A6.out.1
    have c9 := cell_of_row w6 _ 9 _ _ _ A6.out.1
    have c10 := cell_of_row w6 _ 10 _ _ _ A6.out.1
    have c11 := cell_of_row w6 _ 11 _ _ _ A6.out.1
    try simp only [fr] at c0 c1 c2 c3 c4 c5 c6 c7 c8 c9 c10 c11
    have f11 := frozen_of_row w6 _ 11 _ _ A6.out.1
    go_wp2_with fail
    rw [show (Str dm ++ (⟨#[120]⟩ : ByteArray)) = Str (dm ++ [120]) from str_app dm [120]]
    have A7 := Lib.hid (At.set A6.out (Nat.le_refl _) 11 (.string (Str (dm ++ [120]))) (fr k s t l q x y er sl rk ep (dm ++ [120])) rfl)
    clear A6 f11 c0 c1 c2 c3 c4 c5 c6 c7 c8 c9 c10 c11
    generalize World.setCell w6 _ _ = w7 at A7 ⊢
    generalize dm ++ [120] = dl at *
    ((with_reducible refine (encode_any k s t l q x y er sl rk ep dl _ HQ.out _).mono ?_); rintro r w8 ⟨rfl, hb⟩)
    have A8 := Lib.hid (A7.out.later hb)
    clear hb A7 HQ
    go_wp2_with fail
    go_ret
    exact ⟨rfl, A8.out.2⟩
theorem walk (k s t l q x y er sl rk ep : Int) (dd : ByteArray) (w : World) (_ : (Lit.int .i64 k).wf = true) (_ : (Lit.int .i64 s).wf = true) (_ : (Lit.int .i64 t).wf = true) (_ : (Lit.int .i64 l).wf = true) (_ : (Lit.int .i64 q).wf = true) (_ : (Lit.int .i64 x).wf = true) (_ : (Lit.int .i64 y).wf = true) (_ : (Lit.int .i64 er).wf = true) (_ : (Lit.int .i64 sl).wf = true) (_ : (Lit.int .i64 rk).wf = true) (_ : (Lit.int .i64 ep).wf = true) (_ : dd.size ≤ maxLen) :
    Calls Try.prog 9 #[.agg #[.int .i64 k, .int .i64 s, .int .i64 t, .int .i64 l, .int .i64 q, .int .i64 x, .int .i64 y, .int .i64 er, .int .i64 sl, .int .i64 rk, .int .i64 ep, .string dd]] w fun r w' => r = .returned (.bool true) ∧ Below w.heap.size w w' := by
  obtain ⟨d, rfl⟩ := str_of dd
  by_cases hd : 300 < d.length
  · exact far k s t l q x y er sl rk ep d hd w
  · have hd : d.length ≤ 300 := by omega
    by_cases h0 : (roomF k s t l q x y er sl rk ep d).2 = 0
    · have hr : roomF k s t l q x y er sl rk ep d = ((roomF k s t l q x y er sl rk ep d).1, 0) := Prod.ext rfl h0
      obtain ⟨hk, n0, n1, _, _⟩ := room_facts hr
      obtain ⟨n, hn⟩ := Int.eq_ofNat_of_zero_le n0
      rw [hn] at hr n1
      have hm : (List.replicate n (120 : UInt8)).length = n := by simp
      have hnn : ((n : Int)).toNat = n := by simp
      have h1 := enc_more hr (List.replicate n 120)
      have h2 := enc_more hr (List.replicate n 120 ++ [120])
      rw [hnn] at h1 h2
      obtain ⟨e0, e1⟩ := h1.1 hm
      have e2 := h2.2 (by rw [List.length_append, hm]; rfl)
      rw [← List.append_assoc] at e2
      exact good k s t l q x y er sl rk ep d hd n (List.replicate n 120) hm (fun w => repeat_any n (by omega) w) hr (decide_eq_false (by omega)) (decide_eq_false (by omega)) _ (Prod.ext rfl e0) e1 (time_more hk e0 e1) e2 w
    · have hz : (roomF k s t l q x y er sl rk ep d).1 = 0 := by
        unfold roomF at h0 ⊢
        split
        · rfl
        · rename_i hk
          rw [if_neg hk] at h0
          split
          · rename_i hk2; rw [if_pos hk2] at h0; exact absurd rfl h0
          · rfl
      exact bad k s t l q x y er sl rk ep d hd _ (Prod.ext hz rfl) (decide_eq_false h0) w
end Go.Proofs.Ytbgnkjaikbhdoaa.FrRoW

-- LawFrameRooms
namespace Go.Proofs.Ytbgnkjaikbhdoaa.frameRooms
open Go.ChangeShapes Go.WideShapes Go.ChangeAt Go.RowKit Go.Proofs.Ytbgnkjaikbhdoaa.Opn
open Go.ChangeMaps (open_string shut_string)
set_option linter.unusedVariables false
theorem own : ownKnob Try.prog.godebug = none := by kernel_rfl
theorem laidOut : laidOutB Try.prog = true := by kernel_rfl
set_option maxRecDepth 100000 in
set_option maxHeartbeats 1000000 in
theorem lifted (os : Os) (started : os.Started) (H : Type) (enc : TypeId × Value → H) :
    ReturnsInHanded {} Try.checked os 9 .any (Rows.frameRoomsSpec.pre6 enc Try.prog Try.f9 Rows.frameRoomsRow.domain false) (Rows.frameRoomsSpec.post enc Try.prog Try.f9 false true false false) := by
  refine returnsInHanded_of_change_sized (C := Try.checked) own started (by kernel_rfl) Try.func9
    (ChangeSpec.witness6 (enc := enc) (C := Try.checked) false ⟨#[], #[.agg #[.int .i64 0, .int .i64 0, .int .i64 0, .int .i64 0, .int .i64 0, .int .i64 0, .int .i64 0, .int .i64 0, .int .i64 0, .int .i64 0, .int .i64 0, .string ByteArray.empty]], []⟩ 8 (by kernel_rfl) (by kernel_rfl) (by kernel_rfl) (by kernel_rfl)) ?_
  intro W base args ds gs before hval0 hW hcnd hsz0 _
  have hsz : (DataW.weightsEach Try.prog (Try.f9.params.toList ++ Rows.frameRoomsSpec.plain.varTypes Try.prog) (ds ++ gs)).all (· ≤ reachBytes) = true := hsz0
  have hval : ∀ (j : Nat) t v, Try.f9.params[j]? = some t → args[j]? = some v → Value.okWide Try.prog W .any base t v := hval0
  have hW' := hW
  obtain ⟨p, q, hA0, hV, rfl, hfz, hnd⟩ := hW
  have hA : DataW.TrodAll enc Try.prog W 0 (fun _ => true) true Try.f9.params.toList args.toList ds p := hA0
  rw [Try.params9] at hA hval hsz
  obtain ⟨v0, vs0, d0, ds0, p0, q0, hargs, rfl, rfl, h0, r0⟩ := trodAll_cons hA
  obtain ⟨rfl, rfl, rfl⟩ := trodAll_nil r0
  obtain rfl : args = #[v0] := by cases args; simp_all
  obtain ⟨rfl, rfl⟩ := trodVars_none hV
  have k0 := h0
  have lt0 : ∀ x ∈ p0, x.block < W.heap.size := by obtain ⟨m, hm⟩ := k0; exact DataW.trod_lt m _ _ _ hm
  obtain ⟨cs0, rfl, hn0⟩ := okWide_struct Try.underlying23 (hval 0 23 v0 rfl rfl)
  have g0 := rd_struct Try.underlying23 (rd_of h0)
  have hc0 : Try.prog.cellsOf 23 = 12 := by kernel_rfl
  rw [hc0] at hn0
  obtain ⟨c0_0, c0_1, c0_2, c0_3, c0_4, c0_5, c0_6, c0_7, c0_8, c0_9, c0_10, c0_11, rfl⟩ := cells12 hn0
  have e0_0 : Rd enc Try.prog W 3 [c0_0] := g0 0 _ rfl
  obtain ⟨a0_0, rfl, w0_0⟩ := rd_int Try.underlying3 e0_0
  have e0_1 : Rd enc Try.prog W 3 [c0_1] := g0 1 _ rfl
  obtain ⟨a0_1, rfl, w0_1⟩ := rd_int Try.underlying3 e0_1
  have e0_2 : Rd enc Try.prog W 3 [c0_2] := g0 2 _ rfl
  obtain ⟨a0_2, rfl, w0_2⟩ := rd_int Try.underlying3 e0_2
  have e0_3 : Rd enc Try.prog W 3 [c0_3] := g0 3 _ rfl
  obtain ⟨a0_3, rfl, w0_3⟩ := rd_int Try.underlying3 e0_3
  have e0_4 : Rd enc Try.prog W 3 [c0_4] := g0 4 _ rfl
  obtain ⟨a0_4, rfl, w0_4⟩ := rd_int Try.underlying3 e0_4
  have e0_5 : Rd enc Try.prog W 3 [c0_5] := g0 5 _ rfl
  obtain ⟨a0_5, rfl, w0_5⟩ := rd_int Try.underlying3 e0_5
  have e0_6 : Rd enc Try.prog W 3 [c0_6] := g0 6 _ rfl
  obtain ⟨a0_6, rfl, w0_6⟩ := rd_int Try.underlying3 e0_6
  have e0_7 : Rd enc Try.prog W 3 [c0_7] := g0 7 _ rfl
  obtain ⟨a0_7, rfl, w0_7⟩ := rd_int Try.underlying3 e0_7
  have e0_8 : Rd enc Try.prog W 3 [c0_8] := g0 8 _ rfl
  obtain ⟨a0_8, rfl, w0_8⟩ := rd_int Try.underlying3 e0_8
  have e0_9 : Rd enc Try.prog W 3 [c0_9] := g0 9 _ rfl
  obtain ⟨a0_9, rfl, w0_9⟩ := rd_int Try.underlying3 e0_9
  have e0_10 : Rd enc Try.prog W 3 [c0_10] := g0 10 _ rfl
  obtain ⟨a0_10, rfl, w0_10⟩ := rd_int Try.underlying3 e0_10
  have e0_11 : Rd enc Try.prog W 9 [c0_11] := g0 11 _ rfl
  obtain ⟨a0_11, rfl, w0_11⟩ := rd_string Try.underlying9 e0_11
  clear hA0 hval0 hsz0 hsz
  refine (FrRoW.walk a0_0 a0_1 a0_2 a0_3 a0_4 a0_5 a0_6 a0_7 a0_8 a0_9 a0_10 a0_11 W w0_0 w0_1 w0_2 w0_3 w0_4 w0_5 w0_6 w0_7 w0_8 w0_9 w0_10 w0_11).mono fun e W' ⟨he, bel⟩ => ?_
  subst he
  exact ⟨_, rfl, _, _, _, [], _, [], hW', trodAll_mk1 (shut_bool Try.underlying4 _), (trodAll_cons_mk (Below.trod laidOut (by kernel_rfl) (of_decide_eq_true (by kernel_rfl)) k0 bel lt0) trodAll_mk0), rfl, bel.frame _, fun h => by cases h⟩
theorem over : Rows.frameRoomsRow.holds Try.pinned (OpenSpec.ofChange Rows.frameRoomsSpec) :=
  OpenClaim.holds_of_wide 9 Try.f9 rfl rfl rfl rfl rfl rfl rfl ⟨rfl, rfl, rfl, rfl, rfl⟩ rfl rfl rfl rfl rfl (by kernel_rfl) Try.func9 (by kernel_rfl)
    (of_decide_eq_true (by kernel_rfl)) (by unfold Func.isWrapper; first | (rw [if_pos (by decide +kernel)]; kernel_rfl) | (rw [if_neg (by decide +kernel)]; exact ⟨rfl, rfl⟩))
    (fun os started H enc _ => lifted os started H enc)
theorem proved : Rows.FrameRoomsSaid := over
#print axioms proved
end Go.Proofs.Ytbgnkjaikbhdoaa.frameRooms
namespace Go.Proofs.Ytbgnkjaikbhdoaa
/-- The row, under a short name, for the claim. -/
theorem frameRooms_holds : Rows.FrameRoomsSaid := frameRooms.proved
end Go.Proofs.Ytbgnkjaikbhdoaa
