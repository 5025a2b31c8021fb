-- Written by a program of this session (wip/print2.py, over the kit's print) out of the translation. Lean checks it.
import Derived.Test.YtkhkmmabbpfngaaQ0
import Derived.Test.YtkhkmmabbpfngaaQ1
namespace Go.Proofs.Ytkhkmmabbpfngaa.Q
open Go.RowKit Go.Proofs.YtkhkmmabbpfngaaW.PrintWords Go.Proofs.YtkhkmmabbpfngaaW.PrintLast Go.Proofs.YtkhkmmabbpfngaaW.PrintMore
attribute [local go_sem] max2_int min2_int max_two min_two max_three min_three max_four min_four   -- for this text's walks alone
set_option linter.unusedVariables false
set_option linter.unusedSimpArgs false

/-! ### hopmeshref03_Multiply: function 13 -/
def hopmeshref03_Multiply.l0 : Nat → Int → Int → Int → Int → Option (Int)
  | 0, _, _, _, _ => none
  | k + 1, x0, x1, x5, x6 => if x6 ≥ 0 then ((hopmeshref03_Times.f x5).bind fun t120 => (if 0 ≤ x6 then (if (Go.bits .and .u16 (shr .u16 x1 x6) 1) = 1 then (hopmeshref03_Multiply.l0 k x0 x1 (Go.bits .xor .u16 t120 x0) (wrap64 (x6 - 1))) else (hopmeshref03_Multiply.l0 k x0 x1 t120 (wrap64 (x6 - 1)))) else (none))) else (some x5)
def hopmeshref03_Multiply.f (k : Nat) (a0 : Int) (a1 : Int) : Option (Int) := hopmeshref03_Multiply.l0 k a0 a1 0 15
theorem hopmeshref03_Multiply.mono_l : ∀ k, (∀ y0 y1 y2 y3, LeO (hopmeshref03_Multiply.l0 k y0 y1 y2 y3) (hopmeshref03_Multiply.l0 (k + 1) y0 y1 y2 y3))
  | 0 => fun _ _ _ _ r h => by simp [hopmeshref03_Multiply.l0] at h
  | k + 1 => by
    have ih0 := hopmeshref03_Multiply.mono_l k
    · intro y0 y1 y2 y3
      unfold hopmeshref03_Multiply.l0
      repeat' first
      | (with_reducible exact ih0 _ _ _ _)
      | (with_reducible exact LeO.refl _)
      | (with_reducible exact LeO.none _)
      | (with_reducible refine LeO.ite ?_ ?_)
      | (with_reducible refine LeO.bind ?_ (fun _ => ?_))
      | exact ih0 _ _ _ _
      | exact LeO.none _
      | refine LeO.ite ?_ ?_
      | refine LeO.bind ?_ (fun _ => ?_)
theorem hopmeshref03_Multiply.mono : ∀ a0 a1 k, LeO (hopmeshref03_Multiply.f k a0 a1) (hopmeshref03_Multiply.f (k + 1) a0 a1) := by
  intro a0 a1 k
  have ih0 := hopmeshref03_Multiply.mono_l k
  unfold hopmeshref03_Multiply.f
  repeat' first
      | (with_reducible exact ih0 _ _ _ _)
      | (with_reducible exact LeO.refl _)
      | (with_reducible exact LeO.none _)
      | (with_reducible refine LeO.ite ?_ ?_)
      | (with_reducible refine LeO.bind ?_ (fun _ => ?_))
      | exact ih0 _ _ _ _
      | exact LeO.none _
      | refine LeO.ite ?_ ?_
      | refine LeO.bind ?_ (fun _ => ?_)
set_option maxHeartbeats 8000000 in
set_option maxRecDepth 100000 in
theorem hopmeshref03_Multiply.calls (k : Nat) (a0 : Int) (a1 : Int) (r : Int) (w : World) (h : hopmeshref03_Multiply.f k a0 a1 = some r) :
    Calls Try.prog 13 #[.int .u16 a0, .int .u16 a1] w fun e w' => e = .returned (.int .u16 r) ∧ Drawn0 w w' := by
  have H : (hopmeshref03_Multiply.l0 k a0 a1 0 15) = some r := h
  clear h
  have H' := Aside0.mk H
  clear H
  go_enter Try.func13, Try.ntmps13
  go_wp2
  go_loopg [5, 6] k (fun kq v5 v6 w' => ∃ (x5_1 : Int) (x6_1 : Int), v5 = .int .u16 x5_1 ∧ v6 = .int .i64 x6_1 ∧ Aside0 (hopmeshref03_Multiply.l0 kq a0 a1 x5_1 x6_1 = some r) ∧ Aside0 (kq ≤ k) ∧ Drawn0 w w')
  case atStart => exact ⟨(0), (15), (by first | rfl | (simp; done) | (simp [*]; done)), (by first | rfl | (simp; done) | (simp [*]; done)), H', ⟨Nat.le_refl _⟩, by repeat (first | exact Drawn0.refl _ | apply Drawn0.step)⟩
  case round =>
    clear H'
    try clear c1
    try clear p2
    obtain ⟨x5_1, x6_1, rfl, rfl, HA, HK1, ⟨m1, rfl⟩⟩ := hrel
    cases gk with
    | zero => exact absurd HA.out (by simp [hopmeshref03_Multiply.l0])
    | succ k1 =>
      have H := HA.out
      clear HA
      simp only [hopmeshref03_Multiply.l0] at H
      by_cases c3 : x6_1 ≥ 0
      · rw [if_pos c3] at H
        have c3b0 : decide (0 ≤ x6_1) = true := decide_eq_true c3
        clear c3
        replace H := Option.bind_eq_some_iff.mp H
        obtain ⟨t120, A40, H⟩ := H
        replace H : (if 0 ≤ x6_1 then (if (Go.bits .and .u16 (shr .u16 a1 x6_1) 1) = 1 then (hopmeshref03_Multiply.l0 k1 a0 a1 (Go.bits .xor .u16 t120 a0) (wrap64 (x6_1 - 1))) else (hopmeshref03_Multiply.l0 k1 a0 a1 t120 (wrap64 (x6_1 - 1)))) else (none)) = some r := H
        have A4 := Aside0.mk A40
        clear A40
        by_cases c5 : 0 ≤ x6_1
        · rw [if_pos c5] at H
          have c5b0 := eq_true c5
          have c5b1 : decide (0 ≤ x6_1) = true := decide_eq_true c5
          clear c5
          obtain ⟨ji6, hji6⟩ : ∃ j_ : Int, (shr .u16 a1 x6_1) = j_ := ⟨_, rfl⟩
          replace H : (if (Go.bits .and .u16 (ji6) 1) = 1 then (hopmeshref03_Multiply.l0 k1 a0 a1 (Go.bits .xor .u16 t120 a0) (wrap64 (x6_1 - 1))) else (hopmeshref03_Multiply.l0 k1 a0 a1 t120 (wrap64 (x6_1 - 1)))) = some r := by first | (rw [hji6] at H; exact H) | (simp only [hji6] at H ⊢; exact H)
          (try rw [hji6] at A4)
          have hji6_ : (a1 / 2 ^ min x6_1.toNat 16) = ji6 := hji6
          have hji6z : x6_1 ≤ 16 → (a1 / 2 ^ x6_1.toNat) = ji6 := shr_small hji6
          by_cases c7 : (Go.bits .and .u16 (ji6) 1) = 1
          · rw [if_pos c7] at H
            have c7b0 : ((Go.bits .and .u16 (ji6) 1) == 1) = true := beq_iff_eq.mpr c7
            have c7b1 : ((Go.bits .and .u16 (ji6) 1) != 1) = false := bne_eq_false_iff_eq.mpr c7
            clear c7
            have H' := Aside0.mk H
            clear H
            go_wp2_with (first | ((with_reducible refine gate_callee (f := 28) rfl ?_); refine goesL_ (some 12) rfl rfl Try.func28 (by kernel_rfl) rfl #[.int .u16 x5_1] rfl (by (try simp only [List.map_toArray, List.map_cons, List.map_nil]); first | done | rfl | (simp only [List.length_drop, List.length_take]; rfl)) ?_; (with_reducible refine (hopmeshref03_Times.calls x5_1 t120 _ A4.out).mono ?_); rintro e w' ⟨rfl, ⟨nd, rfl⟩⟩; refine ⟨_, rfl, ?_⟩))
            go_roundg k1
            case measure => have := HK1.out; omega
            case rel => exact ⟨(Go.bits .xor .u16 t120 a0), (wrap64 (x6_1 - 1)), (by first | rfl | (simp; done) | (simp [*]; done)), (by first | rfl | (simp; done) | (simp [*]; done)), H', ⟨by have := HK1.out; omega⟩, by repeat (first | exact Drawn0.refl _ | apply Drawn0.step)⟩
          · rw [if_neg c7] at H
            have c7b0 : ((Go.bits .and .u16 (ji6) 1) == 1) = false := beq_eq_false_iff_ne.mpr c7
            have c7b1 : ((Go.bits .and .u16 (ji6) 1) != 1) = true := bne_iff_ne.mpr c7
            have H' := Aside0.mk H
            clear H
            go_wp2_with (first | ((with_reducible refine gate_callee (f := 28) rfl ?_); refine goesL_ (some 12) rfl rfl Try.func28 (by kernel_rfl) rfl #[.int .u16 x5_1] rfl (by (try simp only [List.map_toArray, List.map_cons, List.map_nil]); first | done | rfl | (simp only [List.length_drop, List.length_take]; rfl)) ?_; (with_reducible refine (hopmeshref03_Times.calls x5_1 t120 _ A4.out).mono ?_); rintro e w' ⟨rfl, ⟨nd, rfl⟩⟩; refine ⟨_, rfl, ?_⟩))
            go_roundg k1
            case measure => have := HK1.out; omega
            case rel => exact ⟨(t120), (wrap64 (x6_1 - 1)), (by first | rfl | (simp; done) | (simp [*]; done)), (by first | rfl | (simp; done) | (simp [*]; done)), H', ⟨by have := HK1.out; omega⟩, by repeat (first | exact Drawn0.refl _ | apply Drawn0.step)⟩
        · rw [if_neg c5] at H
          exact absurd H (by simp)
      · rw [if_neg c3] at H
        have c3b0 : decide (0 ≤ x6_1) = false := decide_eq_false c3
        clear c3
        obtain rfl := Option.some.inj H
        go_wp2
        go_ret
        exact ⟨by first | rfl | (simp; done) | (simp [*]; done), by repeat (first | exact Drawn0.refl _ | apply Drawn0.step)⟩

/-! ### hopmeshref03_Power: function 15 -/
def hopmeshref03_Power.l0 : Nat → Int → Int → Int → Option (Int)
  | 0, _, _, _ => none
  | k + 1, x0, x3, x4 => if x0 > 0 then (if (Int.tmod x0 2) = 1 then ((hopmeshref03_Multiply.f k x3 x4).bind fun t121 => ((hopmeshref03_Multiply.f k x4 x4).bind fun t122 => (hopmeshref03_Power.l0 k (wrap64 (Int.tdiv x0 2)) t121 t122))) else ((hopmeshref03_Multiply.f k x4 x4).bind fun t123 => (hopmeshref03_Power.l0 k (wrap64 (Int.tdiv x0 2)) x3 t123))) else (some x3)
def hopmeshref03_Power.f (k : Nat) (a0 : Int) : Option (Int) := if a0 < 0 then (some 0) else (hopmeshref03_Power.l0 k a0 1 2)
theorem hopmeshref03_Power.mono_l : ∀ k, (∀ y0 y1 y2, LeO (hopmeshref03_Power.l0 k y0 y1 y2) (hopmeshref03_Power.l0 (k + 1) y0 y1 y2))
  | 0 => fun _ _ _ r h => by simp [hopmeshref03_Power.l0] at h
  | k + 1 => by
    have ih0 := hopmeshref03_Power.mono_l k
    · intro y0 y1 y2
      unfold hopmeshref03_Power.l0
      repeat' first
      | (with_reducible exact ih0 _ _ _)
      | (with_reducible exact hopmeshref03_Multiply.mono _ _ _)
      | (with_reducible exact LeO.refl _)
      | (with_reducible exact LeO.none _)
      | (with_reducible refine LeO.ite ?_ ?_)
      | (with_reducible refine LeO.bind ?_ (fun _ => ?_))
      | exact ih0 _ _ _
      | exact hopmeshref03_Multiply.mono _ _ _
      | exact LeO.none _
      | refine LeO.ite ?_ ?_
      | refine LeO.bind ?_ (fun _ => ?_)
theorem hopmeshref03_Power.mono : ∀ a0 k, LeO (hopmeshref03_Power.f k a0) (hopmeshref03_Power.f (k + 1) a0) := by
  intro a0 k
  have ih0 := hopmeshref03_Power.mono_l k
  unfold hopmeshref03_Power.f
  repeat' first
      | (with_reducible exact ih0 _ _ _)
      | (with_reducible exact hopmeshref03_Multiply.mono _ _ _)
      | (with_reducible exact LeO.refl _)
      | (with_reducible exact LeO.none _)
      | (with_reducible refine LeO.ite ?_ ?_)
      | (with_reducible refine LeO.bind ?_ (fun _ => ?_))
      | exact ih0 _ _ _
      | exact hopmeshref03_Multiply.mono _ _ _
      | exact LeO.none _
      | refine LeO.ite ?_ ?_
      | refine LeO.bind ?_ (fun _ => ?_)
set_option maxHeartbeats 8000000 in
set_option maxRecDepth 100000 in
theorem hopmeshref03_Power.calls (k : Nat) (a0 : Int) (r : Int) (w : World) (h : hopmeshref03_Power.f k a0 = some r) :
    Calls Try.prog 15 #[.int .i64 a0] w fun e w' => e = .returned (.int .u16 r) ∧ Drawn0 w w' := by
  have H : (if a0 < 0 then (some 0) else (hopmeshref03_Power.l0 k a0 1 2)) = some r := h
  clear h
  by_cases c2 : a0 < 0
  · rw [if_pos c2] at H
    have c2b0 : decide (a0 < 0) = true := decide_eq_true c2
    clear c2
    obtain rfl := Option.some.inj H
    go_enter Try.func15, Try.ntmps15
    go_wp2
    go_ret
    exact ⟨by first | rfl | (simp; done) | (simp [*]; done), by repeat (first | exact Drawn0.refl _ | apply Drawn0.step)⟩
  · rw [if_neg c2] at H
    have c2b0 : decide (a0 < 0) = false := decide_eq_false c2
    clear c2
    have H' := Aside0.mk H
    clear H
    go_enter Try.func15, Try.ntmps15
    go_wp2
    go_loopg [0, 3, 4] k (fun kq v0 v3 v4 w' => ∃ (x0_1 : Int) (x3_1 : Int) (x4_1 : Int), v0 = .int .i64 x0_1 ∧ v3 = .int .u16 x3_1 ∧ v4 = .int .u16 x4_1 ∧ Aside0 (hopmeshref03_Power.l0 kq x0_1 x3_1 x4_1 = some r) ∧ Aside0 (kq ≤ k) ∧ Drawn0 w w')
    case atStart => exact ⟨(a0), (1), (2), (by first | rfl | (simp; done) | (simp [*]; done)), (by first | rfl | (simp; done) | (simp [*]; done)), (by first | rfl | (simp; done) | (simp [*]; done)), H', ⟨Nat.le_refl _⟩, by repeat (first | exact Drawn0.refl _ | apply Drawn0.step)⟩
    case round =>
      clear H'
      try clear c1
      try clear c2
      try clear c2b0
      try clear p2
      obtain ⟨x0_1, x3_1, x4_1, rfl, rfl, rfl, HA, HK1, ⟨m1, rfl⟩⟩ := hrel
      cases gk with
      | zero => exact absurd HA.out (by simp [hopmeshref03_Power.l0])
      | succ k1 =>
        have H := HA.out
        clear HA
        simp only [hopmeshref03_Power.l0] at H
        by_cases c3 : x0_1 > 0
        · rw [if_pos c3] at H
          have c3b0 : decide (0 < x0_1) = true := decide_eq_true c3
          clear c3
          by_cases c4 : (Int.tmod x0_1 2) = 1
          · rw [if_pos c4] at H
            have c4b0 : ((Int.tmod x0_1 2) == 1) = true := beq_iff_eq.mpr c4
            have c4b1 : ((Int.tmod x0_1 2) != 1) = false := bne_eq_false_iff_eq.mpr c4
            clear c4
            replace H := Option.bind_eq_some_iff.mp H
            obtain ⟨t121, A50, H⟩ := H
            replace H : ((hopmeshref03_Multiply.f k1 x4_1 x4_1).bind fun t122 => (hopmeshref03_Power.l0 k1 (wrap64 (Int.tdiv x0_1 2)) t121 t122)) = some r := H
            have A5 := Aside0.mk A50
            clear A50
            replace H := Option.bind_eq_some_iff.mp H
            obtain ⟨t122, A60, H⟩ := H
            replace H : (hopmeshref03_Power.l0 k1 (wrap64 (Int.tdiv x0_1 2)) t121 t122) = some r := H
            have A6 := Aside0.mk A60
            clear A60
            have H' := Aside0.mk H
            clear H
            go_wp2_with (first | ((with_reducible refine gate_callee (f := 13) rfl ?_); refine goesL_ (some 14) rfl rfl Try.func13 (by kernel_rfl) rfl #[.int .u16 x3_1, .int .u16 x4_1] rfl (by (try simp only [List.map_toArray, List.map_cons, List.map_nil]); first | done | rfl | (simp only [List.length_drop, List.length_take]; rfl)) ?_; (with_reducible refine (hopmeshref03_Multiply.calls k1 x3_1 x4_1 t121 _ A5.out).mono ?_); rintro e w' ⟨rfl, ⟨nd, rfl⟩⟩; refine ⟨_, rfl, ?_⟩) | ((with_reducible refine gate_callee (f := 13) rfl ?_); refine goesL_ (some 17) rfl rfl Try.func13 (by kernel_rfl) rfl #[.int .u16 x4_1, .int .u16 x4_1] rfl (by (try simp only [List.map_toArray, List.map_cons, List.map_nil]); first | done | rfl | (simp only [List.length_drop, List.length_take]; rfl)) ?_; (with_reducible refine (hopmeshref03_Multiply.calls k1 x4_1 x4_1 t122 _ A6.out).mono ?_); rintro e w' ⟨rfl, ⟨nd, rfl⟩⟩; refine ⟨_, rfl, ?_⟩))
            go_roundg k1
            case measure => have := HK1.out; omega
            case rel => exact ⟨(wrap64 (Int.tdiv x0_1 2)), (t121), (t122), (by first | rfl | (simp; done) | (simp [*]; done)), (by first | rfl | (simp; done) | (simp [*]; done)), (by first | rfl | (simp; done) | (simp [*]; done)), H', ⟨by have := HK1.out; omega⟩, by repeat (first | exact Drawn0.refl _ | apply Drawn0.step)⟩
          · rw [if_neg c4] at H
            have c4b0 : ((Int.tmod x0_1 2) == 1) = false := beq_eq_false_iff_ne.mpr c4
            have c4b1 : ((Int.tmod x0_1 2) != 1) = true := bne_iff_ne.mpr c4
            replace H := Option.bind_eq_some_iff.mp H
            obtain ⟨t123, A70, H⟩ := H
            replace H : (hopmeshref03_Power.l0 k1 (wrap64 (Int.tdiv x0_1 2)) x3_1 t123) = some r := H
            have A7 := Aside0.mk A70
            clear A70
            have H' := Aside0.mk H
            clear H
            go_wp2_with (first | ((with_reducible refine gate_callee (f := 13) rfl ?_); refine goesL_ (some 17) rfl rfl Try.func13 (by kernel_rfl) rfl #[.int .u16 x4_1, .int .u16 x4_1] rfl (by (try simp only [List.map_toArray, List.map_cons, List.map_nil]); first | done | rfl | (simp only [List.length_drop, List.length_take]; rfl)) ?_; (with_reducible refine (hopmeshref03_Multiply.calls k1 x4_1 x4_1 t123 _ A7.out).mono ?_); rintro e w' ⟨rfl, ⟨nd, rfl⟩⟩; refine ⟨_, rfl, ?_⟩))
            go_roundg k1
            case measure => have := HK1.out; omega
            case rel => exact ⟨(wrap64 (Int.tdiv x0_1 2)), (x3_1), (t123), (by first | rfl | (simp; done) | (simp [*]; done)), (by first | rfl | (simp; done) | (simp [*]; done)), (by first | rfl | (simp; done) | (simp [*]; done)), H', ⟨by have := HK1.out; omega⟩, by repeat (first | exact Drawn0.refl _ | apply Drawn0.step)⟩
        · rw [if_neg c3] at H
          have c3b0 : decide (0 < x0_1) = false := decide_eq_false c3
          clear c3
          obtain rfl := Option.some.inj H
          go_wp2
          go_ret
          exact ⟨by first | rfl | (simp; done) | (simp [*]; done), by repeat (first | exact Drawn0.refl _ | apply Drawn0.step)⟩

/-! ### hopmeshlaw03_CrcPolynomials: function 3 -/
def hopmeshlaw03_CrcPolynomials.f (k : Nat) (a0 : Int) (a1 : Int) (a2 : Int) : Option (Bool) := (hopmeshlaw03_awake.f k).bind fun t124 => (if t124 = true then ((crc_Multiply.f k a0 a1).bind fun t125 => ((hopmeshref03_Multiply.f k a0 a1).bind fun t126 => (if t125 = t126 then ((crc_Power.f k a2).bind fun t127 => ((hopmeshref03_Power.f k a2).bind fun t128 => (some (t127 == t128)))) else (some false)))) else (some false))
theorem hopmeshlaw03_CrcPolynomials.mono : ∀ a0 a1 a2 k, LeO (hopmeshlaw03_CrcPolynomials.f k a0 a1 a2) (hopmeshlaw03_CrcPolynomials.f (k + 1) a0 a1 a2) := by
  intro a0 a1 a2 k
  unfold hopmeshlaw03_CrcPolynomials.f
  repeat' first
      | (with_reducible exact crc_Multiply.mono _ _ _)
      | (with_reducible exact crc_Power.mono _ _)
      | (with_reducible exact hopmeshlaw03_awake.mono _)
      | (with_reducible exact hopmeshref03_Multiply.mono _ _ _)
      | (with_reducible exact hopmeshref03_Power.mono _ _)
      | (with_reducible exact LeO.refl _)
      | (with_reducible exact LeO.none _)
      | (with_reducible refine LeO.ite ?_ ?_)
      | (with_reducible refine LeO.bind ?_ (fun _ => ?_))
      | exact crc_Multiply.mono _ _ _
      | exact crc_Power.mono _ _
      | exact hopmeshlaw03_awake.mono _
      | exact hopmeshref03_Multiply.mono _ _ _
      | exact hopmeshref03_Power.mono _ _
      | exact LeO.none _
      | refine LeO.ite ?_ ?_
      | refine LeO.bind ?_ (fun _ => ?_)
set_option maxHeartbeats 8000000 in
set_option maxRecDepth 100000 in
theorem hopmeshlaw03_CrcPolynomials.calls (k : Nat) (a0 : Int) (a1 : Int) (a2 : Int) (r : Bool) (w : World) (h : hopmeshlaw03_CrcPolynomials.f k a0 a1 a2 = some r) :
    Calls Try.prog 3 #[.int .u16 a0, .int .u16 a1, .int .i64 a2] w fun e w' => e = .returned (.bool r) ∧ Below w.heap.size w w' := by
  have HB := Aside0.mk (Below.refl w.heap.size w)
  have H : ((hopmeshlaw03_awake.f k).bind fun t124 => (if t124 = true then ((crc_Multiply.f k a0 a1).bind fun t125 => ((hopmeshref03_Multiply.f k a0 a1).bind fun t126 => (if t125 = t126 then ((crc_Power.f k a2).bind fun t127 => ((hopmeshref03_Power.f k a2).bind fun t128 => (some (t127 == t128)))) else (some false)))) else (some false))) = some r := h
  clear h
  replace H := Option.bind_eq_some_iff.mp H
  obtain ⟨t124, A40, H⟩ := H
  replace H : (if t124 = true then ((crc_Multiply.f k a0 a1).bind fun t125 => ((hopmeshref03_Multiply.f k a0 a1).bind fun t126 => (if t125 = t126 then ((crc_Power.f k a2).bind fun t127 => ((hopmeshref03_Power.f k a2).bind fun t128 => (some (t127 == t128)))) else (some false)))) else (some false)) = some r := H
  have A4 := Aside0.mk A40
  clear A40
  by_cases c5 : t124 = true
  · subst c5
    have H1 : ((crc_Multiply.f k a0 a1).bind fun t125 => ((hopmeshref03_Multiply.f k a0 a1).bind fun t126 => (if t125 = t126 then ((crc_Power.f k a2).bind fun t127 => ((hopmeshref03_Power.f k a2).bind fun t128 => (some (t127 == t128)))) else (some false)))) = some r := by rw [if_pos rfl] at H; exact H
    clear H
    have H := H1
    clear H1
    replace H := Option.bind_eq_some_iff.mp H
    obtain ⟨t125, A60, H⟩ := H
    replace H : ((hopmeshref03_Multiply.f k a0 a1).bind fun t126 => (if t125 = t126 then ((crc_Power.f k a2).bind fun t127 => ((hopmeshref03_Power.f k a2).bind fun t128 => (some (t127 == t128)))) else (some false))) = some r := H
    have A6 := Aside0.mk A60
    clear A60
    replace H := Option.bind_eq_some_iff.mp H
    obtain ⟨t126, A70, H⟩ := H
    replace H : (if t125 = t126 then ((crc_Power.f k a2).bind fun t127 => ((hopmeshref03_Power.f k a2).bind fun t128 => (some (t127 == t128)))) else (some false)) = some r := H
    have A7 := Aside0.mk A70
    clear A70
    by_cases c8 : t125 = t126
    · rw [if_pos c8] at H
      have c8b0 : (t125 == t126) = true := beq_iff_eq.mpr c8
      have c8b1 : (t125 != t126) = false := bne_eq_false_iff_eq.mpr c8
      clear c8
      replace H := Option.bind_eq_some_iff.mp H
      obtain ⟨t127, A90, H⟩ := H
      replace H : ((hopmeshref03_Power.f k a2).bind fun t128 => (some (t127 == t128))) = some r := H
      have A9 := Aside0.mk A90
      clear A90
      replace H := Option.bind_eq_some_iff.mp H
      obtain ⟨t128, A100, H⟩ := H
      replace H : (some (t127 == t128)) = some r := H
      have A10 := Aside0.mk A100
      clear A100
      obtain rfl := Option.some.inj H
      go_enter Try.func3, Try.ntmps3
      go_wp2_with (first | ((with_reducible refine gate_callee (f := 11) rfl ?_); refine goesL_ (some 7) rfl rfl Try.func11 (by kernel_rfl) rfl #[] rfl (by (try simp only [List.map_toArray, List.map_cons, List.map_nil]); first | done | rfl | (simp only [List.length_drop, List.length_take]; rfl)) ?_; (with_reducible refine (hopmeshlaw03_awake.calls k  true _ A4.out).mono ?_); rintro e w11 ⟨rfl, hb⟩; refine ⟨_, rfl, ?_⟩; have n0_ := Aside0.mk (below_step (by repeat (first | (with_reducible first | exact HB.out | apply below_alloc | apply pw_below_drewN | apply below_drew1) | exact HB.out)) hb); clear HB; have HB := n0_; clear n0_; (try clear hb); (try clear hb2); (try clear hk); (try clear hi)) | (go_at_call 12; (with_reducible refine (crc_Multiply.calls k a0 a1 t125 _ A6.out).mono ?_); rintro e w' ⟨rfl, ⟨nd, rfl⟩⟩) | (go_at_call 13; (with_reducible refine (hopmeshref03_Multiply.calls k a0 a1 t126 _ A7.out).mono ?_); rintro e w' ⟨rfl, ⟨nd, rfl⟩⟩) | (go_at_call 14; (with_reducible refine (crc_Power.calls k a2 t127 _ A9.out).mono ?_); rintro e w' ⟨rfl, ⟨nd, rfl⟩⟩) | (go_at_call 15; (with_reducible refine (hopmeshref03_Power.calls k a2 t128 _ A10.out).mono ?_); rintro e w' ⟨rfl, ⟨nd, rfl⟩⟩))
      go_ret
      exact ⟨by first | rfl | (simp [errW_none, errW_some] <;> rfl) | (simp [*, errW_none, errW_some] <;> rfl), by repeat (first | (with_reducible first | exact HB.out | apply below_alloc | apply pw_below_drewN | apply below_drew1) | exact HB.out)⟩
    · rw [if_neg c8] at H
      have c8b0 : (t125 == t126) = false := beq_eq_false_iff_ne.mpr c8
      have c8b1 : (t125 != t126) = true := bne_iff_ne.mpr c8
      obtain rfl := Option.some.inj H
      go_enter Try.func3, Try.ntmps3
      go_wp2_with (first | ((with_reducible refine gate_callee (f := 11) rfl ?_); refine goesL_ (some 7) rfl rfl Try.func11 (by kernel_rfl) rfl #[] rfl (by (try simp only [List.map_toArray, List.map_cons, List.map_nil]); first | done | rfl | (simp only [List.length_drop, List.length_take]; rfl)) ?_; (with_reducible refine (hopmeshlaw03_awake.calls k  true _ A4.out).mono ?_); rintro e w12 ⟨rfl, hb⟩; refine ⟨_, rfl, ?_⟩; have n0_ := Aside0.mk (below_step (by repeat (first | (with_reducible first | exact HB.out | apply below_alloc | apply pw_below_drewN | apply below_drew1) | exact HB.out)) hb); clear HB; have HB := n0_; clear n0_; (try clear hb); (try clear hb2); (try clear hk); (try clear hi)) | (go_at_call 12; (with_reducible refine (crc_Multiply.calls k a0 a1 t125 _ A6.out).mono ?_); rintro e w' ⟨rfl, ⟨nd, rfl⟩⟩) | (go_at_call 13; (with_reducible refine (hopmeshref03_Multiply.calls k a0 a1 t126 _ A7.out).mono ?_); rintro e w' ⟨rfl, ⟨nd, rfl⟩⟩))
      go_ret
      exact ⟨by first | rfl | (simp [errW_none, errW_some] <;> rfl) | (simp [*, errW_none, errW_some] <;> rfl), by repeat (first | (with_reducible first | exact HB.out | apply below_alloc | apply pw_below_drewN | apply below_drew1) | exact HB.out)⟩
  · replace c5 := Bool.eq_false_iff.mpr c5
    subst c5
    have H1 : (some false) = some r := by rw [if_neg (show ¬ (false = true) by decide)] at H; exact H
    clear H
    have H := H1
    clear H1
    obtain rfl := Option.some.inj H
    go_enter Try.func3, Try.ntmps3
    go_wp2_with (first | ((with_reducible refine gate_callee (f := 11) rfl ?_); refine goesL_ (some 7) rfl rfl Try.func11 (by kernel_rfl) rfl #[] rfl (by (try simp only [List.map_toArray, List.map_cons, List.map_nil]); first | done | rfl | (simp only [List.length_drop, List.length_take]; rfl)) ?_; (with_reducible refine (hopmeshlaw03_awake.calls k  false _ A4.out).mono ?_); rintro e w13 ⟨rfl, hb⟩; refine ⟨_, rfl, ?_⟩; have n0_ := Aside0.mk (below_step (by repeat (first | (with_reducible first | exact HB.out | apply below_alloc | apply pw_below_drewN | apply below_drew1) | exact HB.out)) hb); clear HB; have HB := n0_; clear n0_; (try clear hb); (try clear hb2); (try clear hk); (try clear hi)))
    go_ret
    exact ⟨by first | rfl | (simp [errW_none, errW_some] <;> rfl) | (simp [*, errW_none, errW_some] <;> rfl), by repeat (first | (with_reducible first | exact HB.out | apply below_alloc | apply pw_below_drewN | apply below_drew1) | exact HB.out)⟩

/-- THE ONE PURE STATEMENT of hopmeshlaw03_CrcPolynomials: yours. -/
def hopmeshlaw03_CrcPolynomials.Pure : Prop := ∀ (a0 : Int) (a1 : Int) (a2 : Int), (Lit.int .u16 a0).wf = true → (Lit.int .u16 a1).wf = true → (Lit.int .i64 a2).wf = true → ∃ k, hopmeshlaw03_CrcPolynomials.f k a0 a1 a2 = some true
theorem hopmeshlaw03_CrcPolynomials.walk (P : hopmeshlaw03_CrcPolynomials.Pure) (a0 : Int) (a1 : Int) (a2 : Int) (w : World) (w0 : (Lit.int .u16 a0).wf = true) (w1 : (Lit.int .u16 a1).wf = true) (w2 : (Lit.int .i64 a2).wf = true) :
    Calls Try.prog 3 #[.int .u16 a0, .int .u16 a1, .int .i64 a2] w fun e w' => e = .returned (.bool true) ∧ Below w.heap.size w w' := by
  obtain ⟨k, h⟩ := P a0 a1 a2 w0 w1 w2
  refine (hopmeshlaw03_CrcPolynomials.calls k a0 a1 a2 true w h).mono ?_
  rintro e w' ⟨rfl, hd⟩
  exact ⟨rfl, hd⟩

/-! ### hopmeshlaw03_CrcLocates: function 6 -/
def hopmeshlaw03_CrcLocates.j0 : Nat → Int → Option (Bool)
  | 0, _ => none
  | k + 1, x2 => (crc_Power.f k (Int.tmod (wrap64 (x2)) 32767)).bind fun t134 => ((crc_Locate.f k t134 (wrap64 ((Int.tmod (wrap64 (x2)) 32767) + 1))).bind fun bt135 => ((crc_Power.f k (Int.tmod (wrap64 (x2)) 32767)).bind fun t137 => ((crc_Locate.f k t137 (Int.tmod (wrap64 (x2)) 32767)).bind fun bt138 => (if bt135.2 = true then (if bt135.1 = (Int.tmod (wrap64 (x2)) 32767) then (some (!bt138.2)) else (some false)) else (some false)))))
def hopmeshlaw03_CrcLocates.f (k : Nat) (a0 : Int) (a1 : Int) (a2 : Int) : Option (Bool) := (hopmeshlaw03_awake.f k).bind fun t129 => (if t129 = true then ((crc_Locate.f k a0 a1).bind fun bt130 => (if bt130.2 = true then (if bt130.1 < 0 then (some false) else (if bt130.1 ≥ a1 then (some false) else (if bt130.1 ≥ 32767 then (some false) else ((crc_Power.f k bt130.1).bind fun t132 => (if t132 = a0 then (hopmeshlaw03_CrcLocates.j0 k a2) else (some false)))))) else (if bt130.1 = 0 then (if (wrap64 (a2)) < a1 then ((crc_Power.f k (wrap64 (a2))).bind fun t133 => (if t133 = a0 then (some false) else (hopmeshlaw03_CrcLocates.j0 k a2))) else (hopmeshlaw03_CrcLocates.j0 k a2)) else (some false)))) else (some false))
theorem hopmeshlaw03_CrcLocates.mono_l : ∀ k, (∀ y0, LeO (hopmeshlaw03_CrcLocates.j0 k y0) (hopmeshlaw03_CrcLocates.j0 (k + 1) y0))
  | 0 => fun _ r h => by simp [hopmeshlaw03_CrcLocates.j0] at h
  | k + 1 => by
    have ih0 := hopmeshlaw03_CrcLocates.mono_l k
    · intro y0
      unfold hopmeshlaw03_CrcLocates.j0
      repeat' first
      | (with_reducible exact ih0 _)
      | (with_reducible exact crc_Locate.mono _ _ _)
      | (with_reducible exact crc_Power.mono _ _)
      | (with_reducible exact hopmeshlaw03_awake.mono _)
      | (with_reducible exact LeO.refl _)
      | (with_reducible exact LeO.none _)
      | (with_reducible refine LeO.ite ?_ ?_)
      | (with_reducible refine LeO.bind ?_ (fun _ => ?_))
      | exact ih0 _
      | exact crc_Locate.mono _ _ _
      | exact crc_Power.mono _ _
      | exact hopmeshlaw03_awake.mono _
      | exact LeO.none _
      | refine LeO.ite ?_ ?_
      | refine LeO.bind ?_ (fun _ => ?_)
theorem hopmeshlaw03_CrcLocates.mono : ∀ a0 a1 a2 k, LeO (hopmeshlaw03_CrcLocates.f k a0 a1 a2) (hopmeshlaw03_CrcLocates.f (k + 1) a0 a1 a2) := by
  intro a0 a1 a2 k
  have ih0 := hopmeshlaw03_CrcLocates.mono_l k
  unfold hopmeshlaw03_CrcLocates.f
  repeat' first
      | (with_reducible exact ih0 _)
      | (with_reducible exact crc_Locate.mono _ _ _)
      | (with_reducible exact crc_Power.mono _ _)
      | (with_reducible exact hopmeshlaw03_awake.mono _)
      | (with_reducible exact LeO.refl _)
      | (with_reducible exact LeO.none _)
      | (with_reducible refine LeO.ite ?_ ?_)
      | (with_reducible refine LeO.bind ?_ (fun _ => ?_))
      | exact ih0 _
      | exact crc_Locate.mono _ _ _
      | exact crc_Power.mono _ _
      | exact hopmeshlaw03_awake.mono _
      | exact LeO.none _
      | refine LeO.ite ?_ ?_
      | refine LeO.bind ?_ (fun _ => ?_)
set_option maxHeartbeats 8000000 in
set_option maxRecDepth 100000 in
theorem hopmeshlaw03_CrcLocates.calls (k : Nat) (a0 : Int) (a1 : Int) (a2 : Int) (r : Bool) (w : World) (h : hopmeshlaw03_CrcLocates.f k a0 a1 a2 = some r) :
    Calls Try.prog 6 #[.int .u16 a0, .int .i64 a1, .int .u16 a2] w fun e w' => e = .returned (.bool r) ∧ Below w.heap.size w w' := by
  have HB := Aside0.mk (Below.refl w.heap.size w)
  have H : ((hopmeshlaw03_awake.f k).bind fun t129 => (if t129 = true then ((crc_Locate.f k a0 a1).bind fun bt130 => (if bt130.2 = true then (if bt130.1 < 0 then (some false) else (if bt130.1 ≥ a1 then (some false) else (if bt130.1 ≥ 32767 then (some false) else ((crc_Power.f k bt130.1).bind fun t132 => (if t132 = a0 then (hopmeshlaw03_CrcLocates.j0 k a2) else (some false)))))) else (if bt130.1 = 0 then (if (wrap64 (a2)) < a1 then ((crc_Power.f k (wrap64 (a2))).bind fun t133 => (if t133 = a0 then (some false) else (hopmeshlaw03_CrcLocates.j0 k a2))) else (hopmeshlaw03_CrcLocates.j0 k a2)) else (some false)))) else (some false))) = some r := h
  clear h
  replace H := Option.bind_eq_some_iff.mp H
  obtain ⟨t129, A40, H⟩ := H
  replace H : (if t129 = true then ((crc_Locate.f k a0 a1).bind fun bt130 => (if bt130.2 = true then (if bt130.1 < 0 then (some false) else (if bt130.1 ≥ a1 then (some false) else (if bt130.1 ≥ 32767 then (some false) else ((crc_Power.f k bt130.1).bind fun t132 => (if t132 = a0 then (hopmeshlaw03_CrcLocates.j0 k a2) else (some false)))))) else (if bt130.1 = 0 then (if (wrap64 (a2)) < a1 then ((crc_Power.f k (wrap64 (a2))).bind fun t133 => (if t133 = a0 then (some false) else (hopmeshlaw03_CrcLocates.j0 k a2))) else (hopmeshlaw03_CrcLocates.j0 k a2)) else (some false)))) else (some false)) = some r := H
  have A4 := Aside0.mk A40
  clear A40
  by_cases c5 : t129 = true
  · subst c5
    have H1 : ((crc_Locate.f k a0 a1).bind fun bt130 => (if bt130.2 = true then (if bt130.1 < 0 then (some false) else (if bt130.1 ≥ a1 then (some false) else (if bt130.1 ≥ 32767 then (some false) else ((crc_Power.f k bt130.1).bind fun t132 => (if t132 = a0 then (hopmeshlaw03_CrcLocates.j0 k a2) else (some false)))))) else (if bt130.1 = 0 then (if (wrap64 (a2)) < a1 then ((crc_Power.f k (wrap64 (a2))).bind fun t133 => (if t133 = a0 then (some false) else (hopmeshlaw03_CrcLocates.j0 k a2))) else (hopmeshlaw03_CrcLocates.j0 k a2)) else (some false)))) = some r := by rw [if_pos rfl] at H; exact H
    clear H
    have H := H1
    clear H1
    replace H := Option.bind_eq_some_iff.mp H
    obtain ⟨⟨t130, t131⟩, A60, H⟩ := H
    replace H : (if t131 = true then (if t130 < 0 then (some false) else (if t130 ≥ a1 then (some false) else (if t130 ≥ 32767 then (some false) else ((crc_Power.f k t130).bind fun t132 => (if t132 = a0 then (hopmeshlaw03_CrcLocates.j0 k a2) else (some false)))))) else (if t130 = 0 then (if (wrap64 (a2)) < a1 then ((crc_Power.f k (wrap64 (a2))).bind fun t133 => (if t133 = a0 then (some false) else (hopmeshlaw03_CrcLocates.j0 k a2))) else (hopmeshlaw03_CrcLocates.j0 k a2)) else (some false))) = some r := H
    have A6 := Aside0.mk A60
    clear A60
    have HC7 := Aside0.mk H
    clear H
    go_enter Try.func6, Try.ntmps6
    go_upto_if 22 with (first | ((with_reducible refine gate_callee (f := 11) rfl ?_); refine goesL_ (some 14) rfl rfl Try.func11 (by kernel_rfl) rfl #[] rfl (by (try simp only [List.map_toArray, List.map_cons, List.map_nil]); first | done | rfl | (simp only [List.length_drop, List.length_take]; rfl)) ?_; (with_reducible refine (hopmeshlaw03_awake.calls k  true _ A4.out).mono ?_); rintro e w8 ⟨rfl, hb⟩; refine ⟨_, rfl, ?_⟩; have n0_ := Aside0.mk (below_step (by repeat (first | (with_reducible first | exact HB.out | apply below_alloc | apply pw_below_drewN | apply below_drew1) | exact HB.out)) hb); clear HB; have HB := n0_; clear n0_; (try clear hb); (try clear hb2); (try clear hk); (try clear hi)) | ((with_reducible refine gate_callee (f := 17) rfl ?_); refine goesL_ (some 19) rfl rfl Try.func17 (by kernel_rfl) rfl #[.int .u16 a0, .int .i64 a1] rfl (by (try simp only [List.map_toArray, List.map_cons, List.map_nil]); first | done | rfl | (simp only [List.length_drop, List.length_take]; rfl)) ?_; (with_reducible refine (crc_Locate.calls k a0 a1 t130 t131 _ A6.out).mono ?_); rintro e w9 ⟨rfl, hb⟩; refine ⟨_, rfl, ?_⟩; have n0_ := Aside0.mk (below_step (by repeat (first | (with_reducible first | exact HB.out | apply below_alloc | apply pw_below_drewN | apply below_drew1) | exact HB.out)) hb); clear HB; have HB := n0_; clear n0_; (try clear hb); (try clear hb2); (try clear hk); (try clear hi)))
    (try simp only [Act.put, List.setIfInBounds_toArray, List.set_cons_zero, List.set_cons_succ])
    go_cut [] (fun wc => ∃ (kq : Nat), Aside0 (hopmeshlaw03_CrcLocates.j0 kq a2 = some r) ∧ Aside0 (kq ≤ k) ∧ Aside0 (Below w.heap.size w wc))
    case first =>
      have H := HC7.out
      clear HC7
      by_cases c10 : t131 = true
      · subst c10
        have H1 : (if t130 < 0 then (some false) else (if t130 ≥ a1 then (some false) else (if t130 ≥ 32767 then (some false) else ((crc_Power.f k t130).bind fun t132 => (if t132 = a0 then (hopmeshlaw03_CrcLocates.j0 k a2) else (some false)))))) = some r := by rw [if_pos rfl] at H; exact H
        clear H
        have H := H1
        clear H1
        by_cases c11 : t130 < 0
        · rw [if_pos c11] at H
          have c11b0 : decide (t130 < 0) = true := decide_eq_true c11
          clear c11
          (first | rw [c11b0] | (simp only [i64_w, i32_w]; rw [c11b0]) | skip)
          obtain rfl := Option.some.inj H
          go_wp2
          go_ret
          exact ⟨by first | rfl | (simp [errW_none, errW_some] <;> rfl) | (simp [*, errW_none, errW_some] <;> rfl), by repeat (first | (with_reducible first | exact HB.out | apply below_alloc | apply pw_below_drewN | apply below_drew1) | exact HB.out)⟩
        · rw [if_neg c11] at H
          have c11b0 : decide (t130 < 0) = false := decide_eq_false c11
          clear c11
          (first | rw [c11b0] | (simp only [i64_w, i32_w]; rw [c11b0]) | skip)
          by_cases c12 : t130 ≥ a1
          · rw [if_pos c12] at H
            have c12b0 : decide (a1 ≤ t130) = true := decide_eq_true c12
            clear c12
            obtain rfl := Option.some.inj H
            go_wp2
            go_ret
            exact ⟨by first | rfl | (simp [errW_none, errW_some] <;> rfl) | (simp [*, errW_none, errW_some] <;> rfl), by repeat (first | (with_reducible first | exact HB.out | apply below_alloc | apply pw_below_drewN | apply below_drew1) | exact HB.out)⟩
          · rw [if_neg c12] at H
            have c12b0 : decide (a1 ≤ t130) = false := decide_eq_false c12
            clear c12
            by_cases c13 : t130 ≥ 32767
            · rw [if_pos c13] at H
              have c13b0 : decide (32767 ≤ t130) = true := decide_eq_true c13
              clear c13
              obtain rfl := Option.some.inj H
              go_wp2
              go_ret
              exact ⟨by first | rfl | (simp [errW_none, errW_some] <;> rfl) | (simp [*, errW_none, errW_some] <;> rfl), by repeat (first | (with_reducible first | exact HB.out | apply below_alloc | apply pw_below_drewN | apply below_drew1) | exact HB.out)⟩
            · rw [if_neg c13] at H
              have c13b0 : decide (32767 ≤ t130) = false := decide_eq_false c13
              clear c13
              replace H := Option.bind_eq_some_iff.mp H
              obtain ⟨t132, A140, H⟩ := H
              replace H : (if t132 = a0 then (hopmeshlaw03_CrcLocates.j0 k a2) else (some false)) = some r := H
              have A14 := Aside0.mk A140
              clear A140
              by_cases c15 : t132 = a0
              · rw [if_pos c15] at H
                have c15b0 : (t132 == a0) = true := beq_iff_eq.mpr c15
                have c15b1 : (t132 != a0) = false := bne_eq_false_iff_eq.mpr c15
                clear c15
                have H' := Aside0.mk H
                clear H
                go_wp2_with (first | (go_at_call 14; (with_reducible refine (crc_Power.calls k t130 t132 _ A14.out).mono ?_); rintro e w' ⟨rfl, ⟨nd, rfl⟩⟩))
                go_meet
                case rel => exact ⟨_, H', ⟨by first | omega | exact Nat.le_refl _⟩, ⟨by repeat (first | (with_reducible first | exact HB.out | apply below_alloc | apply pw_below_drewN | apply below_drew1) | exact HB.out)⟩⟩
              · rw [if_neg c15] at H
                have c15b0 : (t132 == a0) = false := beq_eq_false_iff_ne.mpr c15
                have c15b1 : (t132 != a0) = true := bne_iff_ne.mpr c15
                obtain rfl := Option.some.inj H
                go_wp2_with (first | (go_at_call 14; (with_reducible refine (crc_Power.calls k t130 t132 _ A14.out).mono ?_); rintro e w' ⟨rfl, ⟨nd, rfl⟩⟩))
                go_ret
                exact ⟨by first | rfl | (simp [errW_none, errW_some] <;> rfl) | (simp [*, errW_none, errW_some] <;> rfl), by repeat (first | (with_reducible first | exact HB.out | apply below_alloc | apply pw_below_drewN | apply below_drew1) | exact HB.out)⟩
      · replace c10 := Bool.eq_false_iff.mpr c10
        subst c10
        have H1 : (if t130 = 0 then (if (wrap64 (a2)) < a1 then ((crc_Power.f k (wrap64 (a2))).bind fun t133 => (if t133 = a0 then (some false) else (hopmeshlaw03_CrcLocates.j0 k a2))) else (hopmeshlaw03_CrcLocates.j0 k a2)) else (some false)) = some r := by rw [if_neg (show ¬ (false = true) by decide)] at H; exact H
        clear H
        have H := H1
        clear H1
        by_cases c16 : t130 = 0
        · rw [if_pos c16] at H
          have c16b0 : (t130 == 0) = true := beq_iff_eq.mpr c16
          have c16b1 : (t130 != 0) = false := bne_eq_false_iff_eq.mpr c16
          clear c16
          by_cases c17 : (wrap64 (a2)) < a1
          · rw [if_pos c17] at H
            have c17b0 : decide ((wrap64 (a2)) < a1) = true := decide_eq_true c17
            clear c17
            replace H := Option.bind_eq_some_iff.mp H
            obtain ⟨t133, A180, H⟩ := H
            replace H : (if t133 = a0 then (some false) else (hopmeshlaw03_CrcLocates.j0 k a2)) = some r := H
            have A18 := Aside0.mk A180
            clear A180
            by_cases c19 : t133 = a0
            · rw [if_pos c19] at H
              have c19b0 : (t133 == a0) = true := beq_iff_eq.mpr c19
              have c19b1 : (t133 != a0) = false := bne_eq_false_iff_eq.mpr c19
              clear c19
              obtain rfl := Option.some.inj H
              go_wp2_with (first | (go_at_call 14; (with_reducible refine (crc_Power.calls k (wrap64 (a2)) t133 _ A18.out).mono ?_); rintro e w' ⟨rfl, ⟨nd, rfl⟩⟩))
              go_ret
              exact ⟨by first | rfl | (simp [errW_none, errW_some] <;> rfl) | (simp [*, errW_none, errW_some] <;> rfl), by repeat (first | (with_reducible first | exact HB.out | apply below_alloc | apply pw_below_drewN | apply below_drew1) | exact HB.out)⟩
            · rw [if_neg c19] at H
              have c19b0 : (t133 == a0) = false := beq_eq_false_iff_ne.mpr c19
              have c19b1 : (t133 != a0) = true := bne_iff_ne.mpr c19
              have H' := Aside0.mk H
              clear H
              go_wp2_with (first | (go_at_call 14; (with_reducible refine (crc_Power.calls k (wrap64 (a2)) t133 _ A18.out).mono ?_); rintro e w' ⟨rfl, ⟨nd, rfl⟩⟩))
              go_meet
              case rel => exact ⟨_, H', ⟨by first | omega | exact Nat.le_refl _⟩, ⟨by repeat (first | (with_reducible first | exact HB.out | apply below_alloc | apply pw_below_drewN | apply below_drew1) | exact HB.out)⟩⟩
          · rw [if_neg c17] at H
            have c17b0 : decide ((wrap64 (a2)) < a1) = false := decide_eq_false c17
            clear c17
            have H' := Aside0.mk H
            clear H
            go_wp2
            go_meet
            case rel => exact ⟨_, H', ⟨by first | omega | exact Nat.le_refl _⟩, ⟨by repeat (first | (with_reducible first | exact HB.out | apply below_alloc | apply pw_below_drewN | apply below_drew1) | exact HB.out)⟩⟩
        · rw [if_neg c16] at H
          have c16b0 : (t130 == 0) = false := beq_eq_false_iff_ne.mpr c16
          have c16b1 : (t130 != 0) = true := bne_iff_ne.mpr c16
          obtain rfl := Option.some.inj H
          go_wp2
          go_ret
          exact ⟨by first | rfl | (simp [errW_none, errW_some] <;> rfl) | (simp [*, errW_none, errW_some] <;> rfl), by repeat (first | (with_reducible first | exact HB.out | apply below_alloc | apply pw_below_drewN | apply below_drew1) | exact HB.out)⟩
    case rest =>
      clear HC7
      try clear c1
      try clear p2
      try clear c5
      try clear c6
      try clear p6
      try clear c10
      try clear c11
      try clear c11b0
      try clear c12
      try clear c12b0
      try clear c13
      try clear c13b0
      try clear c15
      try clear c15b0
      try clear c15b1
      try clear c16
      try clear c16b0
      try clear c16b1
      try clear c17
      try clear c17b0
      try clear c19
      try clear c19b0
      try clear c19b1
      obtain ⟨kq, HA, HJ6, HB⟩ := hcut
      cases kq with
      | zero => exact absurd HA.out (by simp [hopmeshlaw03_CrcLocates.j0])
      | succ kj6 =>
        have H := HA.out
        clear HA
        simp only [hopmeshlaw03_CrcLocates.j0] at H
        replace H := Option.bind_eq_some_iff.mp H
        obtain ⟨t134, A200, H⟩ := H
        replace H : ((crc_Locate.f kj6 t134 (wrap64 ((Int.tmod (wrap64 (a2)) 32767) + 1))).bind fun bt135 => ((crc_Power.f kj6 (Int.tmod (wrap64 (a2)) 32767)).bind fun t137 => ((crc_Locate.f kj6 t137 (Int.tmod (wrap64 (a2)) 32767)).bind fun bt138 => (if bt135.2 = true then (if bt135.1 = (Int.tmod (wrap64 (a2)) 32767) then (some (!bt138.2)) else (some false)) else (some false))))) = some r := H
        have A20 := Aside0.mk A200
        clear A200
        replace H := Option.bind_eq_some_iff.mp H
        obtain ⟨⟨t135, t136⟩, A210, H⟩ := H
        replace H : ((crc_Power.f kj6 (Int.tmod (wrap64 (a2)) 32767)).bind fun t137 => ((crc_Locate.f kj6 t137 (Int.tmod (wrap64 (a2)) 32767)).bind fun bt138 => (if t136 = true then (if t135 = (Int.tmod (wrap64 (a2)) 32767) then (some (!bt138.2)) else (some false)) else (some false)))) = some r := H
        have A21 := Aside0.mk A210
        clear A210
        replace H := Option.bind_eq_some_iff.mp H
        obtain ⟨t137, A220, H⟩ := H
        replace H : ((crc_Locate.f kj6 t137 (Int.tmod (wrap64 (a2)) 32767)).bind fun bt138 => (if t136 = true then (if t135 = (Int.tmod (wrap64 (a2)) 32767) then (some (!bt138.2)) else (some false)) else (some false))) = some r := H
        have A22 := Aside0.mk A220
        clear A220
        replace H := Option.bind_eq_some_iff.mp H
        obtain ⟨⟨t138, t139⟩, A230, H⟩ := H
        replace H : (if t136 = true then (if t135 = (Int.tmod (wrap64 (a2)) 32767) then (some (!t139)) else (some false)) else (some false)) = some r := H
        have A23 := Aside0.mk A230
        clear A230
        by_cases c24 : t136 = true
        · subst c24
          have H1 : (if t135 = (Int.tmod (wrap64 (a2)) 32767) then (some (!t139)) else (some false)) = some r := by rw [if_pos rfl] at H; exact H
          clear H
          have H := H1
          clear H1
          by_cases c25 : t135 = (Int.tmod (wrap64 (a2)) 32767)
          · rw [if_pos c25] at H
            have c25b0 : (t135 == (Int.tmod (wrap64 (a2)) 32767)) = true := beq_iff_eq.mpr c25
            have c25b1 : (t135 != (Int.tmod (wrap64 (a2)) 32767)) = false := bne_eq_false_iff_eq.mpr c25
            clear c25
            obtain rfl := Option.some.inj H
            go_wp2_with (first | ((with_reducible refine gate_callee (f := 14) rfl ?_); refine goesL_ (some 60) rfl rfl Try.func14 (by kernel_rfl) rfl #[.int .i64 (Int.tmod (wrap64 (a2)) 32767)] rfl (by (try simp only [List.map_toArray, List.map_cons, List.map_nil]); first | done | rfl | (simp only [List.length_drop, List.length_take]; rfl)) ?_; (with_reducible refine (crc_Power.calls kj6 (Int.tmod (wrap64 (a2)) 32767) t134 _ A20.out).mono ?_); rintro e w' ⟨rfl, ⟨nd, rfl⟩⟩; refine ⟨_, rfl, ?_⟩) | ((with_reducible refine gate_callee (f := 17) rfl ?_); refine goesL_ (some 63) rfl rfl Try.func17 (by kernel_rfl) rfl #[.int .u16 t134, .int .i64 (wrap64 ((Int.tmod (wrap64 (a2)) 32767) + 1))] rfl (by (try simp only [List.map_toArray, List.map_cons, List.map_nil]); first | done | rfl | (simp only [List.length_drop, List.length_take]; rfl)) ?_; (with_reducible refine (crc_Locate.calls kj6 t134 (wrap64 ((Int.tmod (wrap64 (a2)) 32767) + 1)) t135 true _ A21.out).mono ?_); rintro e w26 ⟨rfl, hb⟩; refine ⟨_, rfl, ?_⟩; have n0_ := Aside0.mk (below_step (by repeat (first | (with_reducible first | exact HB.out | apply below_alloc | apply pw_below_drewN | apply below_drew1) | exact HB.out)) hb); clear HB; have HB := n0_; clear n0_; (try clear hb); (try clear hb2); (try clear hk); (try clear hi)) | ((with_reducible refine gate_callee (f := 14) rfl ?_); refine goesL_ (some 68) rfl rfl Try.func14 (by kernel_rfl) rfl #[.int .i64 (Int.tmod (wrap64 (a2)) 32767)] rfl (by (try simp only [List.map_toArray, List.map_cons, List.map_nil]); first | done | rfl | (simp only [List.length_drop, List.length_take]; rfl)) ?_; (with_reducible refine (crc_Power.calls kj6 (Int.tmod (wrap64 (a2)) 32767) t137 _ A22.out).mono ?_); rintro e w' ⟨rfl, ⟨nd, rfl⟩⟩; refine ⟨_, rfl, ?_⟩) | ((with_reducible refine gate_callee (f := 17) rfl ?_); refine goesL_ (some 70) rfl rfl Try.func17 (by kernel_rfl) rfl #[.int .u16 t137, .int .i64 (Int.tmod (wrap64 (a2)) 32767)] rfl (by (try simp only [List.map_toArray, List.map_cons, List.map_nil]); first | done | rfl | (simp only [List.length_drop, List.length_take]; rfl)) ?_; (with_reducible refine (crc_Locate.calls kj6 t137 (Int.tmod (wrap64 (a2)) 32767) t138 t139 _ A23.out).mono ?_); rintro e w27 ⟨rfl, hb⟩; refine ⟨_, rfl, ?_⟩; have n0_ := Aside0.mk (below_step (by repeat (first | (with_reducible first | exact HB.out | apply below_alloc | apply pw_below_drewN | apply below_drew1) | exact HB.out)) hb); clear HB; have HB := n0_; clear n0_; (try clear hb); (try clear hb2); (try clear hk); (try clear hi)))
            go_ret
            exact ⟨by first | rfl | (simp [errW_none, errW_some] <;> rfl) | (simp [*, errW_none, errW_some] <;> rfl), by repeat (first | (with_reducible first | exact HB.out | apply below_alloc | apply pw_below_drewN | apply below_drew1) | exact HB.out)⟩
          · rw [if_neg c25] at H
            have c25b0 : (t135 == (Int.tmod (wrap64 (a2)) 32767)) = false := beq_eq_false_iff_ne.mpr c25
            have c25b1 : (t135 != (Int.tmod (wrap64 (a2)) 32767)) = true := bne_iff_ne.mpr c25
            obtain rfl := Option.some.inj H
            go_wp2_with (first | ((with_reducible refine gate_callee (f := 14) rfl ?_); refine goesL_ (some 60) rfl rfl Try.func14 (by kernel_rfl) rfl #[.int .i64 (Int.tmod (wrap64 (a2)) 32767)] rfl (by (try simp only [List.map_toArray, List.map_cons, List.map_nil]); first | done | rfl | (simp only [List.length_drop, List.length_take]; rfl)) ?_; (with_reducible refine (crc_Power.calls kj6 (Int.tmod (wrap64 (a2)) 32767) t134 _ A20.out).mono ?_); rintro e w' ⟨rfl, ⟨nd, rfl⟩⟩; refine ⟨_, rfl, ?_⟩) | ((with_reducible refine gate_callee (f := 17) rfl ?_); refine goesL_ (some 63) rfl rfl Try.func17 (by kernel_rfl) rfl #[.int .u16 t134, .int .i64 (wrap64 ((Int.tmod (wrap64 (a2)) 32767) + 1))] rfl (by (try simp only [List.map_toArray, List.map_cons, List.map_nil]); first | done | rfl | (simp only [List.length_drop, List.length_take]; rfl)) ?_; (with_reducible refine (crc_Locate.calls kj6 t134 (wrap64 ((Int.tmod (wrap64 (a2)) 32767) + 1)) t135 true _ A21.out).mono ?_); rintro e w28 ⟨rfl, hb⟩; refine ⟨_, rfl, ?_⟩; have n0_ := Aside0.mk (below_step (by repeat (first | (with_reducible first | exact HB.out | apply below_alloc | apply pw_below_drewN | apply below_drew1) | exact HB.out)) hb); clear HB; have HB := n0_; clear n0_; (try clear hb); (try clear hb2); (try clear hk); (try clear hi)) | ((with_reducible refine gate_callee (f := 14) rfl ?_); refine goesL_ (some 68) rfl rfl Try.func14 (by kernel_rfl) rfl #[.int .i64 (Int.tmod (wrap64 (a2)) 32767)] rfl (by (try simp only [List.map_toArray, List.map_cons, List.map_nil]); first | done | rfl | (simp only [List.length_drop, List.length_take]; rfl)) ?_; (with_reducible refine (crc_Power.calls kj6 (Int.tmod (wrap64 (a2)) 32767) t137 _ A22.out).mono ?_); rintro e w' ⟨rfl, ⟨nd, rfl⟩⟩; refine ⟨_, rfl, ?_⟩) | ((with_reducible refine gate_callee (f := 17) rfl ?_); refine goesL_ (some 70) rfl rfl Try.func17 (by kernel_rfl) rfl #[.int .u16 t137, .int .i64 (Int.tmod (wrap64 (a2)) 32767)] rfl (by (try simp only [List.map_toArray, List.map_cons, List.map_nil]); first | done | rfl | (simp only [List.length_drop, List.length_take]; rfl)) ?_; (with_reducible refine (crc_Locate.calls kj6 t137 (Int.tmod (wrap64 (a2)) 32767) t138 t139 _ A23.out).mono ?_); rintro e w29 ⟨rfl, hb⟩; refine ⟨_, rfl, ?_⟩; have n0_ := Aside0.mk (below_step (by repeat (first | (with_reducible first | exact HB.out | apply below_alloc | apply pw_below_drewN | apply below_drew1) | exact HB.out)) hb); clear HB; have HB := n0_; clear n0_; (try clear hb); (try clear hb2); (try clear hk); (try clear hi)))
            go_ret
            exact ⟨by first | rfl | (simp [errW_none, errW_some] <;> rfl) | (simp [*, errW_none, errW_some] <;> rfl), by repeat (first | (with_reducible first | exact HB.out | apply below_alloc | apply pw_below_drewN | apply below_drew1) | exact HB.out)⟩
        · replace c24 := Bool.eq_false_iff.mpr c24
          subst c24
          have H1 : (some false) = some r := by rw [if_neg (show ¬ (false = true) by decide)] at H; exact H
          clear H
          have H := H1
          clear H1
          obtain rfl := Option.some.inj H
          go_wp2_with (first | ((with_reducible refine gate_callee (f := 14) rfl ?_); refine goesL_ (some 60) rfl rfl Try.func14 (by kernel_rfl) rfl #[.int .i64 (Int.tmod (wrap64 (a2)) 32767)] rfl (by (try simp only [List.map_toArray, List.map_cons, List.map_nil]); first | done | rfl | (simp only [List.length_drop, List.length_take]; rfl)) ?_; (with_reducible refine (crc_Power.calls kj6 (Int.tmod (wrap64 (a2)) 32767) t134 _ A20.out).mono ?_); rintro e w' ⟨rfl, ⟨nd, rfl⟩⟩; refine ⟨_, rfl, ?_⟩) | ((with_reducible refine gate_callee (f := 17) rfl ?_); refine goesL_ (some 63) rfl rfl Try.func17 (by kernel_rfl) rfl #[.int .u16 t134, .int .i64 (wrap64 ((Int.tmod (wrap64 (a2)) 32767) + 1))] rfl (by (try simp only [List.map_toArray, List.map_cons, List.map_nil]); first | done | rfl | (simp only [List.length_drop, List.length_take]; rfl)) ?_; (with_reducible refine (crc_Locate.calls kj6 t134 (wrap64 ((Int.tmod (wrap64 (a2)) 32767) + 1)) t135 false _ A21.out).mono ?_); rintro e w30 ⟨rfl, hb⟩; refine ⟨_, rfl, ?_⟩; have n0_ := Aside0.mk (below_step (by repeat (first | (with_reducible first | exact HB.out | apply below_alloc | apply pw_below_drewN | apply below_drew1) | exact HB.out)) hb); clear HB; have HB := n0_; clear n0_; (try clear hb); (try clear hb2); (try clear hk); (try clear hi)) | ((with_reducible refine gate_callee (f := 14) rfl ?_); refine goesL_ (some 68) rfl rfl Try.func14 (by kernel_rfl) rfl #[.int .i64 (Int.tmod (wrap64 (a2)) 32767)] rfl (by (try simp only [List.map_toArray, List.map_cons, List.map_nil]); first | done | rfl | (simp only [List.length_drop, List.length_take]; rfl)) ?_; (with_reducible refine (crc_Power.calls kj6 (Int.tmod (wrap64 (a2)) 32767) t137 _ A22.out).mono ?_); rintro e w' ⟨rfl, ⟨nd, rfl⟩⟩; refine ⟨_, rfl, ?_⟩) | ((with_reducible refine gate_callee (f := 17) rfl ?_); refine goesL_ (some 70) rfl rfl Try.func17 (by kernel_rfl) rfl #[.int .u16 t137, .int .i64 (Int.tmod (wrap64 (a2)) 32767)] rfl (by (try simp only [List.map_toArray, List.map_cons, List.map_nil]); first | done | rfl | (simp only [List.length_drop, List.length_take]; rfl)) ?_; (with_reducible refine (crc_Locate.calls kj6 t137 (Int.tmod (wrap64 (a2)) 32767) t138 t139 _ A23.out).mono ?_); rintro e w31 ⟨rfl, hb⟩; refine ⟨_, rfl, ?_⟩; have n0_ := Aside0.mk (below_step (by repeat (first | (with_reducible first | exact HB.out | apply below_alloc | apply pw_below_drewN | apply below_drew1) | exact HB.out)) hb); clear HB; have HB := n0_; clear n0_; (try clear hb); (try clear hb2); (try clear hk); (try clear hi)))
          go_ret
          exact ⟨by first | rfl | (simp [errW_none, errW_some] <;> rfl) | (simp [*, errW_none, errW_some] <;> rfl), by repeat (first | (with_reducible first | exact HB.out | apply below_alloc | apply pw_below_drewN | apply below_drew1) | exact HB.out)⟩
  · replace c5 := Bool.eq_false_iff.mpr c5
    subst c5
    have H1 : (some false) = some r := by rw [if_neg (show ¬ (false = true) by decide)] at H; exact H
    clear H
    have H := H1
    clear H1
    obtain rfl := Option.some.inj H
    go_enter Try.func6, Try.ntmps6
    go_wp2_with (first | ((with_reducible refine gate_callee (f := 11) rfl ?_); refine goesL_ (some 14) rfl rfl Try.func11 (by kernel_rfl) rfl #[] rfl (by (try simp only [List.map_toArray, List.map_cons, List.map_nil]); first | done | rfl | (simp only [List.length_drop, List.length_take]; rfl)) ?_; (with_reducible refine (hopmeshlaw03_awake.calls k  false _ A4.out).mono ?_); rintro e w32 ⟨rfl, hb⟩; refine ⟨_, rfl, ?_⟩; have n0_ := Aside0.mk (below_step (by repeat (first | (with_reducible first | exact HB.out | apply below_alloc | apply pw_below_drewN | apply below_drew1) | exact HB.out)) hb); clear HB; have HB := n0_; clear n0_; (try clear hb); (try clear hb2); (try clear hk); (try clear hi)))
    go_ret
    exact ⟨by first | rfl | (simp [errW_none, errW_some] <;> rfl) | (simp [*, errW_none, errW_some] <;> rfl), by repeat (first | (with_reducible first | exact HB.out | apply below_alloc | apply pw_below_drewN | apply below_drew1) | exact HB.out)⟩

/-- THE ONE PURE STATEMENT of hopmeshlaw03_CrcLocates: yours. -/
def hopmeshlaw03_CrcLocates.Pure : Prop := ∀ (a0 : Int) (a1 : Int) (a2 : Int), (Lit.int .u16 a0).wf = true → (Lit.int .i64 a1).wf = true → (Lit.int .u16 a2).wf = true → ∃ k, hopmeshlaw03_CrcLocates.f k a0 a1 a2 = some true
theorem hopmeshlaw03_CrcLocates.walk (P : hopmeshlaw03_CrcLocates.Pure) (a0 : Int) (a1 : Int) (a2 : Int) (w : World) (w0 : (Lit.int .u16 a0).wf = true) (w1 : (Lit.int .i64 a1).wf = true) (w2 : (Lit.int .u16 a2).wf = true) :
    Calls Try.prog 6 #[.int .u16 a0, .int .i64 a1, .int .u16 a2] w fun e w' => e = .returned (.bool true) ∧ Below w.heap.size w w' := by
  obtain ⟨k, h⟩ := P a0 a1 a2 w0 w1 w2
  refine (hopmeshlaw03_CrcLocates.calls k a0 a1 a2 true w h).mono ?_
  rintro e w' ⟨rfl, hd⟩
  exact ⟨rfl, hd⟩

/-! ### hopmeshref03_Update: function 20 -/
mutual
def hopmeshref03_Update.l0 : Nat → Int → ByteArray → Int → Option (Int)
  | 0, _, _, _ => none
  | k + 1, x0, x1, x5 => if x5 < (x1.size : Int) then (if 0 ≤ x5 then (hopmeshref03_Update.l1 k (Go.bits .xor .u16 x0 (IntKind.u16.wrap ((IntKind.u16.wrap (bt x1 x5)) * 256))) x1 x5 0) else (none)) else (some x0)
def hopmeshref03_Update.l1 : Nat → Int → ByteArray → Int → Int → Option (Int)
  | 0, _, _, _, _ => none
  | k + 1, x0, x1, x5, x6 => if x6 < 8 then ((hopmeshref03_Times.f x0).bind fun t140 => (hopmeshref03_Update.l1 k t140 x1 x5 (wrap64 (x6 + 1)))) else (hopmeshref03_Update.l0 k x0 x1 (wrap64 (x5 + 1)))
end
def hopmeshref03_Update.f (k : Nat) (a0 : Int) (a1 : ByteArray) : Option (Int) := hopmeshref03_Update.l0 k a0 a1 0
theorem hopmeshref03_Update.mono_l : ∀ k, (∀ y0 y1 y2, LeO (hopmeshref03_Update.l0 k y0 y1 y2) (hopmeshref03_Update.l0 (k + 1) y0 y1 y2)) ∧ (∀ y0 y1 y2 y3, LeO (hopmeshref03_Update.l1 k y0 y1 y2 y3) (hopmeshref03_Update.l1 (k + 1) y0 y1 y2 y3))
  | 0 => ⟨fun _ _ _ r h => by simp [hopmeshref03_Update.l0] at h, fun _ _ _ _ r h => by simp [hopmeshref03_Update.l1] at h⟩
  | k + 1 => by
    obtain ⟨ih0, ih1⟩ := hopmeshref03_Update.mono_l k
    refine ⟨?_, ?_⟩
    · intro y0 y1 y2
      unfold hopmeshref03_Update.l0
      repeat' first
      | (with_reducible exact ih0 _ _ _)
      | (with_reducible exact ih1 _ _ _ _)
      | (with_reducible exact LeO.refl _)
      | (with_reducible exact LeO.none _)
      | (with_reducible refine LeO.ite ?_ ?_)
      | (with_reducible refine LeO.bind ?_ (fun _ => ?_))
      | exact ih0 _ _ _
      | exact ih1 _ _ _ _
      | exact LeO.none _
      | refine LeO.ite ?_ ?_
      | refine LeO.bind ?_ (fun _ => ?_)
    · intro y0 y1 y2 y3
      unfold hopmeshref03_Update.l1
      repeat' first
      | (with_reducible exact ih0 _ _ _)
      | (with_reducible exact ih1 _ _ _ _)
      | (with_reducible exact LeO.refl _)
      | (with_reducible exact LeO.none _)
      | (with_reducible refine LeO.ite ?_ ?_)
      | (with_reducible refine LeO.bind ?_ (fun _ => ?_))
      | exact ih0 _ _ _
      | exact ih1 _ _ _ _
      | exact LeO.none _
      | refine LeO.ite ?_ ?_
      | refine LeO.bind ?_ (fun _ => ?_)
theorem hopmeshref03_Update.mono : ∀ a0 a1 k, LeO (hopmeshref03_Update.f k a0 a1) (hopmeshref03_Update.f (k + 1) a0 a1) := by
  intro a0 a1 k
  obtain ⟨ih0, ih1⟩ := hopmeshref03_Update.mono_l k
  unfold hopmeshref03_Update.f
  repeat' first
      | (with_reducible exact ih0 _ _ _)
      | (with_reducible exact ih1 _ _ _ _)
      | (with_reducible exact LeO.refl _)
      | (with_reducible exact LeO.none _)
      | (with_reducible refine LeO.ite ?_ ?_)
      | (with_reducible refine LeO.bind ?_ (fun _ => ?_))
      | exact ih0 _ _ _
      | exact ih1 _ _ _ _
      | exact LeO.none _
      | refine LeO.ite ?_ ?_
      | refine LeO.bind ?_ (fun _ => ?_)
set_option maxHeartbeats 8000000 in
set_option maxRecDepth 100000 in
theorem hopmeshref03_Update.calls (k : Nat) (a0 : Int) (a1 : ByteArray) (r : Int) (w : World) (h : hopmeshref03_Update.f k a0 a1 = some r) :
    Calls Try.prog 20 #[.int .u16 a0, .string a1] w fun e w' => e = .returned (.int .u16 r) ∧ Drawn0 w w' := by
  have H : (hopmeshref03_Update.l0 k a0 a1 0) = some r := h
  clear h
  have H' := Aside0.mk H
  clear H
  go_enter Try.func20, Try.ntmps20
  go_wp2
  go_loopg [0, 5] k (fun kq v0 v5 w' => ∃ (x0_1 : Int) (x5_1 : Int), v0 = .int .u16 x0_1 ∧ v5 = .int .i64 x5_1 ∧ Aside0 (hopmeshref03_Update.l0 kq x0_1 a1 x5_1 = some r) ∧ Aside0 (kq ≤ k) ∧ Drawn0 w w')
  case atStart => exact ⟨(a0), (0), (by first | rfl | (simp; done) | (simp [*]; done)), (by first | rfl | (simp; done) | (simp [*]; done)), H', ⟨Nat.le_refl _⟩, by repeat (first | exact Drawn0.refl _ | apply Drawn0.step)⟩
  case round =>
    clear H'
    try clear c2
    try clear p2
    obtain ⟨x0_1, x5_1, rfl, rfl, HA, HK1, ⟨m1, rfl⟩⟩ := hrel
    cases gk with
    | zero => exact absurd HA.out (by simp [hopmeshref03_Update.l0])
    | succ k1 =>
      have H := HA.out
      clear HA
      simp only [hopmeshref03_Update.l0] at H
      by_cases c3 : x5_1 < (a1.size : Int)
      · rw [if_pos c3] at H
        have c3b0 : decide (x5_1 < (a1.size : Int)) = true := decide_eq_true c3
        clear c3
        by_cases c4 : 0 ≤ x5_1
        · rw [if_pos c4] at H
          have c4b0 : decide (0 ≤ x5_1) = true := decide_eq_true c4
          clear c4
          have H' := Aside0.mk H
          clear H
          have p5 : 0 ≤ (x5_1 : Int) := of_decide_eq_true (by first | (with_reducible assumption) | assumption)
          have q5 : x5_1 < (a1.size : Int) := of_decide_eq_true (by first | (with_reducible assumption) | assumption)
          have hx5 := bt_at a1 x5_1
          replace p5 := eq_true p5
          replace q5 := eq_true q5
          go_wp2
          go_loopg [0, 6] k1 (fun kq v0 v6 w' => ∃ (x0_2 : Int) (x6_2 : Int), v0 = .int .u16 x0_2 ∧ v6 = .int .i64 x6_2 ∧ Aside0 (hopmeshref03_Update.l1 kq x0_2 a1 x5_1 x6_2 = some r) ∧ Aside0 (kq ≤ k1) ∧ Drawn0 w w')
          case atStart => exact ⟨(Go.bits .xor .u16 x0_1 (IntKind.u16.wrap ((IntKind.u16.wrap (bt a1 x5_1)) * 256))), (0), (by first | rfl | (simp; done) | (simp [*]; done)), (by first | rfl | (simp; done) | (simp [*]; done)), H', ⟨Nat.le_refl _⟩, by repeat (first | exact Drawn0.refl _ | apply Drawn0.step)⟩
          case round =>
            clear H'
            try clear c2
            try clear p2
            try clear c3
            try clear c3b0
            try clear c4
            try clear c4b0
            try clear p5
            try clear q5
            try clear hx5
            try clear p2
            try clear p5
            try clear q5
            obtain ⟨x0_2, x6_2, rfl, rfl, HA, HK2, ⟨m2, rfl⟩⟩ := hrel
            cases gk with
            | zero => exact absurd HA.out (by simp [hopmeshref03_Update.l1])
            | succ k2 =>
              have H := HA.out
              clear HA
              simp only [hopmeshref03_Update.l1] at H
              by_cases c6 : x6_2 < 8
              · rw [if_pos c6] at H
                have c6b0 : decide (x6_2 < 8) = true := decide_eq_true c6
                clear c6
                replace H := Option.bind_eq_some_iff.mp H
                obtain ⟨t140, A70, H⟩ := H
                replace H : (hopmeshref03_Update.l1 k2 t140 a1 x5_1 (wrap64 (x6_2 + 1))) = some r := H
                have A7 := Aside0.mk A70
                clear A70
                have H' := Aside0.mk H
                clear H
                go_wp2_with (first | ((with_reducible refine gate_callee (f := 28) rfl ?_); refine goesL_ (some 25) rfl rfl Try.func28 (by kernel_rfl) rfl #[.int .u16 x0_2] rfl (by (try simp only [List.map_toArray, List.map_cons, List.map_nil]); first | done | rfl | (simp only [List.length_drop, List.length_take]; rfl)) ?_; (with_reducible refine (hopmeshref03_Times.calls x0_2 t140 _ A7.out).mono ?_); rintro e w' ⟨rfl, ⟨nd, rfl⟩⟩; refine ⟨_, rfl, ?_⟩))
                go_roundg k2
                case measure => have := HK1.out; have := HK2.out; omega
                case rel => exact ⟨(t140), (wrap64 (x6_2 + 1)), (by first | rfl | (simp; done) | (simp [*]; done)), (by first | rfl | (simp; done) | (simp [*]; done)), H', ⟨by have := HK1.out; have := HK2.out; omega⟩, by repeat (first | exact Drawn0.refl _ | apply Drawn0.step)⟩
              · rw [if_neg c6] at H
                have c6b0 : decide (x6_2 < 8) = false := decide_eq_false c6
                clear c6
                have H' := Aside0.mk H
                clear H
                go_wp2
                go_roundg k2
                case measure => have := HK1.out; have := HK2.out; omega
                case rel => exact ⟨(x0_2), (wrap64 (x5_1 + 1)), (by first | rfl | (simp; done) | (simp [*]; done)), (by first | rfl | (simp; done) | (simp [*]; done)), H', ⟨by have := HK1.out; have := HK2.out; omega⟩, by repeat (first | exact Drawn0.refl _ | apply Drawn0.step)⟩
        · rw [if_neg c4] at H
          exact absurd H (by simp)
      · rw [if_neg c3] at H
        have c3b0 : decide (x5_1 < (a1.size : Int)) = false := decide_eq_false c3
        clear c3
        obtain rfl := Option.some.inj H
        go_wp2
        go_ret
        exact ⟨by first | rfl | (simp; done) | (simp [*]; done), by repeat (first | exact Drawn0.refl _ | apply Drawn0.step)⟩

/-! ### hopmeshref03_Sum: function 18 -/
def hopmeshref03_Sum.f (k : Nat) (a0 : ByteArray) : Option (Int) := (hopmeshref03_Update.f k 0 a0).bind fun t141 => (some t141)
theorem hopmeshref03_Sum.mono : ∀ a0 k, LeO (hopmeshref03_Sum.f k a0) (hopmeshref03_Sum.f (k + 1) a0) := by
  intro a0 k
  unfold hopmeshref03_Sum.f
  repeat' first
      | (with_reducible exact hopmeshref03_Update.mono _ _ _)
      | (with_reducible exact LeO.refl _)
      | (with_reducible exact LeO.none _)
      | (with_reducible refine LeO.ite ?_ ?_)
      | (with_reducible refine LeO.bind ?_ (fun _ => ?_))
      | exact hopmeshref03_Update.mono _ _ _
      | exact LeO.none _
      | refine LeO.ite ?_ ?_
      | refine LeO.bind ?_ (fun _ => ?_)
set_option maxHeartbeats 8000000 in
set_option maxRecDepth 100000 in
theorem hopmeshref03_Sum.calls (k : Nat) (a0 : ByteArray) (r : Int) (w : World) (h : hopmeshref03_Sum.f k a0 = some r) :
    Calls Try.prog 18 #[.string a0] w fun e w' => e = .returned (.int .u16 r) ∧ Drawn0 w w' := by
  have H : ((hopmeshref03_Update.f k 0 a0).bind fun t141 => (some t141)) = some r := h
  clear h
  replace H := Option.bind_eq_some_iff.mp H
  obtain ⟨t141, A20, H⟩ := H
  replace H : (some t141) = some r := H
  have A2 := Aside0.mk A20
  clear A20
  obtain rfl := Option.some.inj H
  go_enter Try.func18, Try.ntmps18
  go_wp2_with (first | ((with_reducible refine gate_callee (f := 20) rfl ?_); refine goesL_ (some 4) rfl rfl Try.func20 (by kernel_rfl) rfl #[.int .u16 0, .string a0] rfl (by (try simp only [List.map_toArray, List.map_cons, List.map_nil]); first | done | rfl | (simp only [List.length_drop, List.length_take]; rfl)) ?_; (with_reducible refine (hopmeshref03_Update.calls k 0 a0 t141 _ A2.out).mono ?_); rintro e w' ⟨rfl, ⟨nd, rfl⟩⟩; refine ⟨_, rfl, ?_⟩))
  go_ret
  exact ⟨by first | rfl | (simp; done) | (simp [*]; done), by repeat (first | exact Drawn0.refl _ | apply Drawn0.step)⟩

end Go.Proofs.Ytkhkmmabbpfngaa.Q
