/- cellmsg.follows: the functions of the table, rows, and follows itself. Printed by wip/cmf2.py. (cut to what is reached: wip/tools/slimout2.py) -/
import Derived.Test.YtjjcgjpmhhkeaaaSFCmF
import Derived.Deep.QuietTactic
import Derived.BigQuiet
namespace Go.Proofs.Ytjjcgjpmhhkeaaa.CmG
set_option linter.unusedSimpArgs false
set_option linter.unusedVariables false
open Go.RowKit Go.Proofs.Ytjjcgjpmhhkeaaa.CmF
variable (k : Int) (r : Bool) (n cd ct : Int) (A : Option Addr) (s c : Nat) (A' : Option Addr) (o c' : Nat)
theorem boxM (cs : Array Value) (w : World) : Below w.heap.size w (w.alloc (.cells cs TMs)) := (Below.refl _ _).alloc (Nat.le_refl _) _
def b1 (ct : Int) (s o : Nat) : Bool := decide (ct = 0) && decide ((s : Int) = 0) && decide ((o : Int) = 0)
def b2 (ct : Int) (s o : Nat) : Bool := decide ((s : Int) = 0) && decide (1 ≤ (o : Int)) && decide (ct = (o : Int))
def b3 (ct : Int) (s o : Nat) : Bool := decide (1 ≤ ct) && decide (ct ≤ 8) && decide (ct ≤ (s : Int)) && decide ((o : Int) = 0)
def b4 (ct : Int) (s o : Nat) : Bool := decide (1 ≤ (s : Int)) && decide (ct = (s : Int)) && decide ((o : Int) = 0)
def b5 (ct : Int) (s o : Nat) : Bool := decide (1 ≤ (o : Int)) && decide (ct = (o : Int)) && decide (ct ≤ (s : Int))
def b6 (ct : Int) (s o : Nat) : Bool := decide (1 ≤ (o : Int)) && decide (ct = (o : Int)) && decide ((s : Int) = (o : Int))
def b7 (ct : Int) (s o : Nat) : Bool := decide ((s : Int) = 0) && decide ((o : Int) = 0)
def b8 (ct : Int) (s o : Nat) : Bool := decide ((s : Int) = min 8 ct) && decide ((o : Int) = 0)
set_option maxRecDepth 100000 in
set_option maxHeartbeats 2000000 in
theorem row1_any (hs : s ≤ 9223372036854775807) (ho : o ≤ 9223372036854775807) (w : World) : Calls Try.prog 71 #[.agg (ms k r n cd ct A s c A' o c')] w fun e w' => e = .returned (.bool (b1 ct s o)) ∧ Below w.heap.size w w' := by
  have HB := Lib.hid (boxM (ms k r n cd ct A s c A' o c') w)
  by_cases g0 : ct = 0
  · have d0 : decide (ct = 0) = true := decide_eq_true g0
    have e0 : (ct == 0) = true := d0
    by_cases g1 : (s : Int) = 0
    · have d1 : decide ((s : Int) = 0) = true := decide_eq_true g1
      have e1 : ((s : Int) == 0) = true := d1
      by_cases g2 : (o : Int) = 0
      · have d2 : decide ((o : Int) = 0) = true := decide_eq_true g2
        have e2 : ((o : Int) == 0) = true := d2
        have HV : Hid (b1 ct s o = true) := Lib.hid (by unfold b1; simp only [d0, d1, d2]; rfl)
        clear g0 g1 g2
        go_enter Try.func71, Try.ntmps71
        go_wp2
        go_ret
        exact ⟨by rw [HV.out]; rfl, HB.out⟩
      · have d2 : decide ((o : Int) = 0) = false := decide_eq_false g2
        have e2 : ((o : Int) == 0) = false := d2
        have HV : Hid (b1 ct s o = false) := Lib.hid (by unfold b1; simp only [d0, d1, d2]; rfl)
        clear g0 g1 g2
        go_enter Try.func71, Try.ntmps71
        go_wp2
        go_ret
        exact ⟨by rw [HV.out]; rfl, HB.out⟩
    · have d1 : decide ((s : Int) = 0) = false := decide_eq_false g1
      have e1 : ((s : Int) == 0) = false := d1
      have HV : Hid (b1 ct s o = false) := Lib.hid (by unfold b1; simp only [d0, d1]; rfl)
      clear g0 g1
      go_enter Try.func71, Try.ntmps71
      go_wp2
      go_ret
      exact ⟨by rw [HV.out]; rfl, HB.out⟩
  · have d0 : decide (ct = 0) = false := decide_eq_false g0
    have e0 : (ct == 0) = false := d0
    have HV : Hid (b1 ct s o = false) := Lib.hid (by unfold b1; simp only [d0]; rfl)
    clear g0
    go_enter Try.func71, Try.ntmps71
    go_wp2
    go_ret
    exact ⟨by rw [HV.out]; rfl, HB.out⟩
set_option maxRecDepth 100000 in
set_option maxHeartbeats 2000000 in
theorem row2_any (hs : s ≤ 9223372036854775807) (ho : o ≤ 9223372036854775807) (w : World) : Calls Try.prog 72 #[.agg (ms k r n cd ct A s c A' o c')] w fun e w' => e = .returned (.bool (b2 ct s o)) ∧ Below w.heap.size w w' := by
  have HB := Lib.hid (boxM (ms k r n cd ct A s c A' o c') w)
  by_cases g0 : (s : Int) = 0
  · have d0 : decide ((s : Int) = 0) = true := decide_eq_true g0
    have e0 : ((s : Int) == 0) = true := d0
    by_cases g1 : 1 ≤ (o : Int)
    · have d1 : decide (1 ≤ (o : Int)) = true := decide_eq_true g1
      by_cases g2 : ct = (o : Int)
      · have d2 : decide (ct = (o : Int)) = true := decide_eq_true g2
        have e2 : (ct == (o : Int)) = true := d2
        have HV : Hid (b2 ct s o = true) := Lib.hid (by unfold b2; simp only [d0, d1, d2]; rfl)
        clear g0 g1 g2
        go_enter Try.func72, Try.ntmps72
        go_wp2
        go_ret
        exact ⟨by rw [HV.out]; rfl, HB.out⟩
      · have d2 : decide (ct = (o : Int)) = false := decide_eq_false g2
        have e2 : (ct == (o : Int)) = false := d2
        have HV : Hid (b2 ct s o = false) := Lib.hid (by unfold b2; simp only [d0, d1, d2]; rfl)
        clear g0 g1 g2
        go_enter Try.func72, Try.ntmps72
        go_wp2
        go_ret
        exact ⟨by rw [HV.out]; rfl, HB.out⟩
    · have d1 : decide (1 ≤ (o : Int)) = false := decide_eq_false g1
      have HV : Hid (b2 ct s o = false) := Lib.hid (by unfold b2; simp only [d0, d1]; rfl)
      clear g0 g1
      go_enter Try.func72, Try.ntmps72
      go_wp2
      go_ret
      exact ⟨by rw [HV.out]; rfl, HB.out⟩
  · have d0 : decide ((s : Int) = 0) = false := decide_eq_false g0
    have e0 : ((s : Int) == 0) = false := d0
    have HV : Hid (b2 ct s o = false) := Lib.hid (by unfold b2; simp only [d0]; rfl)
    clear g0
    go_enter Try.func72, Try.ntmps72
    go_wp2
    go_ret
    exact ⟨by rw [HV.out]; rfl, HB.out⟩
set_option maxRecDepth 100000 in
set_option maxHeartbeats 2000000 in
theorem row3_any (hs : s ≤ 9223372036854775807) (ho : o ≤ 9223372036854775807) (w : World) : Calls Try.prog 73 #[.agg (ms k r n cd ct A s c A' o c')] w fun e w' => e = .returned (.bool (b3 ct s o)) ∧ Below w.heap.size w w' := by
  have HB := Lib.hid (boxM (ms k r n cd ct A s c A' o c') w)
  by_cases g0 : 1 ≤ ct
  · have d0 : decide (1 ≤ ct) = true := decide_eq_true g0
    by_cases g1 : ct ≤ 8
    · have d1 : decide (ct ≤ 8) = true := decide_eq_true g1
      by_cases g2 : ct ≤ (s : Int)
      · have d2 : decide (ct ≤ (s : Int)) = true := decide_eq_true g2
        by_cases g3 : (o : Int) = 0
        · have d3 : decide ((o : Int) = 0) = true := decide_eq_true g3
          have e3 : ((o : Int) == 0) = true := d3
          have HV : Hid (b3 ct s o = true) := Lib.hid (by unfold b3; simp only [d0, d1, d2, d3]; rfl)
          clear g0 g1 g2 g3
          go_enter Try.func73, Try.ntmps73
          go_wp2
          go_ret
          exact ⟨by rw [HV.out]; rfl, HB.out⟩
        · have d3 : decide ((o : Int) = 0) = false := decide_eq_false g3
          have e3 : ((o : Int) == 0) = false := d3
          have HV : Hid (b3 ct s o = false) := Lib.hid (by unfold b3; simp only [d0, d1, d2, d3]; rfl)
          clear g0 g1 g2 g3
          go_enter Try.func73, Try.ntmps73
          go_wp2
          go_ret
          exact ⟨by rw [HV.out]; rfl, HB.out⟩
      · have d2 : decide (ct ≤ (s : Int)) = false := decide_eq_false g2
        have HV : Hid (b3 ct s o = false) := Lib.hid (by unfold b3; simp only [d0, d1, d2]; rfl)
        clear g0 g1 g2
        go_enter Try.func73, Try.ntmps73
        go_wp2
        go_ret
        exact ⟨by rw [HV.out]; rfl, HB.out⟩
    · have d1 : decide (ct ≤ 8) = false := decide_eq_false g1
      have HV : Hid (b3 ct s o = false) := Lib.hid (by unfold b3; simp only [d0, d1]; rfl)
      clear g0 g1
      go_enter Try.func73, Try.ntmps73
      go_wp2
      go_ret
      exact ⟨by rw [HV.out]; rfl, HB.out⟩
  · have d0 : decide (1 ≤ ct) = false := decide_eq_false g0
    have HV : Hid (b3 ct s o = false) := Lib.hid (by unfold b3; simp only [d0]; rfl)
    clear g0
    go_enter Try.func73, Try.ntmps73
    go_wp2
    go_ret
    exact ⟨by rw [HV.out]; rfl, HB.out⟩
set_option maxRecDepth 100000 in
set_option maxHeartbeats 2000000 in
theorem row4_any (hs : s ≤ 9223372036854775807) (ho : o ≤ 9223372036854775807) (w : World) : Calls Try.prog 74 #[.agg (ms k r n cd ct A s c A' o c')] w fun e w' => e = .returned (.bool (b4 ct s o)) ∧ Below w.heap.size w w' := by
  have HB := Lib.hid (boxM (ms k r n cd ct A s c A' o c') w)
  by_cases g0 : 1 ≤ (s : Int)
  · have d0 : decide (1 ≤ (s : Int)) = true := decide_eq_true g0
    by_cases g1 : ct = (s : Int)
    · have d1 : decide (ct = (s : Int)) = true := decide_eq_true g1
      have e1 : (ct == (s : Int)) = true := d1
      by_cases g2 : (o : Int) = 0
      · have d2 : decide ((o : Int) = 0) = true := decide_eq_true g2
        have e2 : ((o : Int) == 0) = true := d2
        have HV : Hid (b4 ct s o = true) := Lib.hid (by unfold b4; simp only [d0, d1, d2]; rfl)
        clear g0 g1 g2
        go_enter Try.func74, Try.ntmps74
        go_wp2
        go_ret
        exact ⟨by rw [HV.out]; rfl, HB.out⟩
      · have d2 : decide ((o : Int) = 0) = false := decide_eq_false g2
        have e2 : ((o : Int) == 0) = false := d2
        have HV : Hid (b4 ct s o = false) := Lib.hid (by unfold b4; simp only [d0, d1, d2]; rfl)
        clear g0 g1 g2
        go_enter Try.func74, Try.ntmps74
        go_wp2
        go_ret
        exact ⟨by rw [HV.out]; rfl, HB.out⟩
    · have d1 : decide (ct = (s : Int)) = false := decide_eq_false g1
      have e1 : (ct == (s : Int)) = false := d1
      have HV : Hid (b4 ct s o = false) := Lib.hid (by unfold b4; simp only [d0, d1]; rfl)
      clear g0 g1
      go_enter Try.func74, Try.ntmps74
      go_wp2
      go_ret
      exact ⟨by rw [HV.out]; rfl, HB.out⟩
  · have d0 : decide (1 ≤ (s : Int)) = false := decide_eq_false g0
    have HV : Hid (b4 ct s o = false) := Lib.hid (by unfold b4; simp only [d0]; rfl)
    clear g0
    go_enter Try.func74, Try.ntmps74
    go_wp2
    go_ret
    exact ⟨by rw [HV.out]; rfl, HB.out⟩
set_option maxRecDepth 100000 in
set_option maxHeartbeats 2000000 in
theorem row5_any (hs : s ≤ 9223372036854775807) (ho : o ≤ 9223372036854775807) (w : World) : Calls Try.prog 75 #[.agg (ms k r n cd ct A s c A' o c')] w fun e w' => e = .returned (.bool (b5 ct s o)) ∧ Below w.heap.size w w' := by
  have HB := Lib.hid (boxM (ms k r n cd ct A s c A' o c') w)
  by_cases g0 : 1 ≤ (o : Int)
  · have d0 : decide (1 ≤ (o : Int)) = true := decide_eq_true g0
    by_cases g1 : ct = (o : Int)
    · have d1 : decide (ct = (o : Int)) = true := decide_eq_true g1
      have e1 : (ct == (o : Int)) = true := d1
      by_cases g2 : ct ≤ (s : Int)
      · have d2 : decide (ct ≤ (s : Int)) = true := decide_eq_true g2
        have HV : Hid (b5 ct s o = true) := Lib.hid (by unfold b5; simp only [d0, d1, d2]; rfl)
        clear g0 g1 g2
        go_enter Try.func75, Try.ntmps75
        go_wp2
        go_ret
        exact ⟨by rw [HV.out]; rfl, HB.out⟩
      · have d2 : decide (ct ≤ (s : Int)) = false := decide_eq_false g2
        have HV : Hid (b5 ct s o = false) := Lib.hid (by unfold b5; simp only [d0, d1, d2]; rfl)
        clear g0 g1 g2
        go_enter Try.func75, Try.ntmps75
        go_wp2
        go_ret
        exact ⟨by rw [HV.out]; rfl, HB.out⟩
    · have d1 : decide (ct = (o : Int)) = false := decide_eq_false g1
      have e1 : (ct == (o : Int)) = false := d1
      have HV : Hid (b5 ct s o = false) := Lib.hid (by unfold b5; simp only [d0, d1]; rfl)
      clear g0 g1
      go_enter Try.func75, Try.ntmps75
      go_wp2
      go_ret
      exact ⟨by rw [HV.out]; rfl, HB.out⟩
  · have d0 : decide (1 ≤ (o : Int)) = false := decide_eq_false g0
    have HV : Hid (b5 ct s o = false) := Lib.hid (by unfold b5; simp only [d0]; rfl)
    clear g0
    go_enter Try.func75, Try.ntmps75
    go_wp2
    go_ret
    exact ⟨by rw [HV.out]; rfl, HB.out⟩
set_option maxRecDepth 100000 in
set_option maxHeartbeats 2000000 in
theorem row6_any (hs : s ≤ 9223372036854775807) (ho : o ≤ 9223372036854775807) (w : World) : Calls Try.prog 76 #[.agg (ms k r n cd ct A s c A' o c')] w fun e w' => e = .returned (.bool (b6 ct s o)) ∧ Below w.heap.size w w' := by
  have HB := Lib.hid (boxM (ms k r n cd ct A s c A' o c') w)
  by_cases g0 : 1 ≤ (o : Int)
  · have d0 : decide (1 ≤ (o : Int)) = true := decide_eq_true g0
    by_cases g1 : ct = (o : Int)
    · have d1 : decide (ct = (o : Int)) = true := decide_eq_true g1
      have e1 : (ct == (o : Int)) = true := d1
      by_cases g2 : (s : Int) = (o : Int)
      · have d2 : decide ((s : Int) = (o : Int)) = true := decide_eq_true g2
        have e2 : ((s : Int) == (o : Int)) = true := d2
        have HV : Hid (b6 ct s o = true) := Lib.hid (by unfold b6; simp only [d0, d1, d2]; rfl)
        clear g0 g1 g2
        go_enter Try.func76, Try.ntmps76
        go_wp2
        go_ret
        exact ⟨by rw [HV.out]; rfl, HB.out⟩
      · have d2 : decide ((s : Int) = (o : Int)) = false := decide_eq_false g2
        have e2 : ((s : Int) == (o : Int)) = false := d2
        have HV : Hid (b6 ct s o = false) := Lib.hid (by unfold b6; simp only [d0, d1, d2]; rfl)
        clear g0 g1 g2
        go_enter Try.func76, Try.ntmps76
        go_wp2
        go_ret
        exact ⟨by rw [HV.out]; rfl, HB.out⟩
    · have d1 : decide (ct = (o : Int)) = false := decide_eq_false g1
      have e1 : (ct == (o : Int)) = false := d1
      have HV : Hid (b6 ct s o = false) := Lib.hid (by unfold b6; simp only [d0, d1]; rfl)
      clear g0 g1
      go_enter Try.func76, Try.ntmps76
      go_wp2
      go_ret
      exact ⟨by rw [HV.out]; rfl, HB.out⟩
  · have d0 : decide (1 ≤ (o : Int)) = false := decide_eq_false g0
    have HV : Hid (b6 ct s o = false) := Lib.hid (by unfold b6; simp only [d0]; rfl)
    clear g0
    go_enter Try.func76, Try.ntmps76
    go_wp2
    go_ret
    exact ⟨by rw [HV.out]; rfl, HB.out⟩
set_option maxRecDepth 100000 in
set_option maxHeartbeats 2000000 in
theorem row7_any (hs : s ≤ 9223372036854775807) (ho : o ≤ 9223372036854775807) (w : World) : Calls Try.prog 77 #[.agg (ms k r n cd ct A s c A' o c')] w fun e w' => e = .returned (.bool (b7 ct s o)) ∧ Below w.heap.size w w' := by
  have HB := Lib.hid (boxM (ms k r n cd ct A s c A' o c') w)
  by_cases g0 : (s : Int) = 0
  · have d0 : decide ((s : Int) = 0) = true := decide_eq_true g0
    have e0 : ((s : Int) == 0) = true := d0
    by_cases g1 : (o : Int) = 0
    · have d1 : decide ((o : Int) = 0) = true := decide_eq_true g1
      have e1 : ((o : Int) == 0) = true := d1
      have HV : Hid (b7 ct s o = true) := Lib.hid (by unfold b7; simp only [d0, d1]; rfl)
      clear g0 g1
      go_enter Try.func77, Try.ntmps77
      go_wp2
      go_ret
      exact ⟨by rw [HV.out]; rfl, HB.out⟩
    · have d1 : decide ((o : Int) = 0) = false := decide_eq_false g1
      have e1 : ((o : Int) == 0) = false := d1
      have HV : Hid (b7 ct s o = false) := Lib.hid (by unfold b7; simp only [d0, d1]; rfl)
      clear g0 g1
      go_enter Try.func77, Try.ntmps77
      go_wp2
      go_ret
      exact ⟨by rw [HV.out]; rfl, HB.out⟩
  · have d0 : decide ((s : Int) = 0) = false := decide_eq_false g0
    have e0 : ((s : Int) == 0) = false := d0
    have HV : Hid (b7 ct s o = false) := Lib.hid (by unfold b7; simp only [d0]; rfl)
    clear g0
    go_enter Try.func77, Try.ntmps77
    go_wp2
    go_ret
    exact ⟨by rw [HV.out]; rfl, HB.out⟩
set_option maxRecDepth 100000 in
set_option maxHeartbeats 2000000 in
theorem row8_lt (hm : ct < 8) (hs : s ≤ 9223372036854775807) (ho : o ≤ 9223372036854775807) (w : World) : Calls Try.prog 78 #[.agg (ms k r n cd ct A s c A' o c')] w fun e w' => e = .returned (.bool (b8 ct s o)) ∧ Below w.heap.size w w' := by
  have HB := Lib.hid (boxM (ms k r n cd ct A s c A' o c') w)
  by_cases g0 : (s : Int) = ct
  · have d0 : decide ((s : Int) = ct) = true := decide_eq_true g0
    have e0 : ((s : Int) == ct) = true := d0
    by_cases g1 : (o : Int) = 0
    · have d1 : decide ((o : Int) = 0) = true := decide_eq_true g1
      have e1 : ((o : Int) == 0) = true := d1
      have HV : Hid (b8 ct s o = true) := Lib.hid (by unfold b8; rw [show min 8 ct = ct by omega]; simp only [d0, d1]; rfl)
      clear g0 g1
      go_enter Try.func78, Try.ntmps78
      go_wp2
      go_ret
      exact ⟨by rw [HV.out]; rfl, HB.out⟩
    · have d1 : decide ((o : Int) = 0) = false := decide_eq_false g1
      have e1 : ((o : Int) == 0) = false := d1
      have HV : Hid (b8 ct s o = false) := Lib.hid (by unfold b8; rw [show min 8 ct = ct by omega]; simp only [d0, d1]; rfl)
      clear g0 g1
      go_enter Try.func78, Try.ntmps78
      go_wp2
      go_ret
      exact ⟨by rw [HV.out]; rfl, HB.out⟩
  · have d0 : decide ((s : Int) = ct) = false := decide_eq_false g0
    have e0 : ((s : Int) == ct) = false := d0
    have HV : Hid (b8 ct s o = false) := Lib.hid (by unfold b8; rw [show min 8 ct = ct by omega]; simp only [d0]; rfl)
    clear g0
    go_enter Try.func78, Try.ntmps78
    go_wp2
    go_ret
    exact ⟨by rw [HV.out]; rfl, HB.out⟩
set_option maxRecDepth 100000 in
set_option maxHeartbeats 2000000 in
theorem row8_ge (hm : 8 ≤ ct) (hs : s ≤ 9223372036854775807) (ho : o ≤ 9223372036854775807) (w : World) : Calls Try.prog 78 #[.agg (ms k r n cd ct A s c A' o c')] w fun e w' => e = .returned (.bool (b8 ct s o)) ∧ Below w.heap.size w w' := by
  have HB := Lib.hid (boxM (ms k r n cd ct A s c A' o c') w)
  by_cases g0 : (s : Int) = 8
  · have d0 : decide ((s : Int) = 8) = true := decide_eq_true g0
    have e0 : ((s : Int) == 8) = true := d0
    by_cases g1 : (o : Int) = 0
    · have d1 : decide ((o : Int) = 0) = true := decide_eq_true g1
      have e1 : ((o : Int) == 0) = true := d1
      have HV : Hid (b8 ct s o = true) := Lib.hid (by unfold b8; rw [show min 8 ct = 8 by omega]; simp only [d0, d1]; rfl)
      clear g0 g1
      go_enter Try.func78, Try.ntmps78
      go_wp2
      go_ret
      exact ⟨by rw [HV.out]; rfl, HB.out⟩
    · have d1 : decide ((o : Int) = 0) = false := decide_eq_false g1
      have e1 : ((o : Int) == 0) = false := d1
      have HV : Hid (b8 ct s o = false) := Lib.hid (by unfold b8; rw [show min 8 ct = 8 by omega]; simp only [d0, d1]; rfl)
      clear g0 g1
      go_enter Try.func78, Try.ntmps78
      go_wp2
      go_ret
      exact ⟨by rw [HV.out]; rfl, HB.out⟩
  · have d0 : decide ((s : Int) = 8) = false := decide_eq_false g0
    have e0 : ((s : Int) == 8) = false := d0
    have HV : Hid (b8 ct s o = false) := Lib.hid (by unfold b8; rw [show min 8 ct = 8 by omega]; simp only [d0]; rfl)
    clear g0
    go_enter Try.func78, Try.ntmps78
    go_wp2
    go_ret
    exact ⟨by rw [HV.out]; rfl, HB.out⟩
theorem row8_any (hs : s ≤ 9223372036854775807) (ho : o ≤ 9223372036854775807) (w : World) : Calls Try.prog 78 #[.agg (ms k r n cd ct A s c A' o c')] w fun e w' => e = .returned (.bool (b8 ct s o)) ∧ Below w.heap.size w w' := by
  by_cases h : ct < 8
  · exact row8_lt k r n cd ct A s c A' o c' h hs ho w
  · exact row8_ge k r n cd ct A s c A' o c' (by omega) hs ho w
def IsTable (w : World) (e : Ending) (w' : World) : Prop := ∃ o, e = .returned (.map (some w.heap.size)) ∧ Below w.heap.size w w' ∧ w'.heap[w.heap.size]? = some o ∧ Table w.heap.size o
set_option maxRecDepth 100000 in
set_option maxHeartbeats 2000000 in
theorem rows_any (w : World) : Calls Try.prog 54 #[] w (IsTable w) := by
  obtain ⟨w1, w2, w3, w4, w5, w6, o, r1, r2, r3, r4, r5, r6, hb, hl, ho, hT⟩ := table w
  have HB := Lib.hid hb
  have HO := Lib.hid ho
  have HT := Lib.hid hT
  have hmm := @run_makeMap Try.prog
  clear hb ho hT hl
  go_enter Try.func54, Try.ntmps54
  go_wp2_with fail
  go_ret
  exact ⟨o, rfl, HB.out, HO.out, HT.out⟩
end Go.Proofs.Ytjjcgjpmhhkeaaa.CmG
