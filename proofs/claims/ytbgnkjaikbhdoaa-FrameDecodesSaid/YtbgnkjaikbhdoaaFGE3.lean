/- ! ### hopmeshref02_Reader_Text: function 48 (cut to what is reached: wip/tools/slimout2.py) -/
import Derived.Test.YtbgnkjaikbhdoaaFGE0
import Derived.Test.YtbgnkjaikbhdoaaFGE1
import Derived.Test.YtbgnkjaikbhdoaaFGE2
namespace Go.Proofs.Ytbgnkjaikbhdoaa.E
open Go.RowKit Go.Proofs.YtbgnkjaikbhdoaaW.PrintWords Go.Proofs.YtbgnkjaikbhdoaaW.PrintLast Go.Proofs.YtbgnkjaikbhdoaaW.PrintMore
attribute [local go_sem] max2_int min2_int max_two min_two max_three min_three max_four min_four   -- for this text's walks alone
set_option linter.unusedVariables false
set_option linter.unusedSimpArgs false
mutual
def hopmeshref02_Reader_Text.j0 : Nat → Int → Bool → ByteArray → Int → Int → Option (ByteArray × ByteArray × Int × Int)
  | 0, _, _, _, _, _ => none
  | k + 1, x1, x20, x1000, x1001, x1002 => if x20 = true then ((hopmeshref02_Reader_fail.f x1000 x1001 x1002 1).bind fun bt136 => (hopmeshref02_Reader_Text.j1 k x1 bt136.1 bt136.2.1 bt136.2.2)) else (hopmeshref02_Reader_Text.j1 k x1 x1000 x1001 x1002)
def hopmeshref02_Reader_Text.j1 : Nat → Int → ByteArray → Int → Int → Option (ByteArray × ByteArray × Int × Int)
  | 0, _, _, _, _ => none
  | k + 1, x1, x1000, x1001, x1002 => (hopmeshref02_Width.f k x1).bind fun t139 => ((hopmeshref02_Reader_get.f k x1000 x1001 x1002 t139).bind fun bt140 => (if bt140.2.2.2 = 0 then (hopmeshref02_Reader_Text.j2 k bt140.1 (decide (bt140.1 > x1)) bt140.2.1 bt140.2.2.1 bt140.2.2.2) else (hopmeshref02_Reader_Text.j2 k bt140.1 false bt140.2.1 bt140.2.2.1 bt140.2.2.2)))
def hopmeshref02_Reader_Text.j2 : Nat → Int → Bool → ByteArray → Int → Int → Option (ByteArray × ByteArray × Int × Int)
  | 0, _, _, _, _, _ => none
  | k + 1, x5, x36, x1000, x1001, x1002 => if x36 = true then ((hopmeshref02_Reader_fail.f x1000 x1001 x1002 2).bind fun bt144 => (hopmeshref02_Reader_Text.j3 k x5 bt144.1 bt144.2.1 bt144.2.2)) else (hopmeshref02_Reader_Text.j3 k x5 x1000 x1001 x1002)
def hopmeshref02_Reader_Text.j3 : Nat → Int → ByteArray → Int → Int → Option (ByteArray × ByteArray × Int × Int)
  | 0, _, _, _, _ => none
  | k + 1, x5, x1000, x1001, x1002 => if x1002 = 0 then ((hopmeshref02_Reader_Left.f x1000 x1001 x1002).bind fun bt147 => (hopmeshref02_Reader_Text.j4 k x5 (decide (bt147.1 < (wrap64 (8 * x5)))) bt147.2.1 bt147.2.2.1 bt147.2.2.2)) else (hopmeshref02_Reader_Text.j4 k x5 false x1000 x1001 x1002)
def hopmeshref02_Reader_Text.j4 : Nat → Int → Bool → ByteArray → Int → Int → Option (ByteArray × ByteArray × Int × Int)
  | 0, _, _, _, _, _ => none
  | k + 1, x5, x50, x1000, x1001, x1002 => if x50 = true then ((hopmeshref02_Reader_fail.f x1000 x1001 x1002 9).bind fun bt151 => (hopmeshref02_Reader_Text.j5 k x5 bt151.1 bt151.2.1 bt151.2.2)) else (hopmeshref02_Reader_Text.j5 k x5 x1000 x1001 x1002)
def hopmeshref02_Reader_Text.j5 : Nat → Int → ByteArray → Int → Int → Option (ByteArray × ByteArray × Int × Int)
  | 0, _, _, _, _ => none
  | k + 1, x5, x1000, x1001, x1002 => if x1002 = 0 then (if 0 ≤ x5 then (if (x5 : Int).toNat ≤ 281474976710656 then (hopmeshref02_Reader_Text.l0 k x5 (List.replicate (x5 : Int).toNat 0) 0 x1000 x1001 x1002) else (none)) else (none)) else (some ((⟨#[]⟩ : ByteArray), x1000, x1001, x1002))
def hopmeshref02_Reader_Text.l0 : Nat → Int → List Int → Int → ByteArray → Int → Int → Option (ByteArray × ByteArray × Int × Int)
  | 0, _, _, _, _, _, _ => none
  | k + 1, x5, x6, x7, x1000, x1001, x1002 => if x7 < x5 then ((hopmeshref02_Reader_get.f k x1000 x1001 x1002 8).bind fun bt157 => (if 0 ≤ x7 then (if x7 < (x6.length : Int) then (hopmeshref02_Reader_Text.l0 k x5 (x6.set (x7 : Int).toNat ((bt157.1) % 256)) (wrap64 (x7 + 1)) bt157.2.1 bt157.2.2.1 bt157.2.2.2) else (none)) else (none))) else (some (strOfNums x6, x1000, x1001, x1002))
end
def hopmeshref02_Reader_Text.f (k : Nat) (s0_0 : ByteArray) (s0_1 : Int) (s0_2 : Int) (a1 : Int) : Option (ByteArray × ByteArray × Int × Int) := if s0_2 = 0 then (if a1 < 1 then (hopmeshref02_Reader_Text.j0 k a1 true s0_0 s0_1 s0_2) else (hopmeshref02_Reader_Text.j0 k a1 (decide (a1 > 4095)) s0_0 s0_1 s0_2)) else (hopmeshref02_Reader_Text.j0 k a1 false s0_0 s0_1 s0_2)
set_option maxHeartbeats 8000000 in
set_option maxRecDepth 100000 in
theorem hopmeshref02_Reader_Text.calls (k : Nat) (g : Nat) (s0_0 : ByteArray) (s0_1 : Int) (s0_2 : Int) (a1 : Int) (r1 : ByteArray) (r2 : ByteArray) (r3 : Int) (r4 : Int) (w0 w : World) (hI : IsS101 w0 w g s0_0 s0_1 s0_2) (hB : Below w0.heap.size w0 w) (h : hopmeshref02_Reader_Text.f k s0_0 s0_1 s0_2 a1 = some (r1, r2, r3, r4)) :
    Calls Try.prog 48 #[.pointer (some ⟨g, 0, none⟩), .int .i64 a1] w fun e w' => e = .returned (.string r1) ∧ IsS101 w0 w' g r2 r3 r4 ∧ Below w0.heap.size w0 w' ∧ KeepBut w w' g none := by
  have HI0 := Aside0.mk hI
  have HK := Aside0.mk (KeepBut.refl w g none)
  have HL := Aside0.mk hB.size
  clear hI
  have HW0 := Aside0.mk hB.size
  have HB := Aside0.mk hB
  clear hB
  have H : (if s0_2 = 0 then (if a1 < 1 then (hopmeshref02_Reader_Text.j0 k a1 true s0_0 s0_1 s0_2) else (hopmeshref02_Reader_Text.j0 k a1 (decide (a1 > 4095)) s0_0 s0_1 s0_2)) else (hopmeshref02_Reader_Text.j0 k a1 false s0_0 s0_1 s0_2)) = some (r1, r2, r3, r4) := h
  clear h
  have HC3 := Aside0.mk H
  clear H
  go_enter Try.func48, Try.ntmps48
  go_upto_region 1 with (fail)
  go_cut [20] (fun v20 wc => ∃ (kq : Nat) (x20_2 : Bool), v20 = .bool x20_2 ∧ Aside0 (hopmeshref02_Reader_Text.j0 kq a1 x20_2 s0_0 s0_1 s0_2 = some (r1, r2, r3, r4)) ∧ Aside0 (kq ≤ k) ∧ Aside0 (IsS101 w0 wc g s0_0 s0_1 s0_2) ∧ Aside0 (KeepBut w wc g none) ∧ Aside0 (Below w0.heap.size w0 wc))
  case first =>
    have H := HC3.out
    clear HC3
    by_cases c4 : s0_2 = 0
    · rw [if_pos c4] at H
      have c4b0 : (s0_2 == 0) = true := beq_iff_eq.mpr c4
      have c4b1 : (s0_2 != 0) = false := bne_eq_false_iff_eq.mpr c4
      clear c4
      (first | rw [c4b0] | (simp only [i64_w, i32_w]; rw [c4b0]) | skip)
      by_cases c5 : a1 < 1
      · rw [if_pos c5] at H
        have c5b0 : decide (a1 < 1) = true := decide_eq_true c5
        clear c5
        have H' := Aside0.mk H
        clear H
        obtain ⟨HGz6, hgz6⟩ := HI0.out
        have hcz6_0 := cellS101_0 HGz6
        have hcz6_1 := cellS101_1 HGz6
        have hcz6_2 := cellS101_2 HGz6
        have hfz6_0 := blk_frozen HGz6 0
        have hfz6_1 := blk_frozen HGz6 1
        have hfz6_2 := blk_frozen HGz6 2
        clear HGz6 hgz6
        go_wp2
        go_meet
        case rel => exact ⟨_, (true), (by first | rfl | (simp; done) | (simp [*]; done)), H', ⟨by first | omega | exact Nat.le_refl _⟩, ⟨by repeat (first | (with_reducible first | exact HI0.out | apply IsS101.alloc | apply IsS101.drewN | apply IsS101.drew | apply IsS101.set_0 | apply IsS101.set_1 | apply IsS101.set_2) | exact HI0.out)⟩, ⟨by repeat (first | (with_reducible first | exact HK.out | apply KeepBut.set_ | apply keep_drewN | apply keep_drew | apply keep_alloc) | exact HK.out)⟩, ⟨by repeat (first | (with_reducible first | exact HB.out | apply below_alloc | apply pw_below_drewN | apply below_drew1 | refine below_set ?_ (IsS101.ge HI0.out)) | exact HB.out)⟩⟩
      · rw [if_neg c5] at H
        have c5b0 : decide (a1 < 1) = false := decide_eq_false c5
        clear c5
        have H' := Aside0.mk H
        clear H
        obtain ⟨HGz7, hgz7⟩ := HI0.out
        have hcz7_0 := cellS101_0 HGz7
        have hcz7_1 := cellS101_1 HGz7
        have hcz7_2 := cellS101_2 HGz7
        have hfz7_0 := blk_frozen HGz7 0
        have hfz7_1 := blk_frozen HGz7 1
        have hfz7_2 := blk_frozen HGz7 2
        clear HGz7 hgz7
        go_wp2
        go_meet
        case rel => exact ⟨_, (decide (a1 > 4095)), (by first | rfl | (simp; done) | (simp [*]; done)), H', ⟨by first | omega | exact Nat.le_refl _⟩, ⟨by repeat (first | (with_reducible first | exact HI0.out | apply IsS101.alloc | apply IsS101.drewN | apply IsS101.drew | apply IsS101.set_0 | apply IsS101.set_1 | apply IsS101.set_2) | exact HI0.out)⟩, ⟨by repeat (first | (with_reducible first | exact HK.out | apply KeepBut.set_ | apply keep_drewN | apply keep_drew | apply keep_alloc) | exact HK.out)⟩, ⟨by repeat (first | (with_reducible first | exact HB.out | apply below_alloc | apply pw_below_drewN | apply below_drew1 | refine below_set ?_ (IsS101.ge HI0.out)) | exact HB.out)⟩⟩
    · rw [if_neg c4] at H
      have c4b0 : (s0_2 == 0) = false := beq_eq_false_iff_ne.mpr c4
      have c4b1 : (s0_2 != 0) = true := bne_iff_ne.mpr c4
      (first | rw [c4b0] | (simp only [i64_w, i32_w]; rw [c4b0]) | skip)
      have H' := Aside0.mk H
      clear H
      obtain ⟨HGz8, hgz8⟩ := HI0.out
      have hcz8_0 := cellS101_0 HGz8
      have hcz8_1 := cellS101_1 HGz8
      have hcz8_2 := cellS101_2 HGz8
      have hfz8_0 := blk_frozen HGz8 0
      have hfz8_1 := blk_frozen HGz8 1
      have hfz8_2 := blk_frozen HGz8 2
      clear HGz8 hgz8
      go_wp2
      go_meet
      case rel => exact ⟨_, (false), (by first | rfl | (simp; done) | (simp [*]; done)), H', ⟨by first | omega | exact Nat.le_refl _⟩, ⟨by repeat (first | (with_reducible first | exact HI0.out | apply IsS101.alloc | apply IsS101.drewN | apply IsS101.drew | apply IsS101.set_0 | apply IsS101.set_1 | apply IsS101.set_2) | exact HI0.out)⟩, ⟨by repeat (first | (with_reducible first | exact HK.out | apply KeepBut.set_ | apply keep_drewN | apply keep_drew | apply keep_alloc) | exact HK.out)⟩, ⟨by repeat (first | (with_reducible first | exact HB.out | apply below_alloc | apply pw_below_drewN | apply below_drew1 | refine below_set ?_ (IsS101.ge HI0.out)) | exact HB.out)⟩⟩
  case rest =>
    clear HC3
    obtain ⟨kq, x20_2, rfl, HA, HJ2, HI0, HK, HB⟩ := hcut
    cases kq with
    | zero => exact absurd HA.out (by simp [hopmeshref02_Reader_Text.j0])
    | succ kj2 =>
      have H := HA.out
      clear HA
      simp only [hopmeshref02_Reader_Text.j0] at H
      have HC9 := Aside0.mk H
      clear H
      go_upto_if 20 with (fail)
      go_cut [] (fun wc => ∃ (kq : Nat) (x1000_8 : ByteArray) (x1001_8 : Int) (x1002_8 : Int), Aside0 (hopmeshref02_Reader_Text.j1 kq a1 x1000_8 x1001_8 x1002_8 = some (r1, r2, r3, r4)) ∧ Aside0 (kq ≤ kj2) ∧ Aside0 (IsS101 w0 wc g x1000_8 x1001_8 x1002_8) ∧ Aside0 (KeepBut w wc g none) ∧ Aside0 (Below w0.heap.size w0 wc))
      case first =>
        have H := HC9.out
        clear HC9
        by_cases c10 : x20_2 = true
        · subst c10
          have H1 : ((hopmeshref02_Reader_fail.f s0_0 s0_1 s0_2 1).bind fun bt136 => (hopmeshref02_Reader_Text.j1 kj2 a1 bt136.1 bt136.2.1 bt136.2.2)) = some (r1, r2, r3, r4) := by rw [if_pos rfl] at H; exact H
          clear H
          have H := H1
          clear H1
          replace H := Option.bind_eq_some_iff.mp H
          obtain ⟨⟨t136, t137, t138⟩, A110, H⟩ := H
          replace H : (hopmeshref02_Reader_Text.j1 kj2 a1 t136 t137 t138) = some (r1, r2, r3, r4) := H
          have A11 := Aside0.mk A110
          clear A110
          have H' := Aside0.mk H
          clear H
          go_wp2_with (first | ((with_reducible refine gate_callee (f := 73) rfl ?_); refine goesL_ (some 22) rfl rfl Try.func73 (by kernel_rfl) rfl #[.pointer (some ⟨g, 0, none⟩), .int .i64 1] rfl (by (try simp only [List.map_toArray, List.map_cons, List.map_nil]); first | done | rfl | (simp only [List.length_drop, List.length_take]; rfl)) ?_; (with_reducible refine (hopmeshref02_Reader_fail.calls g s0_0 s0_1 s0_2 1 t136 t137 t138 w0 _ ?side1 ?side2 A11.out).mono ?_); (case side1 => repeat (first | (with_reducible first | exact HI0.out | apply IsS101.alloc | apply IsS101.drewN | apply IsS101.drew | apply IsS101.set_0 | apply IsS101.set_1 | apply IsS101.set_2) | exact HI0.out)); (case side2 => repeat (first | (with_reducible first | exact HB.out | apply below_alloc | apply pw_below_drewN | apply below_drew1 | refine below_set ?_ (IsS101.ge HI0.out)) | exact HB.out)); rintro e w12 ⟨rfl, hi, hb, hk⟩; refine ⟨_, rfl, ?_⟩; have n0_ := Aside0.mk (KeepBut.trans (by repeat (first | (with_reducible first | exact HK.out | apply KeepBut.set_ | apply keep_drewN | apply keep_drew | apply keep_alloc) | exact HK.out)) hk (.inl rfl)); have n1_ := Aside0.mk (hb); have n2_ := Aside0.mk (hi); clear HK; clear HB; clear HI0; have HK := n0_; have HB := n1_; have HI0 := n2_; clear n0_ n1_ n2_; (try clear hb); (try clear hb2); (try clear hk); (try clear hi)))
          go_meet
          case rel => exact ⟨_, (t136), (t137), (t138), H', ⟨by have := HJ2.out; first | omega | exact Nat.le_refl _⟩, ⟨by repeat (first | (with_reducible first | exact HI0.out | apply IsS101.alloc | apply IsS101.drewN | apply IsS101.drew | apply IsS101.set_0 | apply IsS101.set_1 | apply IsS101.set_2) | exact HI0.out)⟩, ⟨by repeat (first | (with_reducible first | exact HK.out | apply KeepBut.set_ | apply keep_drewN | apply keep_drew | apply keep_alloc) | exact HK.out)⟩, ⟨by repeat (first | (with_reducible first | exact HB.out | apply below_alloc | apply pw_below_drewN | apply below_drew1 | refine below_set ?_ (IsS101.ge HI0.out)) | exact HB.out)⟩⟩
        · replace c10 := Bool.eq_false_iff.mpr c10
          subst c10
          have H1 : (hopmeshref02_Reader_Text.j1 kj2 a1 s0_0 s0_1 s0_2) = some (r1, r2, r3, r4) := by rw [if_neg (show ¬ (false = true) by decide)] at H; exact H
          clear H
          have H := H1
          clear H1
          have H' := Aside0.mk H
          clear H
          go_wp2
          go_meet
          case rel => exact ⟨_, (s0_0), (s0_1), (s0_2), H', ⟨by have := HJ2.out; first | omega | exact Nat.le_refl _⟩, ⟨by repeat (first | (with_reducible first | exact HI0.out | apply IsS101.alloc | apply IsS101.drewN | apply IsS101.drew | apply IsS101.set_0 | apply IsS101.set_1 | apply IsS101.set_2) | exact HI0.out)⟩, ⟨by repeat (first | (with_reducible first | exact HK.out | apply KeepBut.set_ | apply keep_drewN | apply keep_drew | apply keep_alloc) | exact HK.out)⟩, ⟨by repeat (first | (with_reducible first | exact HB.out | apply below_alloc | apply pw_below_drewN | apply below_drew1 | refine below_set ?_ (IsS101.ge HI0.out)) | exact HB.out)⟩⟩
      case rest =>
        clear HC9
        obtain ⟨kq, x1000_8, x1001_8, x1002_8, HA, HJ8, HI0, HK, HB⟩ := hcut
        cases kq with
        | zero => exact absurd HA.out (by simp [hopmeshref02_Reader_Text.j1])
        | succ kj8 =>
          have H := HA.out
          clear HA
          simp only [hopmeshref02_Reader_Text.j1] at H
          replace H := Option.bind_eq_some_iff.mp H
          obtain ⟨t139, A130, H⟩ := H
          replace H : ((hopmeshref02_Reader_get.f kj8 x1000_8 x1001_8 x1002_8 t139).bind fun bt140 => (if bt140.2.2.2 = 0 then (hopmeshref02_Reader_Text.j2 kj8 bt140.1 (decide (bt140.1 > a1)) bt140.2.1 bt140.2.2.1 bt140.2.2.2) else (hopmeshref02_Reader_Text.j2 kj8 bt140.1 false bt140.2.1 bt140.2.2.1 bt140.2.2.2))) = some (r1, r2, r3, r4) := H
          have A13 := Aside0.mk A130
          clear A130
          replace H := Option.bind_eq_some_iff.mp H
          obtain ⟨⟨t140, t141, t142, t143⟩, A140, H⟩ := H
          replace H : (if t143 = 0 then (hopmeshref02_Reader_Text.j2 kj8 t140 (decide (t140 > a1)) t141 t142 t143) else (hopmeshref02_Reader_Text.j2 kj8 t140 false t141 t142 t143)) = some (r1, r2, r3, r4) := H
          have A14 := Aside0.mk A140
          clear A140
          have HC15 := Aside0.mk H
          clear H
          go_upto_region 4 with (first | ((with_reducible refine gate_callee (f := 65) rfl ?_); refine goesL_ (some 25) rfl rfl Try.func65 (by kernel_rfl) rfl #[.int .i64 a1] rfl (by (try simp only [List.map_toArray, List.map_cons, List.map_nil]); first | done | rfl | (simp only [List.length_drop, List.length_take]; rfl)) ?_; (with_reducible refine (hopmeshref02_Width.calls kj8 a1 t139 _ A13.out).mono ?_); rintro e w' ⟨rfl, ⟨nd, rfl⟩⟩; refine ⟨_, rfl, ?_⟩) | ((with_reducible refine gate_callee (f := 74) rfl ?_); refine goesL_ (some 26) rfl rfl Try.func74 (by kernel_rfl) rfl #[.pointer (some ⟨g, 0, none⟩), .int .i64 t139] rfl (by (try simp only [List.map_toArray, List.map_cons, List.map_nil]); first | done | rfl | (simp only [List.length_drop, List.length_take]; rfl)) ?_; (with_reducible refine (hopmeshref02_Reader_get.calls kj8 g x1000_8 x1001_8 x1002_8 t139 t140 t141 t142 t143 w0 _ ?side1 ?side2 A14.out).mono ?_); (case side1 => repeat (first | (with_reducible first | exact HI0.out | apply IsS101.alloc | apply IsS101.drewN | apply IsS101.drew | apply IsS101.set_0 | apply IsS101.set_1 | apply IsS101.set_2) | exact HI0.out)); (case side2 => repeat (first | (with_reducible first | exact HB.out | apply below_alloc | apply pw_below_drewN | apply below_drew1 | refine below_set ?_ (IsS101.ge HI0.out)) | exact HB.out)); rintro e w16 ⟨rfl, hi, hb, hk⟩; refine ⟨_, rfl, ?_⟩; have n0_ := Aside0.mk (KeepBut.trans (by repeat (first | (with_reducible first | exact HK.out | apply KeepBut.set_ | apply keep_drewN | apply keep_drew | apply keep_alloc) | exact HK.out)) hk (.inl rfl)); have n1_ := Aside0.mk (hb); have n2_ := Aside0.mk (hi); clear HK; clear HB; clear HI0; have HK := n0_; have HB := n1_; have HI0 := n2_; clear n0_ n1_ n2_; (try clear hb); (try clear hb2); (try clear hk); (try clear hi)))
          (try simp only [Act.put, List.setIfInBounds_toArray, List.set_cons_zero, List.set_cons_succ])
          go_cut [36] (fun v36 wc => ∃ (kq : Nat) (x36_14 : Bool), v36 = .bool x36_14 ∧ Aside0 (hopmeshref02_Reader_Text.j2 kq t140 x36_14 t141 t142 t143 = some (r1, r2, r3, r4)) ∧ Aside0 (kq ≤ kj8) ∧ Aside0 (IsS101 w0 wc g t141 t142 t143) ∧ Aside0 (KeepBut w wc g none) ∧ Aside0 (Below w0.heap.size w0 wc))
          case first =>
            have H := HC15.out
            clear HC15
            by_cases c17 : t143 = 0
            · rw [if_pos c17] at H
              have c17b0 : (t143 == 0) = true := beq_iff_eq.mpr c17
              have c17b1 : (t143 != 0) = false := bne_eq_false_iff_eq.mpr c17
              clear c17
              (first | rw [c17b0] | (simp only [i64_w, i32_w]; rw [c17b0]) | skip)
              have H' := Aside0.mk H
              clear H
              obtain ⟨HGz18, hgz18⟩ := HI0.out
              have hcz18_0 := cellS101_0 HGz18
              have hcz18_1 := cellS101_1 HGz18
              have hcz18_2 := cellS101_2 HGz18
              have hfz18_0 := blk_frozen HGz18 0
              have hfz18_1 := blk_frozen HGz18 1
              have hfz18_2 := blk_frozen HGz18 2
              clear HGz18 hgz18
              go_wp2
              go_meet
              case rel => exact ⟨_, (decide (t140 > a1)), (by first | rfl | (simp; done) | (simp [*]; done)), H', ⟨by have := HJ2.out; have := HJ8.out; first | omega | exact Nat.le_refl _⟩, ⟨by repeat (first | (with_reducible first | exact HI0.out | apply IsS101.alloc | apply IsS101.drewN | apply IsS101.drew | apply IsS101.set_0 | apply IsS101.set_1 | apply IsS101.set_2) | exact HI0.out)⟩, ⟨by repeat (first | (with_reducible first | exact HK.out | apply KeepBut.set_ | apply keep_drewN | apply keep_drew | apply keep_alloc) | exact HK.out)⟩, ⟨by repeat (first | (with_reducible first | exact HB.out | apply below_alloc | apply pw_below_drewN | apply below_drew1 | refine below_set ?_ (IsS101.ge HI0.out)) | exact HB.out)⟩⟩
            · rw [if_neg c17] at H
              have c17b0 : (t143 == 0) = false := beq_eq_false_iff_ne.mpr c17
              have c17b1 : (t143 != 0) = true := bne_iff_ne.mpr c17
              (first | rw [c17b0] | (simp only [i64_w, i32_w]; rw [c17b0]) | skip)
              have H' := Aside0.mk H
              clear H
              obtain ⟨HGz19, hgz19⟩ := HI0.out
              have hcz19_0 := cellS101_0 HGz19
              have hcz19_1 := cellS101_1 HGz19
              have hcz19_2 := cellS101_2 HGz19
              have hfz19_0 := blk_frozen HGz19 0
              have hfz19_1 := blk_frozen HGz19 1
              have hfz19_2 := blk_frozen HGz19 2
              clear HGz19 hgz19
              go_wp2
              go_meet
              case rel => exact ⟨_, (false), (by first | rfl | (simp; done) | (simp [*]; done)), H', ⟨by have := HJ2.out; have := HJ8.out; first | omega | exact Nat.le_refl _⟩, ⟨by repeat (first | (with_reducible first | exact HI0.out | apply IsS101.alloc | apply IsS101.drewN | apply IsS101.drew | apply IsS101.set_0 | apply IsS101.set_1 | apply IsS101.set_2) | exact HI0.out)⟩, ⟨by repeat (first | (with_reducible first | exact HK.out | apply KeepBut.set_ | apply keep_drewN | apply keep_drew | apply keep_alloc) | exact HK.out)⟩, ⟨by repeat (first | (with_reducible first | exact HB.out | apply below_alloc | apply pw_below_drewN | apply below_drew1 | refine below_set ?_ (IsS101.ge HI0.out)) | exact HB.out)⟩⟩
          case rest =>
            clear HC15
            obtain ⟨kq, x36_14, rfl, HA, HJ14, HI0, HK, HB⟩ := hcut
            cases kq with
            | zero => exact absurd HA.out (by simp [hopmeshref02_Reader_Text.j2])
            | succ kj14 =>
              have H := HA.out
              clear HA
              simp only [hopmeshref02_Reader_Text.j2] at H
              have HC20 := Aside0.mk H
              clear H
              go_upto_if 36 with (fail)
              go_cut [] (fun wc => ∃ (kq : Nat) (x1000_19 : ByteArray) (x1001_19 : Int) (x1002_19 : Int), Aside0 (hopmeshref02_Reader_Text.j3 kq t140 x1000_19 x1001_19 x1002_19 = some (r1, r2, r3, r4)) ∧ Aside0 (kq ≤ kj14) ∧ Aside0 (IsS101 w0 wc g x1000_19 x1001_19 x1002_19) ∧ Aside0 (KeepBut w wc g none) ∧ Aside0 (Below w0.heap.size w0 wc))
              case first =>
                have H := HC20.out
                clear HC20
                by_cases c21 : x36_14 = true
                · subst c21
                  have H1 : ((hopmeshref02_Reader_fail.f t141 t142 t143 2).bind fun bt144 => (hopmeshref02_Reader_Text.j3 kj14 t140 bt144.1 bt144.2.1 bt144.2.2)) = some (r1, r2, r3, r4) := by rw [if_pos rfl] at H; exact H
                  clear H
                  have H := H1
                  clear H1
                  replace H := Option.bind_eq_some_iff.mp H
                  obtain ⟨⟨t144, t145, t146⟩, A220, H⟩ := H
                  replace H : (hopmeshref02_Reader_Text.j3 kj14 t140 t144 t145 t146) = some (r1, r2, r3, r4) := H
                  have A22 := Aside0.mk A220
                  clear A220
                  have H' := Aside0.mk H
                  clear H
                  go_wp2_with (first | ((with_reducible refine gate_callee (f := 73) rfl ?_); refine goesL_ (some 38) rfl rfl Try.func73 (by kernel_rfl) rfl #[.pointer (some ⟨g, 0, none⟩), .int .i64 2] rfl (by (try simp only [List.map_toArray, List.map_cons, List.map_nil]); first | done | rfl | (simp only [List.length_drop, List.length_take]; rfl)) ?_; (with_reducible refine (hopmeshref02_Reader_fail.calls g t141 t142 t143 2 t144 t145 t146 w0 _ ?side1 ?side2 A22.out).mono ?_); (case side1 => repeat (first | (with_reducible first | exact HI0.out | apply IsS101.alloc | apply IsS101.drewN | apply IsS101.drew | apply IsS101.set_0 | apply IsS101.set_1 | apply IsS101.set_2) | exact HI0.out)); (case side2 => repeat (first | (with_reducible first | exact HB.out | apply below_alloc | apply pw_below_drewN | apply below_drew1 | refine below_set ?_ (IsS101.ge HI0.out)) | exact HB.out)); rintro e w23 ⟨rfl, hi, hb, hk⟩; refine ⟨_, rfl, ?_⟩; have n0_ := Aside0.mk (KeepBut.trans (by repeat (first | (with_reducible first | exact HK.out | apply KeepBut.set_ | apply keep_drewN | apply keep_drew | apply keep_alloc) | exact HK.out)) hk (.inl rfl)); have n1_ := Aside0.mk (hb); have n2_ := Aside0.mk (hi); clear HK; clear HB; clear HI0; have HK := n0_; have HB := n1_; have HI0 := n2_; clear n0_ n1_ n2_; (try clear hb); (try clear hb2); (try clear hk); (try clear hi)))
                  go_meet
                  case rel => exact ⟨_, (t144), (t145), (t146), H', ⟨by have := HJ2.out; have := HJ8.out; have := HJ14.out; first | omega | exact Nat.le_refl _⟩, ⟨by repeat (first | (with_reducible first | exact HI0.out | apply IsS101.alloc | apply IsS101.drewN | apply IsS101.drew | apply IsS101.set_0 | apply IsS101.set_1 | apply IsS101.set_2) | exact HI0.out)⟩, ⟨by repeat (first | (with_reducible first | exact HK.out | apply KeepBut.set_ | apply keep_drewN | apply keep_drew | apply keep_alloc) | exact HK.out)⟩, ⟨by repeat (first | (with_reducible first | exact HB.out | apply below_alloc | apply pw_below_drewN | apply below_drew1 | refine below_set ?_ (IsS101.ge HI0.out)) | exact HB.out)⟩⟩
                · replace c21 := Bool.eq_false_iff.mpr c21
                  subst c21
                  have H1 : (hopmeshref02_Reader_Text.j3 kj14 t140 t141 t142 t143) = some (r1, r2, r3, r4) := by rw [if_neg (show ¬ (false = true) by decide)] at H; exact H
                  clear H
                  have H := H1
                  clear H1
                  have H' := Aside0.mk H
                  clear H
                  go_wp2
                  go_meet
                  case rel => exact ⟨_, (t141), (t142), (t143), H', ⟨by have := HJ2.out; have := HJ8.out; have := HJ14.out; first | omega | exact Nat.le_refl _⟩, ⟨by repeat (first | (with_reducible first | exact HI0.out | apply IsS101.alloc | apply IsS101.drewN | apply IsS101.drew | apply IsS101.set_0 | apply IsS101.set_1 | apply IsS101.set_2) | exact HI0.out)⟩, ⟨by repeat (first | (with_reducible first | exact HK.out | apply KeepBut.set_ | apply keep_drewN | apply keep_drew | apply keep_alloc) | exact HK.out)⟩, ⟨by repeat (first | (with_reducible first | exact HB.out | apply below_alloc | apply pw_below_drewN | apply below_drew1 | refine below_set ?_ (IsS101.ge HI0.out)) | exact HB.out)⟩⟩
              case rest =>
                clear HC20
                obtain ⟨kq, x1000_19, x1001_19, x1002_19, HA, HJ19, HI0, HK, HB⟩ := hcut
                cases kq with
                | zero => exact absurd HA.out (by simp [hopmeshref02_Reader_Text.j3])
                | succ kj19 =>
                  have H := HA.out
                  clear HA
                  simp only [hopmeshref02_Reader_Text.j3] at H
                  have HC24 := Aside0.mk H
                  clear H
                  go_upto_region 6 with (fail)
                  go_cut [50] (fun v50 wc => ∃ (kq : Nat) (x50_23 : Bool) (x1000_23 : ByteArray) (x1001_23 : Int) (x1002_23 : Int), v50 = .bool x50_23 ∧ Aside0 (hopmeshref02_Reader_Text.j4 kq t140 x50_23 x1000_23 x1001_23 x1002_23 = some (r1, r2, r3, r4)) ∧ Aside0 (kq ≤ kj19) ∧ Aside0 (IsS101 w0 wc g x1000_23 x1001_23 x1002_23) ∧ Aside0 (KeepBut w wc g none) ∧ Aside0 (Below w0.heap.size w0 wc))
                  case first =>
                    have H := HC24.out
                    clear HC24
                    by_cases c25 : x1002_19 = 0
                    · rw [if_pos c25] at H
                      have c25b0 : (x1002_19 == 0) = true := beq_iff_eq.mpr c25
                      have c25b1 : (x1002_19 != 0) = false := bne_eq_false_iff_eq.mpr c25
                      clear c25
                      (first | rw [c25b0] | (simp only [i64_w, i32_w]; rw [c25b0]) | skip)
                      replace H := Option.bind_eq_some_iff.mp H
                      obtain ⟨⟨t147, t148, t149, t150⟩, A260, H⟩ := H
                      replace H : (hopmeshref02_Reader_Text.j4 kj19 t140 (decide (t147 < (wrap64 (8 * t140)))) t148 t149 t150) = some (r1, r2, r3, r4) := H
                      have A26 := Aside0.mk A260
                      clear A260
                      have H' := Aside0.mk H
                      clear H
                      obtain ⟨HGz27, hgz27⟩ := HI0.out
                      have hcz27_0 := cellS101_0 HGz27
                      have hcz27_1 := cellS101_1 HGz27
                      have hcz27_2 := cellS101_2 HGz27
                      have hfz27_0 := blk_frozen HGz27 0
                      have hfz27_1 := blk_frozen HGz27 1
                      have hfz27_2 := blk_frozen HGz27 2
                      clear HGz27 hgz27
                      go_wp2_with (first | (go_at_call 75; (with_reducible refine (hopmeshref02_Reader_Left.calls g x1000_19 x1001_19 x1002_19 t147 t148 t149 t150 w0 _ ?side1 ?side2 A26.out).mono ?_); (case side1 => repeat (first | (with_reducible first | exact HI0.out | apply IsS101.alloc | apply IsS101.drewN | apply IsS101.drew | apply IsS101.set_0 | apply IsS101.set_1 | apply IsS101.set_2) | exact HI0.out)); (case side2 => repeat (first | (with_reducible first | exact HB.out | apply below_alloc | apply pw_below_drewN | apply below_drew1 | refine below_set ?_ (IsS101.ge HI0.out)) | exact HB.out)); rintro e w28 ⟨rfl, hi, hb, hk⟩; have n0_ := Aside0.mk (KeepBut.trans (by repeat (first | (with_reducible first | exact HK.out | apply KeepBut.set_ | apply keep_drewN | apply keep_drew | apply keep_alloc) | exact HK.out)) hk (.inl rfl)); have n1_ := Aside0.mk (hb); have n2_ := Aside0.mk (hi); clear HK; clear HB; clear HI0; have HK := n0_; have HB := n1_; have HI0 := n2_; clear n0_ n1_ n2_; (try clear hb); (try clear hb2); (try clear hk); (try clear hi)))
                      go_meet
                      case rel => exact ⟨_, (decide (t147 < (wrap64 (8 * t140)))), (t148), (t149), (t150), (by first | rfl | (simp; done) | (simp [*]; done)), H', ⟨by have := HJ2.out; have := HJ8.out; have := HJ14.out; have := HJ19.out; first | omega | exact Nat.le_refl _⟩, ⟨by repeat (first | (with_reducible first | exact HI0.out | apply IsS101.alloc | apply IsS101.drewN | apply IsS101.drew | apply IsS101.set_0 | apply IsS101.set_1 | apply IsS101.set_2) | exact HI0.out)⟩, ⟨by repeat (first | (with_reducible first | exact HK.out | apply KeepBut.set_ | apply keep_drewN | apply keep_drew | apply keep_alloc) | exact HK.out)⟩, ⟨by repeat (first | (with_reducible first | exact HB.out | apply below_alloc | apply pw_below_drewN | apply below_drew1 | refine below_set ?_ (IsS101.ge HI0.out)) | exact HB.out)⟩⟩
                    · rw [if_neg c25] at H
                      have c25b0 : (x1002_19 == 0) = false := beq_eq_false_iff_ne.mpr c25
                      have c25b1 : (x1002_19 != 0) = true := bne_iff_ne.mpr c25
                      (first | rw [c25b0] | (simp only [i64_w, i32_w]; rw [c25b0]) | skip)
                      have H' := Aside0.mk H
                      clear H
                      obtain ⟨HGz29, hgz29⟩ := HI0.out
                      have hcz29_0 := cellS101_0 HGz29
                      have hcz29_1 := cellS101_1 HGz29
                      have hcz29_2 := cellS101_2 HGz29
                      have hfz29_0 := blk_frozen HGz29 0
                      have hfz29_1 := blk_frozen HGz29 1
                      have hfz29_2 := blk_frozen HGz29 2
                      clear HGz29 hgz29
                      go_wp2
                      go_meet
                      case rel => exact ⟨_, (false), (x1000_19), (x1001_19), (x1002_19), (by first | rfl | (simp; done) | (simp [*]; done)), H', ⟨by have := HJ2.out; have := HJ8.out; have := HJ14.out; have := HJ19.out; first | omega | exact Nat.le_refl _⟩, ⟨by repeat (first | (with_reducible first | exact HI0.out | apply IsS101.alloc | apply IsS101.drewN | apply IsS101.drew | apply IsS101.set_0 | apply IsS101.set_1 | apply IsS101.set_2) | exact HI0.out)⟩, ⟨by repeat (first | (with_reducible first | exact HK.out | apply KeepBut.set_ | apply keep_drewN | apply keep_drew | apply keep_alloc) | exact HK.out)⟩, ⟨by repeat (first | (with_reducible first | exact HB.out | apply below_alloc | apply pw_below_drewN | apply below_drew1 | refine below_set ?_ (IsS101.ge HI0.out)) | exact HB.out)⟩⟩
                  case rest =>
                    clear HC24
                    obtain ⟨kq, x50_23, x1000_23, x1001_23, x1002_23, rfl, HA, HJ23, HI0, HK, HB⟩ := hcut
                    cases kq with
                    | zero => exact absurd HA.out (by simp [hopmeshref02_Reader_Text.j4])
                    | succ kj23 =>
                      have H := HA.out
                      clear HA
                      simp only [hopmeshref02_Reader_Text.j4] at H
                      have HC30 := Aside0.mk H
                      clear H
                      go_upto_if 50 with (fail)
                      go_cut [] (fun wc => ∃ (kq : Nat) (x1000_29 : ByteArray) (x1001_29 : Int) (x1002_29 : Int), Aside0 (hopmeshref02_Reader_Text.j5 kq t140 x1000_29 x1001_29 x1002_29 = some (r1, r2, r3, r4)) ∧ Aside0 (kq ≤ kj23) ∧ Aside0 (IsS101 w0 wc g x1000_29 x1001_29 x1002_29) ∧ Aside0 (KeepBut w wc g none) ∧ Aside0 (Below w0.heap.size w0 wc))
                      case first =>
                        have H := HC30.out
                        clear HC30
                        by_cases c31 : x50_23 = true
                        · subst c31
                          have H1 : ((hopmeshref02_Reader_fail.f x1000_23 x1001_23 x1002_23 9).bind fun bt151 => (hopmeshref02_Reader_Text.j5 kj23 t140 bt151.1 bt151.2.1 bt151.2.2)) = some (r1, r2, r3, r4) := by rw [if_pos rfl] at H; exact H
                          clear H
                          have H := H1
                          clear H1
                          replace H := Option.bind_eq_some_iff.mp H
                          obtain ⟨⟨t151, t152, t153⟩, A320, H⟩ := H
                          replace H : (hopmeshref02_Reader_Text.j5 kj23 t140 t151 t152 t153) = some (r1, r2, r3, r4) := H
                          have A32 := Aside0.mk A320
                          clear A320
                          have H' := Aside0.mk H
                          clear H
                          go_wp2_with (first | ((with_reducible refine gate_callee (f := 73) rfl ?_); refine goesL_ (some 52) rfl rfl Try.func73 (by kernel_rfl) rfl #[.pointer (some ⟨g, 0, none⟩), .int .i64 9] rfl (by (try simp only [List.map_toArray, List.map_cons, List.map_nil]); first | done | rfl | (simp only [List.length_drop, List.length_take]; rfl)) ?_; (with_reducible refine (hopmeshref02_Reader_fail.calls g x1000_23 x1001_23 x1002_23 9 t151 t152 t153 w0 _ ?side1 ?side2 A32.out).mono ?_); (case side1 => repeat (first | (with_reducible first | exact HI0.out | apply IsS101.alloc | apply IsS101.drewN | apply IsS101.drew | apply IsS101.set_0 | apply IsS101.set_1 | apply IsS101.set_2) | exact HI0.out)); (case side2 => repeat (first | (with_reducible first | exact HB.out | apply below_alloc | apply pw_below_drewN | apply below_drew1 | refine below_set ?_ (IsS101.ge HI0.out)) | exact HB.out)); rintro e w33 ⟨rfl, hi, hb, hk⟩; refine ⟨_, rfl, ?_⟩; have n0_ := Aside0.mk (KeepBut.trans (by repeat (first | (with_reducible first | exact HK.out | apply KeepBut.set_ | apply keep_drewN | apply keep_drew | apply keep_alloc) | exact HK.out)) hk (.inl rfl)); have n1_ := Aside0.mk (hb); have n2_ := Aside0.mk (hi); clear HK; clear HB; clear HI0; have HK := n0_; have HB := n1_; have HI0 := n2_; clear n0_ n1_ n2_; (try clear hb); (try clear hb2); (try clear hk); (try clear hi)))
                          go_meet
                          case rel => exact ⟨_, (t151), (t152), (t153), H', ⟨by have := HJ2.out; have := HJ8.out; have := HJ14.out; have := HJ19.out; have := HJ23.out; first | omega | exact Nat.le_refl _⟩, ⟨by repeat (first | (with_reducible first | exact HI0.out | apply IsS101.alloc | apply IsS101.drewN | apply IsS101.drew | apply IsS101.set_0 | apply IsS101.set_1 | apply IsS101.set_2) | exact HI0.out)⟩, ⟨by repeat (first | (with_reducible first | exact HK.out | apply KeepBut.set_ | apply keep_drewN | apply keep_drew | apply keep_alloc) | exact HK.out)⟩, ⟨by repeat (first | (with_reducible first | exact HB.out | apply below_alloc | apply pw_below_drewN | apply below_drew1 | refine below_set ?_ (IsS101.ge HI0.out)) | exact HB.out)⟩⟩
                        · replace c31 := Bool.eq_false_iff.mpr c31
                          subst c31
                          have H1 : (hopmeshref02_Reader_Text.j5 kj23 t140 x1000_23 x1001_23 x1002_23) = some (r1, r2, r3, r4) := by rw [if_neg (show ¬ (false = true) by decide)] at H; exact H
                          clear H
                          have H := H1
                          clear H1
                          have H' := Aside0.mk H
                          clear H
                          go_wp2
                          go_meet
                          case rel => exact ⟨_, (x1000_23), (x1001_23), (x1002_23), H', ⟨by have := HJ2.out; have := HJ8.out; have := HJ14.out; have := HJ19.out; have := HJ23.out; first | omega | exact Nat.le_refl _⟩, ⟨by repeat (first | (with_reducible first | exact HI0.out | apply IsS101.alloc | apply IsS101.drewN | apply IsS101.drew | apply IsS101.set_0 | apply IsS101.set_1 | apply IsS101.set_2) | exact HI0.out)⟩, ⟨by repeat (first | (with_reducible first | exact HK.out | apply KeepBut.set_ | apply keep_drewN | apply keep_drew | apply keep_alloc) | exact HK.out)⟩, ⟨by repeat (first | (with_reducible first | exact HB.out | apply below_alloc | apply pw_below_drewN | apply below_drew1 | refine below_set ?_ (IsS101.ge HI0.out)) | exact HB.out)⟩⟩
                      case rest =>
                        clear HC30
                        obtain ⟨kq, x1000_29, x1001_29, x1002_29, HA, HJ29, HI0, HK, HB⟩ := hcut
                        cases kq with
                        | zero => exact absurd HA.out (by simp [hopmeshref02_Reader_Text.j5])
                        | succ kj29 =>
                          have H := HA.out
                          clear HA
                          simp only [hopmeshref02_Reader_Text.j5] at H
                          by_cases c34 : x1002_29 = 0
                          · rw [if_pos c34] at H
                            have c34b0 : (x1002_29 == 0) = true := beq_iff_eq.mpr c34
                            have c34b1 : (x1002_29 != 0) = false := bne_eq_false_iff_eq.mpr c34
                            clear c34
                            by_cases c35 : 0 ≤ t140
                            · rw [if_pos c35] at H
                              have c35b0 := eq_true c35
                              have c35b1 : decide (0 ≤ t140) = true := decide_eq_true c35
                              clear c35
                              by_cases c36 : (t140 : Int).toNat ≤ 281474976710656
                              · rw [if_pos c36] at H
                                have c36b0 := eq_true c36
                                have c36b1 : decide ((t140 : Int).toNat ≤ 281474976710656) = true := decide_eq_true c36
                                clear c36
                                obtain ⟨y154, hy154⟩ : ∃ y_ : List Int, y_ = (List.replicate (t140 : Int).toNat 0) := ⟨_, rfl⟩
                                replace H : (hopmeshref02_Reader_Text.l0 kj29 t140 y154 0 x1000_29 x1001_29 x1002_29) = some (r1, r2, r3, r4) := by first | (rw [hy154]; with_reducible exact H) | (have H2_ := (Option.bind_some _ _).symm.trans H; rw [hy154]; with_reducible exact H2_) | (have H2_ := (Option.bind_some _ _).symm.trans H; with_reducible exact H2_) | with_reducible exact H | (rw [hy154]; exact H) | exact H
                                have Ny154 := Aside0.mk hy154
                                clear hy154
                                have H' := Aside0.mk H
                                clear H
                                obtain ⟨HGz37, hgz37⟩ := HI0.out
                                have hcz37_0 := cellS101_0 HGz37
                                have hcz37_1 := cellS101_1 HGz37
                                have hcz37_2 := cellS101_2 HGz37
                                have hfz37_0 := blk_frozen HGz37 0
                                have hfz37_1 := blk_frozen HGz37 1
                                have hfz37_2 := blk_frozen HGz37 2
                                clear HGz37 hgz37
                                go_wp2_with (first | ((with_reducible refine gate_dst (N := 59) rfl ?_); refine Kd.R_make (Kd.int .u8) _ 5 rfl (N := 59) rfl 40 _ _ rfl t140 rfl rfl Try.underlying40 (.int .u8 0) 1 info5 rfl (by decide) (by omega) 0 (ok := fun _ => True) (okp := fun _ => True) rfl (fun _ hk => hk) trivial (of_decide_eq_true (by first | (with_reducible assumption) | assumption)) (Nat.le_trans (Nat.mul_le_mul_right _ (of_decide_eq_true (by first | (with_reducible assumption) | assumption) : t140.toNat ≤ 281474976710656)) (by omega)) (Below.refl _ _) (Nat.le_refl _) ?_; intro v155 w38 ho39 hb hg_ hnew_; clear hg_ hnew_; (first | rw [← Ny154.out] at ho39 | (simp only [Int.reduceToNat] at ho39; rw [← Ny154.out] at ho39)); have n0_ := Aside0.mk (Kd.R_lower ho39 (keep_size (w := w) (g := g) (row := none) (by repeat (first | (with_reducible first | exact HK.out | apply KeepBut.set_ | apply keep_drewN | apply keep_drew | apply keep_alloc) | exact HK.out)))); have n1_ := Aside0.mk (IsS101.below (by repeat (first | (with_reducible first | exact HI0.out | apply IsS101.alloc | apply IsS101.drewN | apply IsS101.drew | apply IsS101.set_0 | apply IsS101.set_1 | apply IsS101.set_2) | exact HI0.out)) hb); have n2_ := Aside0.mk (KeepBut.trans (by repeat (first | (with_reducible first | exact HK.out | apply KeepBut.set_ | apply keep_drewN | apply keep_drew | apply keep_alloc) | exact HK.out)) (KeepBut.of_below hb g none) (.inl rfl)); have n3_ := Aside0.mk (below_step (by repeat (first | (with_reducible first | exact HB.out | apply below_alloc | apply pw_below_drewN | apply below_drew1 | refine below_set ?_ (IsS101.ge HI0.out)) | exact HB.out)) hb); clear HI0; clear HK; clear HB; have HO156 := n0_; have HI0 := n1_; have HK := n2_; have HB := n3_; clear n0_ n1_ n2_ n3_; clear hb ho39))
                                go_loopg [7] kj29 (fun kq v7 w' => ∃ (x6_7 : List Int) (x7_7 : Int) (x1000_7 : ByteArray) (x1001_7 : Int) (x1002_7 : Int), v7 = .int .i64 x7_7 ∧ Aside0 (hopmeshref02_Reader_Text.l0 kq t140 x6_7 x7_7 x1000_7 x1001_7 x1002_7 = some (r1, r2, r3, r4)) ∧ Aside0 (kq ≤ kj29) ∧ Aside0 (Kd.R (Kd.int .u8) 5 w' w.heap.size (fun _ => True) v155 x6_7) ∧ Aside0 (IsS101 w0 w' g x1000_7 x1001_7 x1002_7) ∧ Aside0 (KeepBut w w' g none) ∧ Aside0 (Below w0.heap.size w0 w'))
                                case atStart => exact ⟨(y154), (0), (x1000_29), (x1001_29), (x1002_29), (by first | rfl | (simp; done) | (simp [*]; done)), H', ⟨Nat.le_refl _⟩, ⟨by (with_reducible repeat (first | apply Kd.R_alloc | apply Kd.R_drewN | apply Kd.R_drew)); exact HO156.out⟩, ⟨by repeat (first | (with_reducible first | exact HI0.out | apply IsS101.alloc | apply IsS101.drewN | apply IsS101.drew | apply IsS101.set_0 | apply IsS101.set_1 | apply IsS101.set_2) | exact HI0.out)⟩, ⟨by repeat (first | (with_reducible first | exact HK.out | apply KeepBut.set_ | apply keep_drewN | apply keep_drew | apply keep_alloc) | exact HK.out)⟩, ⟨by repeat (first | (with_reducible first | exact HB.out | apply below_alloc | apply pw_below_drewN | apply below_drew1 | refine below_set ?_ (IsS101.ge HI0.out)) | exact HB.out)⟩⟩
                                case round =>
                                  clear H'
                                  obtain ⟨x6_7, x7_7, x1000_7, x1001_7, x1002_7, rfl, HA, HK7, HO_6, HI0, HK, HB⟩ := hrel
                                  cases gk with
                                  | zero => exact absurd HA.out (by simp [hopmeshref02_Reader_Text.l0])
                                  | succ k7 =>
                                    have H := HA.out
                                    clear HA
                                    simp only [hopmeshref02_Reader_Text.l0] at H
                                    by_cases c40 : x7_7 < t140
                                    · rw [if_pos c40] at H
                                      have c40b0 : decide (x7_7 < t140) = true := decide_eq_true c40
                                      clear c40
                                      replace H := Option.bind_eq_some_iff.mp H
                                      obtain ⟨⟨t157, t158, t159, t160⟩, A410, H⟩ := H
                                      replace H : (if 0 ≤ x7_7 then (if x7_7 < (x6_7.length : Int) then (hopmeshref02_Reader_Text.l0 k7 t140 (x6_7.set (x7_7 : Int).toNat ((t157) % 256)) (wrap64 (x7_7 + 1)) t158 t159 t160) else (none)) else (none)) = some (r1, r2, r3, r4) := H
                                      have A41 := Aside0.mk A410
                                      clear A410
                                      by_cases c42 : 0 ≤ x7_7
                                      · rw [if_pos c42] at H
                                        have c42b0 : decide (0 ≤ x7_7) = true := decide_eq_true c42
                                        clear c42
                                        by_cases c43 : x7_7 < (x6_7.length : Int)
                                        · rw [if_pos c43] at H
                                          have c43b0 : decide (x7_7 < (x6_7.length : Int)) = true := decide_eq_true c43
                                          clear c43
                                          obtain ⟨y161, hy161⟩ : ∃ y_ : List Int, y_ = (x6_7.set (x7_7 : Int).toNat ((t157) % 256)) := ⟨_, rfl⟩
                                          replace H : (hopmeshref02_Reader_Text.l0 k7 t140 y161 (wrap64 (x7_7 + 1)) t158 t159 t160) = some (r1, r2, r3, r4) := by first | (rw [hy161]; with_reducible exact H) | (have H2_ := (Option.bind_some _ _).symm.trans H; rw [hy161]; with_reducible exact H2_) | (have H2_ := (Option.bind_some _ _).symm.trans H; with_reducible exact H2_) | with_reducible exact H | (rw [hy161]; exact H) | exact H
                                          have Ny161 := Aside0.mk hy161
                                          clear hy161
                                          have H' := Aside0.mk H
                                          clear H
                                          go_wp2_with (first | ((with_reducible refine gate_callee (f := 74) rfl ?_); refine goesL_ (some 68) rfl rfl Try.func74 (by kernel_rfl) rfl #[.pointer (some ⟨g, 0, none⟩), .int .i64 8] rfl (by (try simp only [List.map_toArray, List.map_cons, List.map_nil]); first | done | rfl | (simp only [List.length_drop, List.length_take]; rfl)) ?_; (with_reducible refine (hopmeshref02_Reader_get.calls k7 g x1000_7 x1001_7 x1002_7 8 t157 t158 t159 t160 w0 _ ?side1 ?side2 A41.out).mono ?_); (case side1 => repeat (first | (with_reducible first | exact HI0.out | apply IsS101.alloc | apply IsS101.drewN | apply IsS101.drew | apply IsS101.set_0 | apply IsS101.set_1 | apply IsS101.set_2) | exact HI0.out)); (case side2 => repeat (first | (with_reducible first | exact HB.out | apply below_alloc | apply pw_below_drewN | apply below_drew1 | refine below_set ?_ (IsS101.ge HI0.out)) | exact HB.out)); rintro e w45 ⟨rfl, hi, hb, hk⟩; refine ⟨_, rfl, ?_⟩; have n0_ := Aside0.mk (Kd.R_mono (Kd.R_keep (IsS101.apart (show IsS101 w0 _ g x1000_7 x1001_7 x1002_7 from by repeat (first | (with_reducible first | exact HI0.out | apply IsS101.alloc | apply IsS101.drewN | apply IsS101.drew | apply IsS101.set_0 | apply IsS101.set_1 | apply IsS101.set_2) | exact HI0.out)) (by (with_reducible repeat (first | apply Kd.R_alloc | apply Kd.R_drewN | apply Kd.R_drew)); exact HO_6.out) (by decide)) hk (fun _ h => h.2)) (fun _ h => h.1)); have n1_ := Aside0.mk (KeepBut.trans (by repeat (first | (with_reducible first | exact HK.out | apply KeepBut.set_ | apply keep_drewN | apply keep_drew | apply keep_alloc) | exact HK.out)) hk (.inl rfl)); have n2_ := Aside0.mk (hb); have n3_ := Aside0.mk (hi); clear HO_6; clear HK; clear HB; clear HI0; have HO_6 := n0_; have HK := n1_; have HB := n2_; have HI0 := n3_; clear n0_ n1_ n2_ n3_; (try clear hb); (try clear hb2); (try clear hk); (try clear hi); have p44 : 0 ≤ (x7_7 : Int) := of_decide_eq_true (by first | (with_reducible assumption) | assumption); have q44 : (x7_7 : Int) < ((x6_7.length : Int) : Int) := of_decide_eq_true (by first | (with_reducible assumption) | assumption); obtain ⟨go44, co44, eo44, gb44, gl44, cl44, HG44⟩ := Kd.R_form HO_6.out (by omega); (first | cases eo44 | (injection eo44 with ea_ en_ ec_; (first | subst ea_ | (injection ea_ with ea_; subst ea_)); subst ec_; clear en_)); have GB44 := Aside0.mk gb44; have GG44 := Aside0.mk HG44; clear gb44 gl44 HG44; obtain ⟨hx44_0, hf44_0⟩ := Kd.R_celln 0 HO_6.out (x7_7 : Int) p44 q44; replace p44 := eq_true p44; replace q44 := eq_true q44; obtain ⟨hy46_, hz46_⟩ := Kd.R_celln 0 HO_6.out (x7_7 : Int) (of_decide_eq_true (by first | (with_reducible assumption) | assumption)) (of_decide_eq_true (by first | (with_reducible assumption) | assumption)); have HP46 := Kd.R_putg HO_6.out (x7_7 : Int) ((t157) % 256)) | ((with_reducible refine gate_store (t := 5) (p := 70) rfl ?_); refine store_event (t := 5) (p := 70) (v := ?vo_w47) (w1 := (w45.setCell ⟨go44, (x7_7 : Int).toNat, none⟩ (.int .u8 ((t157) % 256)))) ?hg ?ho ?hn ?hr ?_; (case ho => rfl); (case hg => rfl); (case hn => rfl); (case hr => first | (go_simp; done) | (go_simp; rfl)); intro w47 hw; have hg : w45.grownBy w47 (some go44) := (by rw [hw]; exact HP46.2); have hp_ : Kd.R (Kd.int .u8) 5 w47 w.heap.size (fun _ => True) (.slice (some ⟨go44, 0, none⟩) x6_7.length co44) y161 := (by rw [hw, Ny161.out]; exact HP46.1); clear HP46; have n0_ := Aside0.mk (hp_); have n1_ := Aside0.mk (IsS101.grown (by repeat (first | (with_reducible first | exact HI0.out | apply IsS101.alloc | apply IsS101.drewN | apply IsS101.drew | apply IsS101.set_0 | apply IsS101.set_1 | apply IsS101.set_2) | exact HI0.out)) hg (IsS101.own_ne HI0.out HO_6.out (by decide))); have n2_ := Aside0.mk ((by rw [hw]; exact below_set (HB.out) (Nat.le_trans HL.out GB44.out) : Below w0.heap.size w0 w47)); have n3_ := Aside0.mk (KeepBut.trans (by repeat (first | (with_reducible first | exact HK.out | apply KeepBut.set_ | apply keep_drewN | apply keep_drew | apply keep_alloc) | exact HK.out)) (KeepBut.of_grown hg g) (Kd.R_base2 HO_6.out)); clear HO_6; clear HI0; clear HB; clear HK; have HO_6 := n0_; have HI0 := n1_; have HB := n2_; have HK := n3_; clear n0_ n1_ n2_ n3_; clear hg hw hp_))
                                          go_roundg k7
                                          case measure => have := HJ2.out; have := HJ8.out; have := HJ14.out; have := HJ19.out; have := HJ23.out; have := HJ29.out; have := HK7.out; omega
                                          case rel => exact ⟨(y161), (wrap64 (x7_7 + 1)), (t158), (t159), (t160), (by first | rfl | (simp; done) | (simp [*]; done)), H', ⟨by have := HJ2.out; have := HJ8.out; have := HJ14.out; have := HJ19.out; have := HJ23.out; have := HJ29.out; have := HK7.out; omega⟩, ⟨by (with_reducible repeat (first | apply Kd.R_alloc | apply Kd.R_drewN | apply Kd.R_drew)); exact HO_6.out⟩, ⟨by repeat (first | (with_reducible first | exact HI0.out | apply IsS101.alloc | apply IsS101.drewN | apply IsS101.drew | apply IsS101.set_0 | apply IsS101.set_1 | apply IsS101.set_2) | exact HI0.out)⟩, ⟨by repeat (first | (with_reducible first | exact HK.out | apply KeepBut.set_ | apply keep_drewN | apply keep_drew | apply keep_alloc) | exact HK.out)⟩, ⟨by repeat (first | (with_reducible first | exact HB.out | apply below_alloc | apply pw_below_drewN | apply below_drew1 | refine below_set ?_ (IsS101.ge HI0.out)) | exact HB.out)⟩⟩
                                        · rw [if_neg c43] at H
                                          exact absurd H (by simp)
                                      · rw [if_neg c42] at H
                                        exact absurd H (by simp)
                                    · rw [if_neg c40] at H
                                      have c40b0 : decide (x7_7 < t140) = false := decide_eq_false c40
                                      clear c40
                                      simp only [Option.some.injEq, Prod.mk.injEq] at H
                                      obtain ⟨rfl, rfl, rfl, rfl⟩ := H
                                      have hcv48 := own_string (P := Try.prog) Try.underlying40 Try.underlying5 Try.underlying9 (Kd.own_of_R HO_6.out)
                                      go_wp2
                                      go_ret
                                      exact ⟨by first | rfl | (simp [errW_none, errW_some] <;> rfl) | (simp [*, errW_none, errW_some] <;> rfl), by repeat (first | (with_reducible first | exact HI0.out | apply IsS101.alloc | apply IsS101.drewN | apply IsS101.drew | apply IsS101.set_0 | apply IsS101.set_1 | apply IsS101.set_2) | exact HI0.out), by repeat (first | (with_reducible first | exact HB.out | apply below_alloc | apply pw_below_drewN | apply below_drew1 | refine below_set ?_ (IsS101.ge HI0.out)) | exact HB.out), by repeat (first | (with_reducible first | exact HK.out | apply KeepBut.set_ | apply keep_drewN | apply keep_drew | apply keep_alloc) | exact HK.out)⟩
                              · rw [if_neg c36] at H
                                exact absurd H (by simp)
                            · rw [if_neg c35] at H
                              exact absurd H (by simp)
                          · rw [if_neg c34] at H
                            have c34b0 : (x1002_29 == 0) = false := beq_eq_false_iff_ne.mpr c34
                            have c34b1 : (x1002_29 != 0) = true := bne_iff_ne.mpr c34
                            simp only [Option.some.injEq, Prod.mk.injEq] at H
                            obtain ⟨rfl, rfl, rfl, rfl⟩ := H
                            obtain ⟨HGz49, hgz49⟩ := HI0.out
                            have hcz49_0 := cellS101_0 HGz49
                            have hcz49_1 := cellS101_1 HGz49
                            have hcz49_2 := cellS101_2 HGz49
                            have hfz49_0 := blk_frozen HGz49 0
                            have hfz49_1 := blk_frozen HGz49 1
                            have hfz49_2 := blk_frozen HGz49 2
                            clear HGz49 hgz49
                            go_wp2
                            go_ret
                            exact ⟨by first | rfl | (simp [errW_none, errW_some] <;> rfl) | (simp [*, errW_none, errW_some] <;> rfl), by repeat (first | (with_reducible first | exact HI0.out | apply IsS101.alloc | apply IsS101.drewN | apply IsS101.drew | apply IsS101.set_0 | apply IsS101.set_1 | apply IsS101.set_2) | exact HI0.out), by repeat (first | (with_reducible first | exact HB.out | apply below_alloc | apply pw_below_drewN | apply below_drew1 | refine below_set ?_ (IsS101.ge HI0.out)) | exact HB.out), by repeat (first | (with_reducible first | exact HK.out | apply KeepBut.set_ | apply keep_drewN | apply keep_drew | apply keep_alloc) | exact HK.out)⟩
end Go.Proofs.Ytbgnkjaikbhdoaa.E
