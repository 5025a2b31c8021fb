/- ! ### hopmeshref25_follows: function 30 (cut to what is reached: wip/tools/slimout.py) -/
import Derived.Test.YtjjcgjpmhhkeaaaSAA0
namespace Go.Proofs.Ytjjcgjpmhhkeaaa.A
open Go.RowKit Go.Proofs.YtjjcgjpmhhkeaaaW.PrintWords Go.Proofs.YtjjcgjpmhhkeaaaW.PrintLast Go.Proofs.YtjjcgjpmhhkeaaaW.PrintMore
attribute [local go_sem] max2_int min2_int max_two min_two max_three min_three max_four min_four   -- for this text's walks alone
set_option linter.unusedVariables false
set_option linter.unusedSimpArgs false
def hopmeshref25_follows.j0 : Nat → Bool → Int → Bool → Int → Int → Int → List (S37) → List (S37) → Option (Bool)
  | 0, _, _, _, _, _, _, _, _ => none
  | k + 1, x12, x115000, x115001, x115002, x115003, x115004, x115005, x115006 => if x12 = true then (some false) else (if x115003 = 0 then (if x115000 = 1 then (if (x115006.length : Int) = 0 then (if x115004 ≥ 1 then (if x115004 ≤ 8 then (if x115004 = (x115005.length : Int) then (some true) else (if x115001 = true then (some false) else (some (decide ((x115005.length : Int) > x115004))))) else (some false)) else (some false)) else (some false)) else (if x115000 = 2 then (if (x115005.length : Int) = 0 then (if (x115006.length : Int) ≥ 1 then (some (x115004 == (x115006.length : Int))) else (some false)) else (some false)) else (if x115000 = 3 then (if (x115006.length : Int) ≥ 1 then (if x115004 = (x115006.length : Int) then (if (x115005.length : Int) = (x115006.length : Int) then (some true) else (if x115001 = true then (some false) else (some (decide ((x115005.length : Int) > (x115006.length : Int)))))) else (some false)) else (some false)) else (if x115000 = 4 then (if (x115005.length : Int) = 0 then (if (x115006.length : Int) = 0 then (if x115001 = true then (some true) else (some (x115004 == 0))) else (some false)) else (some false)) else (if x115000 = 5 then (if (x115006.length : Int) = 0 then (if x115001 = true then (some ((x115005.length : Int) == (mn 8 x115004))) else (if x115004 = 0 then (some ((x115005.length : Int) == (mn 8 x115004))) else (some false))) else (some false)) else (if (x115005.length : Int) = 0 then (if (x115006.length : Int) = 0 then (some (x115004 == 0)) else (some false)) else (some false))))))) else (if x115004 = 0 then (if (x115005.length : Int) = 0 then (some ((x115006.length : Int) == 0)) else (some false)) else (some false)))
def hopmeshref25_follows.f (k : Nat) (a0_0 : Int) (a0_1 : Bool) (a0_2 : Int) (a0_3 : Int) (a0_4 : Int) (l0_5 : List (S37)) (l0_6 : List (S37)) : Option (Bool) := if a0_1 = true then (hopmeshref25_follows.j0 k false a0_0 a0_1 a0_2 a0_3 a0_4 l0_5 l0_6) else (hopmeshref25_follows.j0 k (a0_3 != 0) a0_0 a0_1 a0_2 a0_3 a0_4 l0_5 l0_6)
theorem hopmeshref25_follows.mono_l : ∀ k, (∀ y0 y1 y2 y3 y4 y5 y6 y7, LeO (hopmeshref25_follows.j0 k y0 y1 y2 y3 y4 y5 y6 y7) (hopmeshref25_follows.j0 (k + 1) y0 y1 y2 y3 y4 y5 y6 y7))
  | 0 => fun _ _ _ _ _ _ _ _ r h => by simp [hopmeshref25_follows.j0] at h
  | k + 1 => by
    have ih0 := hopmeshref25_follows.mono_l k
    · intro y0 y1 y2 y3 y4 y5 y6 y7
      unfold hopmeshref25_follows.j0
      repeat' first
      | (with_reducible exact ih0 _ _ _ _ _ _ _ _)
      | (with_reducible exact LeO.refl _)
      | (with_reducible exact LeO.none _)
      | (with_reducible refine LeO.ite ?_ ?_)
      | (with_reducible refine LeO.bind ?_ (fun _ => ?_))
      | exact ih0 _ _ _ _ _ _ _ _
      | exact LeO.none _
      | refine LeO.ite ?_ ?_
      | refine LeO.bind ?_ (fun _ => ?_)
theorem hopmeshref25_follows.mono : ∀ a0 a1 a2 a3 a4 a5 a6 k, LeO (hopmeshref25_follows.f k a0 a1 a2 a3 a4 a5 a6) (hopmeshref25_follows.f (k + 1) a0 a1 a2 a3 a4 a5 a6) := by
  intro a0 a1 a2 a3 a4 a5 a6 k
  have ih0 := hopmeshref25_follows.mono_l k
  unfold hopmeshref25_follows.f
  repeat' first
      | (with_reducible exact ih0 _ _ _ _ _ _ _ _)
      | (with_reducible exact LeO.refl _)
      | (with_reducible exact LeO.none _)
      | (with_reducible refine LeO.ite ?_ ?_)
      | (with_reducible refine LeO.bind ?_ (fun _ => ?_))
      | exact ih0 _ _ _ _ _ _ _ _
      | exact LeO.none _
      | refine LeO.ite ?_ ?_
      | refine LeO.bind ?_ (fun _ => ?_)
set_option maxHeartbeats 8000000 in
set_option maxRecDepth 100000 in
theorem hopmeshref25_follows.calls (k : Nat) (a0_0 : Int) (a0_1 : Bool) (a0_2 : Int) (a0_3 : Int) (a0_4 : Int) (A0_5 : Option Addr) (c0_5 : Nat) (l0_5 : List (S37)) (A0_6 : Option Addr) (c0_6 : Nat) (l0_6 : List (S37)) (r : Bool) (w : World) (hr0_5 : Kd.C k37 w A0_5 l0_5.length l0_5) (hc0_5 : l0_5.length ≤ c0_5) (hr0_6 : Kd.C k37 w A0_6 l0_6.length l0_6) (hc0_6 : l0_6.length ≤ c0_6) (h : hopmeshref25_follows.f k a0_0 a0_1 a0_2 a0_3 a0_4 l0_5 l0_6 = some r) :
    Calls Try.prog 30 #[.agg #[.int .i64 a0_0, .bool a0_1, .int .i64 a0_2, .int .i64 a0_3, .int .i64 a0_4, .slice A0_5 l0_5.length c0_5, .slice A0_6 l0_6.length c0_6]] w fun e w' => e = .returned (.bool r) ∧ Below w.heap.size w w' := by
  have hu24 := Try.underlying24
  have HR0_5 := Aside0.mk hr0_5
  have HC0_5 := Aside0.mk hc0_5
  clear hr0_5 hc0_5
  have HR0_6 := Aside0.mk hr0_6
  have HC0_6 := Aside0.mk hc0_6
  clear hr0_6 hc0_6
  have HB := Aside0.mk (Below.refl w.heap.size w)
  have H : (if a0_1 = true then (hopmeshref25_follows.j0 k false a0_0 a0_1 a0_2 a0_3 a0_4 l0_5 l0_6) else (hopmeshref25_follows.j0 k (a0_3 != 0) a0_0 a0_1 a0_2 a0_3 a0_4 l0_5 l0_6)) = some r := h
  clear h
  have HC2 := Aside0.mk H
  clear H
  go_enter Try.func30, Try.ntmps30
  go_upto_region 1 with (first | ((with_reducible refine gate_dst (N := 1) rfl ?_); (try (refine gate_guard (by rfl) ?_; dsimp only)); refine box_event ?hg (N := 1) ?hd (cs := #[.int .i64 a0_0, .bool a0_1, .int .i64 a0_2, .int .i64 a0_3, .int .i64 a0_4, .slice A0_5 l0_5.length c0_5, .slice A0_6 l0_6.length c0_6]) (t := 24) ?hr ?_; (case hd => rfl); (case hg => rfl); (case hr => first | (go_simp; done) | (go_simp; rfl)); intro gb114 hg w3 hbox hb; have n0_ := Aside0.mk (below_step (by repeat (first | (with_reducible first | exact HB.out | apply below_alloc | apply pw_below_drewN | apply below_drew1) | exact HB.out)) hb); have n1_ := Aside0.mk (hbox); have n2_ := Aside0.mk ((by rw [hg]; exact (below_size (by repeat (first | (with_reducible first | exact HB.out | apply below_alloc | apply pw_below_drewN | apply below_drew1) | exact HB.out))) : w.heap.size ≤ gb114)); have n3_ := Aside0.mk ((by rw [hg]; exact (below_size (by repeat (first | (with_reducible first | exact HB.out | apply below_alloc | apply pw_below_drewN | apply below_drew1) | exact HB.out))) : w.heap.size ≤ gb114)); clear HB; have HB := n0_; have BK114 := n1_; have GW114 := n2_; have GE114 := n3_; clear n0_ n1_ n2_ n3_; clear hb hbox hg))
  repeat (go_quiet (first | ((with_reducible refine gate_dst (N := 1) rfl ?_); (try (refine gate_guard (by rfl) ?_; dsimp only)); refine box_event ?hg (N := 1) ?hd (cs := #[.int .i64 a0_0, .bool a0_1, .int .i64 a0_2, .int .i64 a0_3, .int .i64 a0_4, .slice A0_5 l0_5.length c0_5, .slice A0_6 l0_6.length c0_6]) (t := 24) ?hr ?_; (case hd => rfl); (case hg => rfl); (case hr => first | (go_simp; done) | (go_simp; rfl)); intro gb114 hg w3 hbox hb; have n0_ := Aside0.mk (below_step (by repeat (first | (with_reducible first | exact HB.out | apply below_alloc | apply pw_below_drewN | apply below_drew1) | exact HB.out)) hb); have n1_ := Aside0.mk (hbox); have n2_ := Aside0.mk ((by rw [hg]; exact (below_size (by repeat (first | (with_reducible first | exact HB.out | apply below_alloc | apply pw_below_drewN | apply below_drew1) | exact HB.out))) : w.heap.size ≤ gb114)); have n3_ := Aside0.mk ((by rw [hg]; exact (below_size (by repeat (first | (with_reducible first | exact HB.out | apply below_alloc | apply pw_below_drewN | apply below_drew1) | exact HB.out))) : w.heap.size ≤ gb114)); clear HB; have HB := n0_; have BK114 := n1_; have GW114 := n2_; have GE114 := n3_; clear n0_ n1_ n2_ n3_; clear hb hbox hg)); go_upto_region 1 with (first | ((with_reducible refine gate_dst (N := 1) rfl ?_); (try (refine gate_guard (by rfl) ?_; dsimp only)); refine box_event ?hg (N := 1) ?hd (cs := #[.int .i64 a0_0, .bool a0_1, .int .i64 a0_2, .int .i64 a0_3, .int .i64 a0_4, .slice A0_5 l0_5.length c0_5, .slice A0_6 l0_6.length c0_6]) (t := 24) ?hr ?_; (case hd => rfl); (case hg => rfl); (case hr => first | (go_simp; done) | (go_simp; rfl)); intro gb114 hg w3 hbox hb; have n0_ := Aside0.mk (below_step (by repeat (first | (with_reducible first | exact HB.out | apply below_alloc | apply pw_below_drewN | apply below_drew1) | exact HB.out)) hb); have n1_ := Aside0.mk (hbox); have n2_ := Aside0.mk ((by rw [hg]; exact (below_size (by repeat (first | (with_reducible first | exact HB.out | apply below_alloc | apply pw_below_drewN | apply below_drew1) | exact HB.out))) : w.heap.size ≤ gb114)); have n3_ := Aside0.mk ((by rw [hg]; exact (below_size (by repeat (first | (with_reducible first | exact HB.out | apply below_alloc | apply pw_below_drewN | apply below_drew1) | exact HB.out))) : w.heap.size ≤ gb114)); clear HB; have HB := n0_; have BK114 := n1_; have GW114 := n2_; have GE114 := n3_; clear n0_ n1_ n2_ n3_; clear hb hbox hg)))
  (try simp only [Act.put, List.setIfInBounds_toArray, List.set_cons_zero, List.set_cons_succ])
  go_cut [12] (fun v12 wc => ∃ (kq : Nat) (x12_1 : Bool), v12 = .bool x12_1 ∧ Aside0 (hopmeshref25_follows.j0 kq x12_1 a0_0 a0_1 a0_2 a0_3 a0_4 l0_5 l0_6 = some r) ∧ Aside0 (kq ≤ k) ∧ Aside0 (wc.heap[gb114]? = some (.cells #[.int .i64 a0_0, .bool a0_1, .int .i64 a0_2, .int .i64 a0_3, .int .i64 a0_4, (.slice A0_5 l0_5.length c0_5), (.slice A0_6 l0_6.length c0_6)] 24 (0, 0))) ∧ Aside0 (Below w.heap.size w wc))
  case first =>
    have H := HC2.out
    clear HC2
    by_cases c4 : a0_1 = true
    · subst c4
      have H1 : (hopmeshref25_follows.j0 k false a0_0 true a0_2 a0_3 a0_4 l0_5 l0_6) = some r := by rw [if_pos rfl] at H; exact H
      clear H
      have H := H1
      clear H1
      have H' := Aside0.mk H
      clear H
      have hcz5_0 : w3.cell? ⟨gb114, 0, none⟩ = some (.int .i64 a0_0) := (blk_cell BK114.out 0).trans rfl
      have hcz5_1 : w3.cell? ⟨gb114, 1, none⟩ = some (.bool true) := (blk_cell BK114.out 1).trans rfl
      have hcz5_2 : w3.cell? ⟨gb114, 2, none⟩ = some (.int .i64 a0_2) := (blk_cell BK114.out 2).trans rfl
      have hcz5_3 : w3.cell? ⟨gb114, 3, none⟩ = some (.int .i64 a0_3) := (blk_cell BK114.out 3).trans rfl
      have hcz5_4 : w3.cell? ⟨gb114, 4, none⟩ = some (.int .i64 a0_4) := (blk_cell BK114.out 4).trans rfl
      have hcz5_5 : w3.cell? ⟨gb114, 5, none⟩ = some (.slice A0_5 l0_5.length c0_5) := (blk_cell BK114.out 5).trans rfl
      have hcz5_6 : w3.cell? ⟨gb114, 6, none⟩ = some (.slice A0_6 l0_6.length c0_6) := (blk_cell BK114.out 6).trans rfl
      have hfz5_0 := blk_frozen BK114.out 0
      have hfz5_1 := blk_frozen BK114.out 1
      have hfz5_2 := blk_frozen BK114.out 2
      have hfz5_3 := blk_frozen BK114.out 3
      have hfz5_4 := blk_frozen BK114.out 4
      have hfz5_5 := blk_frozen BK114.out 5
      have hfz5_6 := blk_frozen BK114.out 6
      go_wp2
      repeat (go_quiet (fail); try go_wp2)
      go_meet
      case rel => exact ⟨_, (false), (by first | rfl | (simp; done) | (simp [*]; done)), H', ⟨by first | omega | exact Nat.le_refl _⟩, ⟨by (with_reducible repeat (first | refine blk_drewN ?_ _ | refine blk_drew ?_ | refine blk_alloc ?_ _)); exact BK114.out⟩, ⟨by repeat (first | (with_reducible first | exact HB.out | apply below_alloc | apply pw_below_drewN | apply below_drew1 | refine below_set ?_ GE114.out) | exact HB.out)⟩⟩
    · replace c4 := Bool.eq_false_iff.mpr c4
      subst c4
      have H1 : (hopmeshref25_follows.j0 k (a0_3 != 0) a0_0 false a0_2 a0_3 a0_4 l0_5 l0_6) = some r := by rw [if_neg (show ¬ (false = true) by decide)] at H; exact H
      clear H
      have H := H1
      clear H1
      have H' := Aside0.mk H
      clear H
      have hcz6_0 : w3.cell? ⟨gb114, 0, none⟩ = some (.int .i64 a0_0) := (blk_cell BK114.out 0).trans rfl
      have hcz6_1 : w3.cell? ⟨gb114, 1, none⟩ = some (.bool false) := (blk_cell BK114.out 1).trans rfl
      have hcz6_2 : w3.cell? ⟨gb114, 2, none⟩ = some (.int .i64 a0_2) := (blk_cell BK114.out 2).trans rfl
      have hcz6_3 : w3.cell? ⟨gb114, 3, none⟩ = some (.int .i64 a0_3) := (blk_cell BK114.out 3).trans rfl
      have hcz6_4 : w3.cell? ⟨gb114, 4, none⟩ = some (.int .i64 a0_4) := (blk_cell BK114.out 4).trans rfl
      have hcz6_5 : w3.cell? ⟨gb114, 5, none⟩ = some (.slice A0_5 l0_5.length c0_5) := (blk_cell BK114.out 5).trans rfl
      have hcz6_6 : w3.cell? ⟨gb114, 6, none⟩ = some (.slice A0_6 l0_6.length c0_6) := (blk_cell BK114.out 6).trans rfl
      have hfz6_0 := blk_frozen BK114.out 0
      have hfz6_1 := blk_frozen BK114.out 1
      have hfz6_2 := blk_frozen BK114.out 2
      have hfz6_3 := blk_frozen BK114.out 3
      have hfz6_4 := blk_frozen BK114.out 4
      have hfz6_5 := blk_frozen BK114.out 5
      have hfz6_6 := blk_frozen BK114.out 6
      go_wp2
      repeat (go_quiet (fail); try go_wp2)
      go_meet
      case rel => exact ⟨_, ((a0_3 != 0)), (by first | rfl | (simp; done) | (simp [*]; done)), H', ⟨by first | omega | exact Nat.le_refl _⟩, ⟨by (with_reducible repeat (first | refine blk_drewN ?_ _ | refine blk_drew ?_ | refine blk_alloc ?_ _)); exact BK114.out⟩, ⟨by repeat (first | (with_reducible first | exact HB.out | apply below_alloc | apply pw_below_drewN | apply below_drew1 | refine below_set ?_ GE114.out) | exact HB.out)⟩⟩
  case rest =>
    clear HC2
    try clear p2
    try clear c3
    try clear c4
    try clear hcz5_0
    try clear hcz5_1
    try clear hcz5_2
    try clear hcz5_3
    try clear hcz5_4
    try clear hcz5_5
    try clear hcz5_6
    try clear hcz6_0
    try clear hcz6_1
    try clear hcz6_2
    try clear hcz6_3
    try clear hcz6_4
    try clear hcz6_5
    try clear hcz6_6
    try clear hfz5_0
    try clear hfz5_1
    try clear hfz5_2
    try clear hfz5_3
    try clear hfz5_4
    try clear hfz5_5
    try clear hfz5_6
    try clear hfz6_0
    try clear hfz6_1
    try clear hfz6_2
    try clear hfz6_3
    try clear hfz6_4
    try clear hfz6_5
    try clear hfz6_6
    obtain ⟨kq, x12_1, rfl, HA, HJ1, BK114, HB⟩ := hcut
    cases kq with
    | zero => exact absurd HA.out (by simp [hopmeshref25_follows.j0])
    | succ kj1 =>
      have H := HA.out
      clear HA
      simp only [hopmeshref25_follows.j0] at H
      by_cases c7 : x12_1 = true
      · subst c7
        have H1 : (some false) = some r := by rw [if_pos rfl] at H; exact H
        clear H
        have H := H1
        clear H1
        obtain rfl := Option.some.inj H
        go_wp2
        repeat (go_quiet (fail); try go_wp2)
        go_ret
        exact ⟨by first | rfl | (simp [errW_none, errW_some] <;> rfl) | (simp [*, errW_none, errW_some] <;> rfl), by repeat (first | (with_reducible first | exact HB.out | apply below_alloc | apply pw_below_drewN | apply below_drew1 | refine below_set ?_ GE114.out) | exact HB.out)⟩
      · replace c7 := Bool.eq_false_iff.mpr c7
        subst c7
        have H1 : (if a0_3 = 0 then (if a0_0 = 1 then (if (l0_6.length : Int) = 0 then (if a0_4 ≥ 1 then (if a0_4 ≤ 8 then (if a0_4 = (l0_5.length : Int) then (some true) else (if a0_1 = true then (some false) else (some (decide ((l0_5.length : Int) > a0_4))))) else (some false)) else (some false)) else (some false)) else (if a0_0 = 2 then (if (l0_5.length : Int) = 0 then (if (l0_6.length : Int) ≥ 1 then (some (a0_4 == (l0_6.length : Int))) else (some false)) else (some false)) else (if a0_0 = 3 then (if (l0_6.length : Int) ≥ 1 then (if a0_4 = (l0_6.length : Int) then (if (l0_5.length : Int) = (l0_6.length : Int) then (some true) else (if a0_1 = true then (some false) else (some (decide ((l0_5.length : Int) > (l0_6.length : Int)))))) else (some false)) else (some false)) else (if a0_0 = 4 then (if (l0_5.length : Int) = 0 then (if (l0_6.length : Int) = 0 then (if a0_1 = true then (some true) else (some (a0_4 == 0))) else (some false)) else (some false)) else (if a0_0 = 5 then (if (l0_6.length : Int) = 0 then (if a0_1 = true then (some ((l0_5.length : Int) == (mn 8 a0_4))) else (if a0_4 = 0 then (some ((l0_5.length : Int) == (mn 8 a0_4))) else (some false))) else (some false)) else (if (l0_5.length : Int) = 0 then (if (l0_6.length : Int) = 0 then (some (a0_4 == 0)) else (some false)) else (some false))))))) else (if a0_4 = 0 then (if (l0_5.length : Int) = 0 then (some ((l0_6.length : Int) == 0)) else (some false)) else (some false))) = some r := by rw [if_neg (show ¬ (false = true) by decide)] at H; exact H
        clear H
        have H := H1
        clear H1
        by_cases c8 : a0_3 = 0
        · rw [if_pos c8] at H
          have c8b0 : (a0_3 == 0) = true := beq_iff_eq.mpr c8
          have c8b1 : (a0_3 != 0) = false := bne_eq_false_iff_eq.mpr c8
          clear c8
          by_cases c9 : a0_0 = 1
          · rw [if_pos c9] at H
            have c9b0 : (a0_0 == 1) = true := beq_iff_eq.mpr c9
            have c9b1 : (a0_0 != 1) = false := bne_eq_false_iff_eq.mpr c9
            clear c9
            by_cases c10 : (l0_6.length : Int) = 0
            · rw [if_pos c10] at H
              have c10b0 : ((l0_6.length : Int) == 0) = true := beq_iff_eq.mpr c10
              have c10b1 : ((l0_6.length : Int) != 0) = false := bne_eq_false_iff_eq.mpr c10
              clear c10
              by_cases c11 : a0_4 ≥ 1
              · rw [if_pos c11] at H
                have c11b0 : decide (1 ≤ a0_4) = true := decide_eq_true c11
                clear c11
                by_cases c12 : a0_4 ≤ 8
                · rw [if_pos c12] at H
                  have c12b0 : decide (a0_4 ≤ 8) = true := decide_eq_true c12
                  clear c12
                  by_cases c13 : a0_4 = (l0_5.length : Int)
                  · rw [if_pos c13] at H
                    have c13b0 : (a0_4 == (l0_5.length : Int)) = true := beq_iff_eq.mpr c13
                    have c13b1 : (a0_4 != (l0_5.length : Int)) = false := bne_eq_false_iff_eq.mpr c13
                    clear c13
                    obtain rfl := Option.some.inj H
                    have hcz14_0 : wc.cell? ⟨gb114, 0, none⟩ = some (.int .i64 a0_0) := (blk_cell BK114.out 0).trans rfl
                    have hcz14_1 : wc.cell? ⟨gb114, 1, none⟩ = some (.bool a0_1) := (blk_cell BK114.out 1).trans rfl
                    have hcz14_2 : wc.cell? ⟨gb114, 2, none⟩ = some (.int .i64 a0_2) := (blk_cell BK114.out 2).trans rfl
                    have hcz14_3 : wc.cell? ⟨gb114, 3, none⟩ = some (.int .i64 a0_3) := (blk_cell BK114.out 3).trans rfl
                    have hcz14_4 : wc.cell? ⟨gb114, 4, none⟩ = some (.int .i64 a0_4) := (blk_cell BK114.out 4).trans rfl
                    have hcz14_5 : wc.cell? ⟨gb114, 5, none⟩ = some (.slice A0_5 l0_5.length c0_5) := (blk_cell BK114.out 5).trans rfl
                    have hcz14_6 : wc.cell? ⟨gb114, 6, none⟩ = some (.slice A0_6 l0_6.length c0_6) := (blk_cell BK114.out 6).trans rfl
                    have hfz14_0 := blk_frozen BK114.out 0
                    have hfz14_1 := blk_frozen BK114.out 1
                    have hfz14_2 := blk_frozen BK114.out 2
                    have hfz14_3 := blk_frozen BK114.out 3
                    have hfz14_4 := blk_frozen BK114.out 4
                    have hfz14_5 := blk_frozen BK114.out 5
                    have hfz14_6 := blk_frozen BK114.out 6
                    go_wp2
                    repeat (go_quiet (fail); try go_wp2)
                    go_ret
                    exact ⟨by first | rfl | (simp [errW_none, errW_some] <;> rfl) | (simp [*, errW_none, errW_some] <;> rfl), by repeat (first | (with_reducible first | exact HB.out | apply below_alloc | apply pw_below_drewN | apply below_drew1 | refine below_set ?_ GE114.out) | exact HB.out)⟩
                  · rw [if_neg c13] at H
                    have c13b0 : (a0_4 == (l0_5.length : Int)) = false := beq_eq_false_iff_ne.mpr c13
                    have c13b1 : (a0_4 != (l0_5.length : Int)) = true := bne_iff_ne.mpr c13
                    by_cases c15 : a0_1 = true
                    · subst c15
                      have H1 : (some false) = some r := by rw [if_pos rfl] at H; exact H
                      clear H
                      have H := H1
                      clear H1
                      obtain rfl := Option.some.inj H
                      have hcz16_0 : wc.cell? ⟨gb114, 0, none⟩ = some (.int .i64 a0_0) := (blk_cell BK114.out 0).trans rfl
                      have hcz16_1 : wc.cell? ⟨gb114, 1, none⟩ = some (.bool true) := (blk_cell BK114.out 1).trans rfl
                      have hcz16_2 : wc.cell? ⟨gb114, 2, none⟩ = some (.int .i64 a0_2) := (blk_cell BK114.out 2).trans rfl
                      have hcz16_3 : wc.cell? ⟨gb114, 3, none⟩ = some (.int .i64 a0_3) := (blk_cell BK114.out 3).trans rfl
                      have hcz16_4 : wc.cell? ⟨gb114, 4, none⟩ = some (.int .i64 a0_4) := (blk_cell BK114.out 4).trans rfl
                      have hcz16_5 : wc.cell? ⟨gb114, 5, none⟩ = some (.slice A0_5 l0_5.length c0_5) := (blk_cell BK114.out 5).trans rfl
                      have hcz16_6 : wc.cell? ⟨gb114, 6, none⟩ = some (.slice A0_6 l0_6.length c0_6) := (blk_cell BK114.out 6).trans rfl
                      have hfz16_0 := blk_frozen BK114.out 0
                      have hfz16_1 := blk_frozen BK114.out 1
                      have hfz16_2 := blk_frozen BK114.out 2
                      have hfz16_3 := blk_frozen BK114.out 3
                      have hfz16_4 := blk_frozen BK114.out 4
                      have hfz16_5 := blk_frozen BK114.out 5
                      have hfz16_6 := blk_frozen BK114.out 6
                      go_wp2
                      repeat (go_quiet (fail); try go_wp2)
                      go_ret
                      exact ⟨by first | rfl | (simp [errW_none, errW_some] <;> rfl) | (simp [*, errW_none, errW_some] <;> rfl), by repeat (first | (with_reducible first | exact HB.out | apply below_alloc | apply pw_below_drewN | apply below_drew1 | refine below_set ?_ GE114.out) | exact HB.out)⟩
                    · replace c15 := Bool.eq_false_iff.mpr c15
                      subst c15
                      have H1 : (some (decide ((l0_5.length : Int) > a0_4))) = some r := by rw [if_neg (show ¬ (false = true) by decide)] at H; exact H
                      clear H
                      have H := H1
                      clear H1
                      obtain rfl := Option.some.inj H
                      have hcz17_0 : wc.cell? ⟨gb114, 0, none⟩ = some (.int .i64 a0_0) := (blk_cell BK114.out 0).trans rfl
                      have hcz17_1 : wc.cell? ⟨gb114, 1, none⟩ = some (.bool false) := (blk_cell BK114.out 1).trans rfl
                      have hcz17_2 : wc.cell? ⟨gb114, 2, none⟩ = some (.int .i64 a0_2) := (blk_cell BK114.out 2).trans rfl
                      have hcz17_3 : wc.cell? ⟨gb114, 3, none⟩ = some (.int .i64 a0_3) := (blk_cell BK114.out 3).trans rfl
                      have hcz17_4 : wc.cell? ⟨gb114, 4, none⟩ = some (.int .i64 a0_4) := (blk_cell BK114.out 4).trans rfl
                      have hcz17_5 : wc.cell? ⟨gb114, 5, none⟩ = some (.slice A0_5 l0_5.length c0_5) := (blk_cell BK114.out 5).trans rfl
                      have hcz17_6 : wc.cell? ⟨gb114, 6, none⟩ = some (.slice A0_6 l0_6.length c0_6) := (blk_cell BK114.out 6).trans rfl
                      have hfz17_0 := blk_frozen BK114.out 0
                      have hfz17_1 := blk_frozen BK114.out 1
                      have hfz17_2 := blk_frozen BK114.out 2
                      have hfz17_3 := blk_frozen BK114.out 3
                      have hfz17_4 := blk_frozen BK114.out 4
                      have hfz17_5 := blk_frozen BK114.out 5
                      have hfz17_6 := blk_frozen BK114.out 6
                      go_wp2
                      repeat (go_quiet (fail); try go_wp2)
                      go_ret
                      exact ⟨by first | rfl | (simp [errW_none, errW_some] <;> rfl) | (simp [*, errW_none, errW_some] <;> rfl), by repeat (first | (with_reducible first | exact HB.out | apply below_alloc | apply pw_below_drewN | apply below_drew1 | refine below_set ?_ GE114.out) | exact HB.out)⟩
                · rw [if_neg c12] at H
                  have c12b0 : decide (a0_4 ≤ 8) = false := decide_eq_false c12
                  clear c12
                  obtain rfl := Option.some.inj H
                  have hcz18_0 : wc.cell? ⟨gb114, 0, none⟩ = some (.int .i64 a0_0) := (blk_cell BK114.out 0).trans rfl
                  have hcz18_1 : wc.cell? ⟨gb114, 1, none⟩ = some (.bool a0_1) := (blk_cell BK114.out 1).trans rfl
                  have hcz18_2 : wc.cell? ⟨gb114, 2, none⟩ = some (.int .i64 a0_2) := (blk_cell BK114.out 2).trans rfl
                  have hcz18_3 : wc.cell? ⟨gb114, 3, none⟩ = some (.int .i64 a0_3) := (blk_cell BK114.out 3).trans rfl
                  have hcz18_4 : wc.cell? ⟨gb114, 4, none⟩ = some (.int .i64 a0_4) := (blk_cell BK114.out 4).trans rfl
                  have hcz18_5 : wc.cell? ⟨gb114, 5, none⟩ = some (.slice A0_5 l0_5.length c0_5) := (blk_cell BK114.out 5).trans rfl
                  have hcz18_6 : wc.cell? ⟨gb114, 6, none⟩ = some (.slice A0_6 l0_6.length c0_6) := (blk_cell BK114.out 6).trans rfl
                  have hfz18_0 := blk_frozen BK114.out 0
                  have hfz18_1 := blk_frozen BK114.out 1
                  have hfz18_2 := blk_frozen BK114.out 2
                  have hfz18_3 := blk_frozen BK114.out 3
                  have hfz18_4 := blk_frozen BK114.out 4
                  have hfz18_5 := blk_frozen BK114.out 5
                  have hfz18_6 := blk_frozen BK114.out 6
                  go_wp2
                  repeat (go_quiet (fail); try go_wp2)
                  go_ret
                  exact ⟨by first | rfl | (simp [errW_none, errW_some] <;> rfl) | (simp [*, errW_none, errW_some] <;> rfl), by repeat (first | (with_reducible first | exact HB.out | apply below_alloc | apply pw_below_drewN | apply below_drew1 | refine below_set ?_ GE114.out) | exact HB.out)⟩
              · rw [if_neg c11] at H
                have c11b0 : decide (1 ≤ a0_4) = false := decide_eq_false c11
                clear c11
                obtain rfl := Option.some.inj H
                have hcz19_0 : wc.cell? ⟨gb114, 0, none⟩ = some (.int .i64 a0_0) := (blk_cell BK114.out 0).trans rfl
                have hcz19_1 : wc.cell? ⟨gb114, 1, none⟩ = some (.bool a0_1) := (blk_cell BK114.out 1).trans rfl
                have hcz19_2 : wc.cell? ⟨gb114, 2, none⟩ = some (.int .i64 a0_2) := (blk_cell BK114.out 2).trans rfl
                have hcz19_3 : wc.cell? ⟨gb114, 3, none⟩ = some (.int .i64 a0_3) := (blk_cell BK114.out 3).trans rfl
                have hcz19_4 : wc.cell? ⟨gb114, 4, none⟩ = some (.int .i64 a0_4) := (blk_cell BK114.out 4).trans rfl
                have hcz19_5 : wc.cell? ⟨gb114, 5, none⟩ = some (.slice A0_5 l0_5.length c0_5) := (blk_cell BK114.out 5).trans rfl
                have hcz19_6 : wc.cell? ⟨gb114, 6, none⟩ = some (.slice A0_6 l0_6.length c0_6) := (blk_cell BK114.out 6).trans rfl
                have hfz19_0 := blk_frozen BK114.out 0
                have hfz19_1 := blk_frozen BK114.out 1
                have hfz19_2 := blk_frozen BK114.out 2
                have hfz19_3 := blk_frozen BK114.out 3
                have hfz19_4 := blk_frozen BK114.out 4
                have hfz19_5 := blk_frozen BK114.out 5
                have hfz19_6 := blk_frozen BK114.out 6
                go_wp2
                repeat (go_quiet (fail); try go_wp2)
                go_ret
                exact ⟨by first | rfl | (simp [errW_none, errW_some] <;> rfl) | (simp [*, errW_none, errW_some] <;> rfl), by repeat (first | (with_reducible first | exact HB.out | apply below_alloc | apply pw_below_drewN | apply below_drew1 | refine below_set ?_ GE114.out) | exact HB.out)⟩
            · rw [if_neg c10] at H
              have c10b0 : ((l0_6.length : Int) == 0) = false := beq_eq_false_iff_ne.mpr c10
              have c10b1 : ((l0_6.length : Int) != 0) = true := bne_iff_ne.mpr c10
              have c10b2 : ¬ (l0_6 = []) := fun h_ => c10 (by rw [h_]; rfl)
              obtain rfl := Option.some.inj H
              have hcz20_0 : wc.cell? ⟨gb114, 0, none⟩ = some (.int .i64 a0_0) := (blk_cell BK114.out 0).trans rfl
              have hcz20_1 : wc.cell? ⟨gb114, 1, none⟩ = some (.bool a0_1) := (blk_cell BK114.out 1).trans rfl
              have hcz20_2 : wc.cell? ⟨gb114, 2, none⟩ = some (.int .i64 a0_2) := (blk_cell BK114.out 2).trans rfl
              have hcz20_3 : wc.cell? ⟨gb114, 3, none⟩ = some (.int .i64 a0_3) := (blk_cell BK114.out 3).trans rfl
              have hcz20_4 : wc.cell? ⟨gb114, 4, none⟩ = some (.int .i64 a0_4) := (blk_cell BK114.out 4).trans rfl
              have hcz20_5 : wc.cell? ⟨gb114, 5, none⟩ = some (.slice A0_5 l0_5.length c0_5) := (blk_cell BK114.out 5).trans rfl
              have hcz20_6 : wc.cell? ⟨gb114, 6, none⟩ = some (.slice A0_6 l0_6.length c0_6) := (blk_cell BK114.out 6).trans rfl
              have hfz20_0 := blk_frozen BK114.out 0
              have hfz20_1 := blk_frozen BK114.out 1
              have hfz20_2 := blk_frozen BK114.out 2
              have hfz20_3 := blk_frozen BK114.out 3
              have hfz20_4 := blk_frozen BK114.out 4
              have hfz20_5 := blk_frozen BK114.out 5
              have hfz20_6 := blk_frozen BK114.out 6
              go_wp2
              repeat (go_quiet (fail); try go_wp2)
              go_ret
              exact ⟨by first | rfl | (simp [errW_none, errW_some] <;> rfl) | (simp [*, errW_none, errW_some] <;> rfl), by repeat (first | (with_reducible first | exact HB.out | apply below_alloc | apply pw_below_drewN | apply below_drew1 | refine below_set ?_ GE114.out) | exact HB.out)⟩
          · rw [if_neg c9] at H
            have c9b0 : (a0_0 == 1) = false := beq_eq_false_iff_ne.mpr c9
            have c9b1 : (a0_0 != 1) = true := bne_iff_ne.mpr c9
            by_cases c21 : a0_0 = 2
            · rw [if_pos c21] at H
              have c21b0 : (a0_0 == 2) = true := beq_iff_eq.mpr c21
              have c21b1 : (a0_0 != 2) = false := bne_eq_false_iff_eq.mpr c21
              clear c21
              by_cases c22 : (l0_5.length : Int) = 0
              · rw [if_pos c22] at H
                have c22b0 : ((l0_5.length : Int) == 0) = true := beq_iff_eq.mpr c22
                have c22b1 : ((l0_5.length : Int) != 0) = false := bne_eq_false_iff_eq.mpr c22
                clear c22
                by_cases c23 : (l0_6.length : Int) ≥ 1
                · rw [if_pos c23] at H
                  have c23b0 : decide (1 ≤ (l0_6.length : Int)) = true := decide_eq_true c23
                  have c23b1 : decide (1 ≤ l0_6.length) = true := decide_eq_true (by omega)
                  clear c23
                  obtain rfl := Option.some.inj H
                  have hcz24_0 : wc.cell? ⟨gb114, 0, none⟩ = some (.int .i64 a0_0) := (blk_cell BK114.out 0).trans rfl
                  have hcz24_1 : wc.cell? ⟨gb114, 1, none⟩ = some (.bool a0_1) := (blk_cell BK114.out 1).trans rfl
                  have hcz24_2 : wc.cell? ⟨gb114, 2, none⟩ = some (.int .i64 a0_2) := (blk_cell BK114.out 2).trans rfl
                  have hcz24_3 : wc.cell? ⟨gb114, 3, none⟩ = some (.int .i64 a0_3) := (blk_cell BK114.out 3).trans rfl
                  have hcz24_4 : wc.cell? ⟨gb114, 4, none⟩ = some (.int .i64 a0_4) := (blk_cell BK114.out 4).trans rfl
                  have hcz24_5 : wc.cell? ⟨gb114, 5, none⟩ = some (.slice A0_5 l0_5.length c0_5) := (blk_cell BK114.out 5).trans rfl
                  have hcz24_6 : wc.cell? ⟨gb114, 6, none⟩ = some (.slice A0_6 l0_6.length c0_6) := (blk_cell BK114.out 6).trans rfl
                  have hfz24_0 := blk_frozen BK114.out 0
                  have hfz24_1 := blk_frozen BK114.out 1
                  have hfz24_2 := blk_frozen BK114.out 2
                  have hfz24_3 := blk_frozen BK114.out 3
                  have hfz24_4 := blk_frozen BK114.out 4
                  have hfz24_5 := blk_frozen BK114.out 5
                  have hfz24_6 := blk_frozen BK114.out 6
                  go_wp2
                  repeat (go_quiet (fail); try go_wp2)
                  go_ret
                  exact ⟨by first | rfl | (simp [errW_none, errW_some] <;> rfl) | (simp [*, errW_none, errW_some] <;> rfl), by repeat (first | (with_reducible first | exact HB.out | apply below_alloc | apply pw_below_drewN | apply below_drew1 | refine below_set ?_ GE114.out) | exact HB.out)⟩
                · rw [if_neg c23] at H
                  have c23b0 : decide (1 ≤ (l0_6.length : Int)) = false := decide_eq_false c23
                  have c23b1 : decide (1 ≤ l0_6.length) = false := decide_eq_false (by omega)
                  clear c23
                  obtain rfl := Option.some.inj H
                  have hcz25_0 : wc.cell? ⟨gb114, 0, none⟩ = some (.int .i64 a0_0) := (blk_cell BK114.out 0).trans rfl
                  have hcz25_1 : wc.cell? ⟨gb114, 1, none⟩ = some (.bool a0_1) := (blk_cell BK114.out 1).trans rfl
                  have hcz25_2 : wc.cell? ⟨gb114, 2, none⟩ = some (.int .i64 a0_2) := (blk_cell BK114.out 2).trans rfl
                  have hcz25_3 : wc.cell? ⟨gb114, 3, none⟩ = some (.int .i64 a0_3) := (blk_cell BK114.out 3).trans rfl
                  have hcz25_4 : wc.cell? ⟨gb114, 4, none⟩ = some (.int .i64 a0_4) := (blk_cell BK114.out 4).trans rfl
                  have hcz25_5 : wc.cell? ⟨gb114, 5, none⟩ = some (.slice A0_5 l0_5.length c0_5) := (blk_cell BK114.out 5).trans rfl
                  have hcz25_6 : wc.cell? ⟨gb114, 6, none⟩ = some (.slice A0_6 l0_6.length c0_6) := (blk_cell BK114.out 6).trans rfl
                  have hfz25_0 := blk_frozen BK114.out 0
                  have hfz25_1 := blk_frozen BK114.out 1
                  have hfz25_2 := blk_frozen BK114.out 2
                  have hfz25_3 := blk_frozen BK114.out 3
                  have hfz25_4 := blk_frozen BK114.out 4
                  have hfz25_5 := blk_frozen BK114.out 5
                  have hfz25_6 := blk_frozen BK114.out 6
                  go_wp2
                  repeat (go_quiet (fail); try go_wp2)
                  go_ret
                  exact ⟨by first | rfl | (simp [errW_none, errW_some] <;> rfl) | (simp [*, errW_none, errW_some] <;> rfl), by repeat (first | (with_reducible first | exact HB.out | apply below_alloc | apply pw_below_drewN | apply below_drew1 | refine below_set ?_ GE114.out) | exact HB.out)⟩
              · rw [if_neg c22] at H
                have c22b0 : ((l0_5.length : Int) == 0) = false := beq_eq_false_iff_ne.mpr c22
                have c22b1 : ((l0_5.length : Int) != 0) = true := bne_iff_ne.mpr c22
                have c22b2 : ¬ (l0_5 = []) := fun h_ => c22 (by rw [h_]; rfl)
                obtain rfl := Option.some.inj H
                have hcz26_0 : wc.cell? ⟨gb114, 0, none⟩ = some (.int .i64 a0_0) := (blk_cell BK114.out 0).trans rfl
                have hcz26_1 : wc.cell? ⟨gb114, 1, none⟩ = some (.bool a0_1) := (blk_cell BK114.out 1).trans rfl
                have hcz26_2 : wc.cell? ⟨gb114, 2, none⟩ = some (.int .i64 a0_2) := (blk_cell BK114.out 2).trans rfl
                have hcz26_3 : wc.cell? ⟨gb114, 3, none⟩ = some (.int .i64 a0_3) := (blk_cell BK114.out 3).trans rfl
                have hcz26_4 : wc.cell? ⟨gb114, 4, none⟩ = some (.int .i64 a0_4) := (blk_cell BK114.out 4).trans rfl
                have hcz26_5 : wc.cell? ⟨gb114, 5, none⟩ = some (.slice A0_5 l0_5.length c0_5) := (blk_cell BK114.out 5).trans rfl
                have hcz26_6 : wc.cell? ⟨gb114, 6, none⟩ = some (.slice A0_6 l0_6.length c0_6) := (blk_cell BK114.out 6).trans rfl
                have hfz26_0 := blk_frozen BK114.out 0
                have hfz26_1 := blk_frozen BK114.out 1
                have hfz26_2 := blk_frozen BK114.out 2
                have hfz26_3 := blk_frozen BK114.out 3
                have hfz26_4 := blk_frozen BK114.out 4
                have hfz26_5 := blk_frozen BK114.out 5
                have hfz26_6 := blk_frozen BK114.out 6
                go_wp2
                repeat (go_quiet (fail); try go_wp2)
                go_ret
                exact ⟨by first | rfl | (simp [errW_none, errW_some] <;> rfl) | (simp [*, errW_none, errW_some] <;> rfl), by repeat (first | (with_reducible first | exact HB.out | apply below_alloc | apply pw_below_drewN | apply below_drew1 | refine below_set ?_ GE114.out) | exact HB.out)⟩
            · rw [if_neg c21] at H
              have c21b0 : (a0_0 == 2) = false := beq_eq_false_iff_ne.mpr c21
              have c21b1 : (a0_0 != 2) = true := bne_iff_ne.mpr c21
              by_cases c27 : a0_0 = 3
              · rw [if_pos c27] at H
                have c27b0 : (a0_0 == 3) = true := beq_iff_eq.mpr c27
                have c27b1 : (a0_0 != 3) = false := bne_eq_false_iff_eq.mpr c27
                clear c27
                by_cases c28 : (l0_6.length : Int) ≥ 1
                · rw [if_pos c28] at H
                  have c28b0 : decide (1 ≤ (l0_6.length : Int)) = true := decide_eq_true c28
                  have c28b1 : decide (1 ≤ l0_6.length) = true := decide_eq_true (by omega)
                  clear c28
                  by_cases c29 : a0_4 = (l0_6.length : Int)
                  · rw [if_pos c29] at H
                    have c29b0 : (a0_4 == (l0_6.length : Int)) = true := beq_iff_eq.mpr c29
                    have c29b1 : (a0_4 != (l0_6.length : Int)) = false := bne_eq_false_iff_eq.mpr c29
                    clear c29
                    by_cases c30 : (l0_5.length : Int) = (l0_6.length : Int)
                    · rw [if_pos c30] at H
                      have c30b0 : ((l0_5.length : Int) == (l0_6.length : Int)) = true := beq_iff_eq.mpr c30
                      have c30b1 : ((l0_5.length : Int) != (l0_6.length : Int)) = false := bne_eq_false_iff_eq.mpr c30
                      have c30b2 : (l0_5.length == l0_6.length) = true := by first | simpa using c30 | (simp at c30 ⊢; omega)
                      clear c30
                      obtain rfl := Option.some.inj H
                      have hcz31_0 : wc.cell? ⟨gb114, 0, none⟩ = some (.int .i64 a0_0) := (blk_cell BK114.out 0).trans rfl
                      have hcz31_1 : wc.cell? ⟨gb114, 1, none⟩ = some (.bool a0_1) := (blk_cell BK114.out 1).trans rfl
                      have hcz31_2 : wc.cell? ⟨gb114, 2, none⟩ = some (.int .i64 a0_2) := (blk_cell BK114.out 2).trans rfl
                      have hcz31_3 : wc.cell? ⟨gb114, 3, none⟩ = some (.int .i64 a0_3) := (blk_cell BK114.out 3).trans rfl
                      have hcz31_4 : wc.cell? ⟨gb114, 4, none⟩ = some (.int .i64 a0_4) := (blk_cell BK114.out 4).trans rfl
                      have hcz31_5 : wc.cell? ⟨gb114, 5, none⟩ = some (.slice A0_5 l0_5.length c0_5) := (blk_cell BK114.out 5).trans rfl
                      have hcz31_6 : wc.cell? ⟨gb114, 6, none⟩ = some (.slice A0_6 l0_6.length c0_6) := (blk_cell BK114.out 6).trans rfl
                      have hfz31_0 := blk_frozen BK114.out 0
                      have hfz31_1 := blk_frozen BK114.out 1
                      have hfz31_2 := blk_frozen BK114.out 2
                      have hfz31_3 := blk_frozen BK114.out 3
                      have hfz31_4 := blk_frozen BK114.out 4
                      have hfz31_5 := blk_frozen BK114.out 5
                      have hfz31_6 := blk_frozen BK114.out 6
                      go_wp2
                      repeat (go_quiet (fail); try go_wp2)
                      go_ret
                      exact ⟨by first | rfl | (simp [errW_none, errW_some] <;> rfl) | (simp [*, errW_none, errW_some] <;> rfl), by repeat (first | (with_reducible first | exact HB.out | apply below_alloc | apply pw_below_drewN | apply below_drew1 | refine below_set ?_ GE114.out) | exact HB.out)⟩
                    · rw [if_neg c30] at H
                      have c30b0 : ((l0_5.length : Int) == (l0_6.length : Int)) = false := beq_eq_false_iff_ne.mpr c30
                      have c30b1 : ((l0_5.length : Int) != (l0_6.length : Int)) = true := bne_iff_ne.mpr c30
                      have c30b2 : (l0_5.length == l0_6.length) = false := by first | simpa using c30 | (simp at c30 ⊢; omega)
                      by_cases c32 : a0_1 = true
                      · subst c32
                        have H1 : (some false) = some r := by rw [if_pos rfl] at H; exact H
                        clear H
                        have H := H1
                        clear H1
                        obtain rfl := Option.some.inj H
                        have hcz33_0 : wc.cell? ⟨gb114, 0, none⟩ = some (.int .i64 a0_0) := (blk_cell BK114.out 0).trans rfl
                        have hcz33_1 : wc.cell? ⟨gb114, 1, none⟩ = some (.bool true) := (blk_cell BK114.out 1).trans rfl
                        have hcz33_2 : wc.cell? ⟨gb114, 2, none⟩ = some (.int .i64 a0_2) := (blk_cell BK114.out 2).trans rfl
                        have hcz33_3 : wc.cell? ⟨gb114, 3, none⟩ = some (.int .i64 a0_3) := (blk_cell BK114.out 3).trans rfl
                        have hcz33_4 : wc.cell? ⟨gb114, 4, none⟩ = some (.int .i64 a0_4) := (blk_cell BK114.out 4).trans rfl
                        have hcz33_5 : wc.cell? ⟨gb114, 5, none⟩ = some (.slice A0_5 l0_5.length c0_5) := (blk_cell BK114.out 5).trans rfl
                        have hcz33_6 : wc.cell? ⟨gb114, 6, none⟩ = some (.slice A0_6 l0_6.length c0_6) := (blk_cell BK114.out 6).trans rfl
                        have hfz33_0 := blk_frozen BK114.out 0
                        have hfz33_1 := blk_frozen BK114.out 1
                        have hfz33_2 := blk_frozen BK114.out 2
                        have hfz33_3 := blk_frozen BK114.out 3
                        have hfz33_4 := blk_frozen BK114.out 4
                        have hfz33_5 := blk_frozen BK114.out 5
                        have hfz33_6 := blk_frozen BK114.out 6
                        go_wp2
                        repeat (go_quiet (fail); try go_wp2)
                        go_ret
                        exact ⟨by first | rfl | (simp [errW_none, errW_some] <;> rfl) | (simp [*, errW_none, errW_some] <;> rfl), by repeat (first | (with_reducible first | exact HB.out | apply below_alloc | apply pw_below_drewN | apply below_drew1 | refine below_set ?_ GE114.out) | exact HB.out)⟩
                      · replace c32 := Bool.eq_false_iff.mpr c32
                        subst c32
                        have H1 : (some (decide ((l0_5.length : Int) > (l0_6.length : Int)))) = some r := by rw [if_neg (show ¬ (false = true) by decide)] at H; exact H
                        clear H
                        have H := H1
                        clear H1
                        obtain rfl := Option.some.inj H
                        have hcz34_0 : wc.cell? ⟨gb114, 0, none⟩ = some (.int .i64 a0_0) := (blk_cell BK114.out 0).trans rfl
                        have hcz34_1 : wc.cell? ⟨gb114, 1, none⟩ = some (.bool false) := (blk_cell BK114.out 1).trans rfl
                        have hcz34_2 : wc.cell? ⟨gb114, 2, none⟩ = some (.int .i64 a0_2) := (blk_cell BK114.out 2).trans rfl
                        have hcz34_3 : wc.cell? ⟨gb114, 3, none⟩ = some (.int .i64 a0_3) := (blk_cell BK114.out 3).trans rfl
                        have hcz34_4 : wc.cell? ⟨gb114, 4, none⟩ = some (.int .i64 a0_4) := (blk_cell BK114.out 4).trans rfl
                        have hcz34_5 : wc.cell? ⟨gb114, 5, none⟩ = some (.slice A0_5 l0_5.length c0_5) := (blk_cell BK114.out 5).trans rfl
                        have hcz34_6 : wc.cell? ⟨gb114, 6, none⟩ = some (.slice A0_6 l0_6.length c0_6) := (blk_cell BK114.out 6).trans rfl
                        have hfz34_0 := blk_frozen BK114.out 0
                        have hfz34_1 := blk_frozen BK114.out 1
                        have hfz34_2 := blk_frozen BK114.out 2
                        have hfz34_3 := blk_frozen BK114.out 3
                        have hfz34_4 := blk_frozen BK114.out 4
                        have hfz34_5 := blk_frozen BK114.out 5
                        have hfz34_6 := blk_frozen BK114.out 6
                        go_wp2
                        repeat (go_quiet (fail); try go_wp2)
                        go_ret
                        exact ⟨by first | rfl | (simp [errW_none, errW_some] <;> rfl) | (simp [*, errW_none, errW_some] <;> rfl), by repeat (first | (with_reducible first | exact HB.out | apply below_alloc | apply pw_below_drewN | apply below_drew1 | refine below_set ?_ GE114.out) | exact HB.out)⟩
                  · rw [if_neg c29] at H
                    have c29b0 : (a0_4 == (l0_6.length : Int)) = false := beq_eq_false_iff_ne.mpr c29
                    have c29b1 : (a0_4 != (l0_6.length : Int)) = true := bne_iff_ne.mpr c29
                    obtain rfl := Option.some.inj H
                    have hcz35_0 : wc.cell? ⟨gb114, 0, none⟩ = some (.int .i64 a0_0) := (blk_cell BK114.out 0).trans rfl
                    have hcz35_1 : wc.cell? ⟨gb114, 1, none⟩ = some (.bool a0_1) := (blk_cell BK114.out 1).trans rfl
                    have hcz35_2 : wc.cell? ⟨gb114, 2, none⟩ = some (.int .i64 a0_2) := (blk_cell BK114.out 2).trans rfl
                    have hcz35_3 : wc.cell? ⟨gb114, 3, none⟩ = some (.int .i64 a0_3) := (blk_cell BK114.out 3).trans rfl
                    have hcz35_4 : wc.cell? ⟨gb114, 4, none⟩ = some (.int .i64 a0_4) := (blk_cell BK114.out 4).trans rfl
                    have hcz35_5 : wc.cell? ⟨gb114, 5, none⟩ = some (.slice A0_5 l0_5.length c0_5) := (blk_cell BK114.out 5).trans rfl
                    have hcz35_6 : wc.cell? ⟨gb114, 6, none⟩ = some (.slice A0_6 l0_6.length c0_6) := (blk_cell BK114.out 6).trans rfl
                    have hfz35_0 := blk_frozen BK114.out 0
                    have hfz35_1 := blk_frozen BK114.out 1
                    have hfz35_2 := blk_frozen BK114.out 2
                    have hfz35_3 := blk_frozen BK114.out 3
                    have hfz35_4 := blk_frozen BK114.out 4
                    have hfz35_5 := blk_frozen BK114.out 5
                    have hfz35_6 := blk_frozen BK114.out 6
                    go_wp2
                    repeat (go_quiet (fail); try go_wp2)
                    go_ret
                    exact ⟨by first | rfl | (simp [errW_none, errW_some] <;> rfl) | (simp [*, errW_none, errW_some] <;> rfl), by repeat (first | (with_reducible first | exact HB.out | apply below_alloc | apply pw_below_drewN | apply below_drew1 | refine below_set ?_ GE114.out) | exact HB.out)⟩
                · rw [if_neg c28] at H
                  have c28b0 : decide (1 ≤ (l0_6.length : Int)) = false := decide_eq_false c28
                  have c28b1 : decide (1 ≤ l0_6.length) = false := decide_eq_false (by omega)
                  clear c28
                  obtain rfl := Option.some.inj H
                  have hcz36_0 : wc.cell? ⟨gb114, 0, none⟩ = some (.int .i64 a0_0) := (blk_cell BK114.out 0).trans rfl
                  have hcz36_1 : wc.cell? ⟨gb114, 1, none⟩ = some (.bool a0_1) := (blk_cell BK114.out 1).trans rfl
                  have hcz36_2 : wc.cell? ⟨gb114, 2, none⟩ = some (.int .i64 a0_2) := (blk_cell BK114.out 2).trans rfl
                  have hcz36_3 : wc.cell? ⟨gb114, 3, none⟩ = some (.int .i64 a0_3) := (blk_cell BK114.out 3).trans rfl
                  have hcz36_4 : wc.cell? ⟨gb114, 4, none⟩ = some (.int .i64 a0_4) := (blk_cell BK114.out 4).trans rfl
                  have hcz36_5 : wc.cell? ⟨gb114, 5, none⟩ = some (.slice A0_5 l0_5.length c0_5) := (blk_cell BK114.out 5).trans rfl
                  have hcz36_6 : wc.cell? ⟨gb114, 6, none⟩ = some (.slice A0_6 l0_6.length c0_6) := (blk_cell BK114.out 6).trans rfl
                  have hfz36_0 := blk_frozen BK114.out 0
                  have hfz36_1 := blk_frozen BK114.out 1
                  have hfz36_2 := blk_frozen BK114.out 2
                  have hfz36_3 := blk_frozen BK114.out 3
                  have hfz36_4 := blk_frozen BK114.out 4
                  have hfz36_5 := blk_frozen BK114.out 5
                  have hfz36_6 := blk_frozen BK114.out 6
                  go_wp2
                  repeat (go_quiet (fail); try go_wp2)
                  go_ret
                  exact ⟨by first | rfl | (simp [errW_none, errW_some] <;> rfl) | (simp [*, errW_none, errW_some] <;> rfl), by repeat (first | (with_reducible first | exact HB.out | apply below_alloc | apply pw_below_drewN | apply below_drew1 | refine below_set ?_ GE114.out) | exact HB.out)⟩
              · rw [if_neg c27] at H
                have c27b0 : (a0_0 == 3) = false := beq_eq_false_iff_ne.mpr c27
                have c27b1 : (a0_0 != 3) = true := bne_iff_ne.mpr c27
                by_cases c37 : a0_0 = 4
                · rw [if_pos c37] at H
                  have c37b0 : (a0_0 == 4) = true := beq_iff_eq.mpr c37
                  have c37b1 : (a0_0 != 4) = false := bne_eq_false_iff_eq.mpr c37
                  clear c37
                  by_cases c38 : (l0_5.length : Int) = 0
                  · rw [if_pos c38] at H
                    have c38b0 : ((l0_5.length : Int) == 0) = true := beq_iff_eq.mpr c38
                    have c38b1 : ((l0_5.length : Int) != 0) = false := bne_eq_false_iff_eq.mpr c38
                    clear c38
                    by_cases c39 : (l0_6.length : Int) = 0
                    · rw [if_pos c39] at H
                      have c39b0 : ((l0_6.length : Int) == 0) = true := beq_iff_eq.mpr c39
                      have c39b1 : ((l0_6.length : Int) != 0) = false := bne_eq_false_iff_eq.mpr c39
                      clear c39
                      by_cases c40 : a0_1 = true
                      · subst c40
                        have H1 : (some true) = some r := by rw [if_pos rfl] at H; exact H
                        clear H
                        have H := H1
                        clear H1
                        obtain rfl := Option.some.inj H
                        have hcz41_0 : wc.cell? ⟨gb114, 0, none⟩ = some (.int .i64 a0_0) := (blk_cell BK114.out 0).trans rfl
                        have hcz41_1 : wc.cell? ⟨gb114, 1, none⟩ = some (.bool true) := (blk_cell BK114.out 1).trans rfl
                        have hcz41_2 : wc.cell? ⟨gb114, 2, none⟩ = some (.int .i64 a0_2) := (blk_cell BK114.out 2).trans rfl
                        have hcz41_3 : wc.cell? ⟨gb114, 3, none⟩ = some (.int .i64 a0_3) := (blk_cell BK114.out 3).trans rfl
                        have hcz41_4 : wc.cell? ⟨gb114, 4, none⟩ = some (.int .i64 a0_4) := (blk_cell BK114.out 4).trans rfl
                        have hcz41_5 : wc.cell? ⟨gb114, 5, none⟩ = some (.slice A0_5 l0_5.length c0_5) := (blk_cell BK114.out 5).trans rfl
                        have hcz41_6 : wc.cell? ⟨gb114, 6, none⟩ = some (.slice A0_6 l0_6.length c0_6) := (blk_cell BK114.out 6).trans rfl
                        have hfz41_0 := blk_frozen BK114.out 0
                        have hfz41_1 := blk_frozen BK114.out 1
                        have hfz41_2 := blk_frozen BK114.out 2
                        have hfz41_3 := blk_frozen BK114.out 3
                        have hfz41_4 := blk_frozen BK114.out 4
                        have hfz41_5 := blk_frozen BK114.out 5
                        have hfz41_6 := blk_frozen BK114.out 6
                        go_wp2
                        repeat (go_quiet (fail); try go_wp2)
                        go_ret
                        exact ⟨by first | rfl | (simp [errW_none, errW_some] <;> rfl) | (simp [*, errW_none, errW_some] <;> rfl), by repeat (first | (with_reducible first | exact HB.out | apply below_alloc | apply pw_below_drewN | apply below_drew1 | refine below_set ?_ GE114.out) | exact HB.out)⟩
                      · replace c40 := Bool.eq_false_iff.mpr c40
                        subst c40
                        have H1 : (some (a0_4 == 0)) = some r := by rw [if_neg (show ¬ (false = true) by decide)] at H; exact H
                        clear H
                        have H := H1
                        clear H1
                        obtain rfl := Option.some.inj H
                        have hcz42_0 : wc.cell? ⟨gb114, 0, none⟩ = some (.int .i64 a0_0) := (blk_cell BK114.out 0).trans rfl
                        have hcz42_1 : wc.cell? ⟨gb114, 1, none⟩ = some (.bool false) := (blk_cell BK114.out 1).trans rfl
                        have hcz42_2 : wc.cell? ⟨gb114, 2, none⟩ = some (.int .i64 a0_2) := (blk_cell BK114.out 2).trans rfl
                        have hcz42_3 : wc.cell? ⟨gb114, 3, none⟩ = some (.int .i64 a0_3) := (blk_cell BK114.out 3).trans rfl
                        have hcz42_4 : wc.cell? ⟨gb114, 4, none⟩ = some (.int .i64 a0_4) := (blk_cell BK114.out 4).trans rfl
                        have hcz42_5 : wc.cell? ⟨gb114, 5, none⟩ = some (.slice A0_5 l0_5.length c0_5) := (blk_cell BK114.out 5).trans rfl
                        have hcz42_6 : wc.cell? ⟨gb114, 6, none⟩ = some (.slice A0_6 l0_6.length c0_6) := (blk_cell BK114.out 6).trans rfl
                        have hfz42_0 := blk_frozen BK114.out 0
                        have hfz42_1 := blk_frozen BK114.out 1
                        have hfz42_2 := blk_frozen BK114.out 2
                        have hfz42_3 := blk_frozen BK114.out 3
                        have hfz42_4 := blk_frozen BK114.out 4
                        have hfz42_5 := blk_frozen BK114.out 5
                        have hfz42_6 := blk_frozen BK114.out 6
                        go_wp2
                        repeat (go_quiet (fail); try go_wp2)
                        go_ret
                        exact ⟨by first | rfl | (simp [errW_none, errW_some] <;> rfl) | (simp [*, errW_none, errW_some] <;> rfl), by repeat (first | (with_reducible first | exact HB.out | apply below_alloc | apply pw_below_drewN | apply below_drew1 | refine below_set ?_ GE114.out) | exact HB.out)⟩
                    · rw [if_neg c39] at H
                      have c39b0 : ((l0_6.length : Int) == 0) = false := beq_eq_false_iff_ne.mpr c39
                      have c39b1 : ((l0_6.length : Int) != 0) = true := bne_iff_ne.mpr c39
                      have c39b2 : ¬ (l0_6 = []) := fun h_ => c39 (by rw [h_]; rfl)
                      obtain rfl := Option.some.inj H
                      have hcz43_0 : wc.cell? ⟨gb114, 0, none⟩ = some (.int .i64 a0_0) := (blk_cell BK114.out 0).trans rfl
                      have hcz43_1 : wc.cell? ⟨gb114, 1, none⟩ = some (.bool a0_1) := (blk_cell BK114.out 1).trans rfl
                      have hcz43_2 : wc.cell? ⟨gb114, 2, none⟩ = some (.int .i64 a0_2) := (blk_cell BK114.out 2).trans rfl
                      have hcz43_3 : wc.cell? ⟨gb114, 3, none⟩ = some (.int .i64 a0_3) := (blk_cell BK114.out 3).trans rfl
                      have hcz43_4 : wc.cell? ⟨gb114, 4, none⟩ = some (.int .i64 a0_4) := (blk_cell BK114.out 4).trans rfl
                      have hcz43_5 : wc.cell? ⟨gb114, 5, none⟩ = some (.slice A0_5 l0_5.length c0_5) := (blk_cell BK114.out 5).trans rfl
                      have hcz43_6 : wc.cell? ⟨gb114, 6, none⟩ = some (.slice A0_6 l0_6.length c0_6) := (blk_cell BK114.out 6).trans rfl
                      have hfz43_0 := blk_frozen BK114.out 0
                      have hfz43_1 := blk_frozen BK114.out 1
                      have hfz43_2 := blk_frozen BK114.out 2
                      have hfz43_3 := blk_frozen BK114.out 3
                      have hfz43_4 := blk_frozen BK114.out 4
                      have hfz43_5 := blk_frozen BK114.out 5
                      have hfz43_6 := blk_frozen BK114.out 6
                      go_wp2
                      repeat (go_quiet (fail); try go_wp2)
                      go_ret
                      exact ⟨by first | rfl | (simp [errW_none, errW_some] <;> rfl) | (simp [*, errW_none, errW_some] <;> rfl), by repeat (first | (with_reducible first | exact HB.out | apply below_alloc | apply pw_below_drewN | apply below_drew1 | refine below_set ?_ GE114.out) | exact HB.out)⟩
                  · rw [if_neg c38] at H
                    have c38b0 : ((l0_5.length : Int) == 0) = false := beq_eq_false_iff_ne.mpr c38
                    have c38b1 : ((l0_5.length : Int) != 0) = true := bne_iff_ne.mpr c38
                    have c38b2 : ¬ (l0_5 = []) := fun h_ => c38 (by rw [h_]; rfl)
                    obtain rfl := Option.some.inj H
                    have hcz44_0 : wc.cell? ⟨gb114, 0, none⟩ = some (.int .i64 a0_0) := (blk_cell BK114.out 0).trans rfl
                    have hcz44_1 : wc.cell? ⟨gb114, 1, none⟩ = some (.bool a0_1) := (blk_cell BK114.out 1).trans rfl
                    have hcz44_2 : wc.cell? ⟨gb114, 2, none⟩ = some (.int .i64 a0_2) := (blk_cell BK114.out 2).trans rfl
                    have hcz44_3 : wc.cell? ⟨gb114, 3, none⟩ = some (.int .i64 a0_3) := (blk_cell BK114.out 3).trans rfl
                    have hcz44_4 : wc.cell? ⟨gb114, 4, none⟩ = some (.int .i64 a0_4) := (blk_cell BK114.out 4).trans rfl
                    have hcz44_5 : wc.cell? ⟨gb114, 5, none⟩ = some (.slice A0_5 l0_5.length c0_5) := (blk_cell BK114.out 5).trans rfl
                    have hcz44_6 : wc.cell? ⟨gb114, 6, none⟩ = some (.slice A0_6 l0_6.length c0_6) := (blk_cell BK114.out 6).trans rfl
                    have hfz44_0 := blk_frozen BK114.out 0
                    have hfz44_1 := blk_frozen BK114.out 1
                    have hfz44_2 := blk_frozen BK114.out 2
                    have hfz44_3 := blk_frozen BK114.out 3
                    have hfz44_4 := blk_frozen BK114.out 4
                    have hfz44_5 := blk_frozen BK114.out 5
                    have hfz44_6 := blk_frozen BK114.out 6
                    go_wp2
                    repeat (go_quiet (fail); try go_wp2)
                    go_ret
                    exact ⟨by first | rfl | (simp [errW_none, errW_some] <;> rfl) | (simp [*, errW_none, errW_some] <;> rfl), by repeat (first | (with_reducible first | exact HB.out | apply below_alloc | apply pw_below_drewN | apply below_drew1 | refine below_set ?_ GE114.out) | exact HB.out)⟩
                · rw [if_neg c37] at H
                  have c37b0 : (a0_0 == 4) = false := beq_eq_false_iff_ne.mpr c37
                  have c37b1 : (a0_0 != 4) = true := bne_iff_ne.mpr c37
                  by_cases c45 : a0_0 = 5
                  · rw [if_pos c45] at H
                    have c45b0 : (a0_0 == 5) = true := beq_iff_eq.mpr c45
                    have c45b1 : (a0_0 != 5) = false := bne_eq_false_iff_eq.mpr c45
                    clear c45
                    by_cases c46 : (l0_6.length : Int) = 0
                    · rw [if_pos c46] at H
                      have c46b0 : ((l0_6.length : Int) == 0) = true := beq_iff_eq.mpr c46
                      have c46b1 : ((l0_6.length : Int) != 0) = false := bne_eq_false_iff_eq.mpr c46
                      clear c46
                      by_cases c47 : a0_1 = true
                      · subst c47
                        have H1 : (some ((l0_5.length : Int) == (mn 8 a0_4))) = some r := by rw [if_pos rfl] at H; exact H
                        clear H
                        have H := H1
                        clear H1
                        obtain ⟨ji48, hji48⟩ : ∃ j_ : Int, (mn 8 a0_4) = j_ := ⟨_, rfl⟩
                        replace H : (some ((l0_5.length : Int) == (ji48))) = some r := by first | (rw [hji48] at H; exact H) | (simp only [hji48] at H ⊢; exact H)
                        have hji48_ : (if a0_4 < 8 then a0_4 else 8) = ji48 := hji48
                        obtain rfl := Option.some.inj H
                        have hcz49_0 : wc.cell? ⟨gb114, 0, none⟩ = some (.int .i64 a0_0) := (blk_cell BK114.out 0).trans rfl
                        have hcz49_1 : wc.cell? ⟨gb114, 1, none⟩ = some (.bool true) := (blk_cell BK114.out 1).trans rfl
                        have hcz49_2 : wc.cell? ⟨gb114, 2, none⟩ = some (.int .i64 a0_2) := (blk_cell BK114.out 2).trans rfl
                        have hcz49_3 : wc.cell? ⟨gb114, 3, none⟩ = some (.int .i64 a0_3) := (blk_cell BK114.out 3).trans rfl
                        have hcz49_4 : wc.cell? ⟨gb114, 4, none⟩ = some (.int .i64 a0_4) := (blk_cell BK114.out 4).trans rfl
                        have hcz49_5 : wc.cell? ⟨gb114, 5, none⟩ = some (.slice A0_5 l0_5.length c0_5) := (blk_cell BK114.out 5).trans rfl
                        have hcz49_6 : wc.cell? ⟨gb114, 6, none⟩ = some (.slice A0_6 l0_6.length c0_6) := (blk_cell BK114.out 6).trans rfl
                        have hfz49_0 := blk_frozen BK114.out 0
                        have hfz49_1 := blk_frozen BK114.out 1
                        have hfz49_2 := blk_frozen BK114.out 2
                        have hfz49_3 := blk_frozen BK114.out 3
                        have hfz49_4 := blk_frozen BK114.out 4
                        have hfz49_5 := blk_frozen BK114.out 5
                        have hfz49_6 := blk_frozen BK114.out 6
                        go_wp2
                        repeat (go_quiet (fail); try go_wp2)
                        go_ret
                        exact ⟨by first | rfl | (simp [errW_none, errW_some] <;> rfl) | (simp only [← hji48]; first | rfl | (simp [errW_none, errW_some] <;> rfl)) | (simp [*, errW_none, errW_some] <;> rfl), by repeat (first | (with_reducible first | exact HB.out | apply below_alloc | apply pw_below_drewN | apply below_drew1 | refine below_set ?_ GE114.out) | exact HB.out)⟩
                      · replace c47 := Bool.eq_false_iff.mpr c47
                        subst c47
                        have H1 : (if a0_4 = 0 then (some ((l0_5.length : Int) == (mn 8 a0_4))) else (some false)) = some r := by rw [if_neg (show ¬ (false = true) by decide)] at H; exact H
                        clear H
                        have H := H1
                        clear H1
                        by_cases c50 : a0_4 = 0
                        · rw [if_pos c50] at H
                          have c50b0 : (a0_4 == 0) = true := beq_iff_eq.mpr c50
                          have c50b1 : (a0_4 != 0) = false := bne_eq_false_iff_eq.mpr c50
                          clear c50
                          obtain ⟨ji51, hji51⟩ : ∃ j_ : Int, (mn 8 a0_4) = j_ := ⟨_, rfl⟩
                          replace H : (some ((l0_5.length : Int) == (ji51))) = some r := by first | (rw [hji51] at H; exact H) | (simp only [hji51] at H ⊢; exact H)
                          have hji51_ : (if a0_4 < 8 then a0_4 else 8) = ji51 := hji51
                          obtain rfl := Option.some.inj H
                          have hcz52_0 : wc.cell? ⟨gb114, 0, none⟩ = some (.int .i64 a0_0) := (blk_cell BK114.out 0).trans rfl
                          have hcz52_1 : wc.cell? ⟨gb114, 1, none⟩ = some (.bool false) := (blk_cell BK114.out 1).trans rfl
                          have hcz52_2 : wc.cell? ⟨gb114, 2, none⟩ = some (.int .i64 a0_2) := (blk_cell BK114.out 2).trans rfl
                          have hcz52_3 : wc.cell? ⟨gb114, 3, none⟩ = some (.int .i64 a0_3) := (blk_cell BK114.out 3).trans rfl
                          have hcz52_4 : wc.cell? ⟨gb114, 4, none⟩ = some (.int .i64 a0_4) := (blk_cell BK114.out 4).trans rfl
                          have hcz52_5 : wc.cell? ⟨gb114, 5, none⟩ = some (.slice A0_5 l0_5.length c0_5) := (blk_cell BK114.out 5).trans rfl
                          have hcz52_6 : wc.cell? ⟨gb114, 6, none⟩ = some (.slice A0_6 l0_6.length c0_6) := (blk_cell BK114.out 6).trans rfl
                          have hfz52_0 := blk_frozen BK114.out 0
                          have hfz52_1 := blk_frozen BK114.out 1
                          have hfz52_2 := blk_frozen BK114.out 2
                          have hfz52_3 := blk_frozen BK114.out 3
                          have hfz52_4 := blk_frozen BK114.out 4
                          have hfz52_5 := blk_frozen BK114.out 5
                          have hfz52_6 := blk_frozen BK114.out 6
                          go_wp2
                          repeat (go_quiet (fail); try go_wp2)
                          go_ret
                          exact ⟨by first | rfl | (simp [errW_none, errW_some] <;> rfl) | (simp only [← hji51]; first | rfl | (simp [errW_none, errW_some] <;> rfl)) | (simp [*, errW_none, errW_some] <;> rfl), by repeat (first | (with_reducible first | exact HB.out | apply below_alloc | apply pw_below_drewN | apply below_drew1 | refine below_set ?_ GE114.out) | exact HB.out)⟩
                        · rw [if_neg c50] at H
                          have c50b0 : (a0_4 == 0) = false := beq_eq_false_iff_ne.mpr c50
                          have c50b1 : (a0_4 != 0) = true := bne_iff_ne.mpr c50
                          obtain rfl := Option.some.inj H
                          have hcz53_0 : wc.cell? ⟨gb114, 0, none⟩ = some (.int .i64 a0_0) := (blk_cell BK114.out 0).trans rfl
                          have hcz53_1 : wc.cell? ⟨gb114, 1, none⟩ = some (.bool false) := (blk_cell BK114.out 1).trans rfl
                          have hcz53_2 : wc.cell? ⟨gb114, 2, none⟩ = some (.int .i64 a0_2) := (blk_cell BK114.out 2).trans rfl
                          have hcz53_3 : wc.cell? ⟨gb114, 3, none⟩ = some (.int .i64 a0_3) := (blk_cell BK114.out 3).trans rfl
                          have hcz53_4 : wc.cell? ⟨gb114, 4, none⟩ = some (.int .i64 a0_4) := (blk_cell BK114.out 4).trans rfl
                          have hcz53_5 : wc.cell? ⟨gb114, 5, none⟩ = some (.slice A0_5 l0_5.length c0_5) := (blk_cell BK114.out 5).trans rfl
                          have hcz53_6 : wc.cell? ⟨gb114, 6, none⟩ = some (.slice A0_6 l0_6.length c0_6) := (blk_cell BK114.out 6).trans rfl
                          have hfz53_0 := blk_frozen BK114.out 0
                          have hfz53_1 := blk_frozen BK114.out 1
                          have hfz53_2 := blk_frozen BK114.out 2
                          have hfz53_3 := blk_frozen BK114.out 3
                          have hfz53_4 := blk_frozen BK114.out 4
                          have hfz53_5 := blk_frozen BK114.out 5
                          have hfz53_6 := blk_frozen BK114.out 6
                          go_wp2
                          repeat (go_quiet (fail); try go_wp2)
                          go_ret
                          exact ⟨by first | rfl | (simp [errW_none, errW_some] <;> rfl) | (simp [*, errW_none, errW_some] <;> rfl), by repeat (first | (with_reducible first | exact HB.out | apply below_alloc | apply pw_below_drewN | apply below_drew1 | refine below_set ?_ GE114.out) | exact HB.out)⟩
                    · rw [if_neg c46] at H
                      have c46b0 : ((l0_6.length : Int) == 0) = false := beq_eq_false_iff_ne.mpr c46
                      have c46b1 : ((l0_6.length : Int) != 0) = true := bne_iff_ne.mpr c46
                      have c46b2 : ¬ (l0_6 = []) := fun h_ => c46 (by rw [h_]; rfl)
                      obtain rfl := Option.some.inj H
                      have hcz54_0 : wc.cell? ⟨gb114, 0, none⟩ = some (.int .i64 a0_0) := (blk_cell BK114.out 0).trans rfl
                      have hcz54_1 : wc.cell? ⟨gb114, 1, none⟩ = some (.bool a0_1) := (blk_cell BK114.out 1).trans rfl
                      have hcz54_2 : wc.cell? ⟨gb114, 2, none⟩ = some (.int .i64 a0_2) := (blk_cell BK114.out 2).trans rfl
                      have hcz54_3 : wc.cell? ⟨gb114, 3, none⟩ = some (.int .i64 a0_3) := (blk_cell BK114.out 3).trans rfl
                      have hcz54_4 : wc.cell? ⟨gb114, 4, none⟩ = some (.int .i64 a0_4) := (blk_cell BK114.out 4).trans rfl
                      have hcz54_5 : wc.cell? ⟨gb114, 5, none⟩ = some (.slice A0_5 l0_5.length c0_5) := (blk_cell BK114.out 5).trans rfl
                      have hcz54_6 : wc.cell? ⟨gb114, 6, none⟩ = some (.slice A0_6 l0_6.length c0_6) := (blk_cell BK114.out 6).trans rfl
                      have hfz54_0 := blk_frozen BK114.out 0
                      have hfz54_1 := blk_frozen BK114.out 1
                      have hfz54_2 := blk_frozen BK114.out 2
                      have hfz54_3 := blk_frozen BK114.out 3
                      have hfz54_4 := blk_frozen BK114.out 4
                      have hfz54_5 := blk_frozen BK114.out 5
                      have hfz54_6 := blk_frozen BK114.out 6
                      go_wp2
                      repeat (go_quiet (fail); try go_wp2)
                      go_ret
                      exact ⟨by first | rfl | (simp [errW_none, errW_some] <;> rfl) | (simp [*, errW_none, errW_some] <;> rfl), by repeat (first | (with_reducible first | exact HB.out | apply below_alloc | apply pw_below_drewN | apply below_drew1 | refine below_set ?_ GE114.out) | exact HB.out)⟩
                  · rw [if_neg c45] at H
                    have c45b0 : (a0_0 == 5) = false := beq_eq_false_iff_ne.mpr c45
                    have c45b1 : (a0_0 != 5) = true := bne_iff_ne.mpr c45
                    by_cases c55 : (l0_5.length : Int) = 0
                    · rw [if_pos c55] at H
                      have c55b0 : ((l0_5.length : Int) == 0) = true := beq_iff_eq.mpr c55
                      have c55b1 : ((l0_5.length : Int) != 0) = false := bne_eq_false_iff_eq.mpr c55
                      clear c55
                      by_cases c56 : (l0_6.length : Int) = 0
                      · rw [if_pos c56] at H
                        have c56b0 : ((l0_6.length : Int) == 0) = true := beq_iff_eq.mpr c56
                        have c56b1 : ((l0_6.length : Int) != 0) = false := bne_eq_false_iff_eq.mpr c56
                        clear c56
                        obtain rfl := Option.some.inj H
                        have hcz57_0 : wc.cell? ⟨gb114, 0, none⟩ = some (.int .i64 a0_0) := (blk_cell BK114.out 0).trans rfl
                        have hcz57_1 : wc.cell? ⟨gb114, 1, none⟩ = some (.bool a0_1) := (blk_cell BK114.out 1).trans rfl
                        have hcz57_2 : wc.cell? ⟨gb114, 2, none⟩ = some (.int .i64 a0_2) := (blk_cell BK114.out 2).trans rfl
                        have hcz57_3 : wc.cell? ⟨gb114, 3, none⟩ = some (.int .i64 a0_3) := (blk_cell BK114.out 3).trans rfl
                        have hcz57_4 : wc.cell? ⟨gb114, 4, none⟩ = some (.int .i64 a0_4) := (blk_cell BK114.out 4).trans rfl
                        have hcz57_5 : wc.cell? ⟨gb114, 5, none⟩ = some (.slice A0_5 l0_5.length c0_5) := (blk_cell BK114.out 5).trans rfl
                        have hcz57_6 : wc.cell? ⟨gb114, 6, none⟩ = some (.slice A0_6 l0_6.length c0_6) := (blk_cell BK114.out 6).trans rfl
                        have hfz57_0 := blk_frozen BK114.out 0
                        have hfz57_1 := blk_frozen BK114.out 1
                        have hfz57_2 := blk_frozen BK114.out 2
                        have hfz57_3 := blk_frozen BK114.out 3
                        have hfz57_4 := blk_frozen BK114.out 4
                        have hfz57_5 := blk_frozen BK114.out 5
                        have hfz57_6 := blk_frozen BK114.out 6
                        go_wp2
                        repeat (go_quiet (fail); try go_wp2)
                        go_ret
                        exact ⟨by first | rfl | (simp [errW_none, errW_some] <;> rfl) | (simp [*, errW_none, errW_some] <;> rfl), by repeat (first | (with_reducible first | exact HB.out | apply below_alloc | apply pw_below_drewN | apply below_drew1 | refine below_set ?_ GE114.out) | exact HB.out)⟩
                      · rw [if_neg c56] at H
                        have c56b0 : ((l0_6.length : Int) == 0) = false := beq_eq_false_iff_ne.mpr c56
                        have c56b1 : ((l0_6.length : Int) != 0) = true := bne_iff_ne.mpr c56
                        have c56b2 : ¬ (l0_6 = []) := fun h_ => c56 (by rw [h_]; rfl)
                        obtain rfl := Option.some.inj H
                        have hcz58_0 : wc.cell? ⟨gb114, 0, none⟩ = some (.int .i64 a0_0) := (blk_cell BK114.out 0).trans rfl
                        have hcz58_1 : wc.cell? ⟨gb114, 1, none⟩ = some (.bool a0_1) := (blk_cell BK114.out 1).trans rfl
                        have hcz58_2 : wc.cell? ⟨gb114, 2, none⟩ = some (.int .i64 a0_2) := (blk_cell BK114.out 2).trans rfl
                        have hcz58_3 : wc.cell? ⟨gb114, 3, none⟩ = some (.int .i64 a0_3) := (blk_cell BK114.out 3).trans rfl
                        have hcz58_4 : wc.cell? ⟨gb114, 4, none⟩ = some (.int .i64 a0_4) := (blk_cell BK114.out 4).trans rfl
                        have hcz58_5 : wc.cell? ⟨gb114, 5, none⟩ = some (.slice A0_5 l0_5.length c0_5) := (blk_cell BK114.out 5).trans rfl
                        have hcz58_6 : wc.cell? ⟨gb114, 6, none⟩ = some (.slice A0_6 l0_6.length c0_6) := (blk_cell BK114.out 6).trans rfl
                        have hfz58_0 := blk_frozen BK114.out 0
                        have hfz58_1 := blk_frozen BK114.out 1
                        have hfz58_2 := blk_frozen BK114.out 2
                        have hfz58_3 := blk_frozen BK114.out 3
                        have hfz58_4 := blk_frozen BK114.out 4
                        have hfz58_5 := blk_frozen BK114.out 5
                        have hfz58_6 := blk_frozen BK114.out 6
                        go_wp2
                        repeat (go_quiet (fail); try go_wp2)
                        go_ret
                        exact ⟨by first | rfl | (simp [errW_none, errW_some] <;> rfl) | (simp [*, errW_none, errW_some] <;> rfl), by repeat (first | (with_reducible first | exact HB.out | apply below_alloc | apply pw_below_drewN | apply below_drew1 | refine below_set ?_ GE114.out) | exact HB.out)⟩
                    · rw [if_neg c55] at H
                      have c55b0 : ((l0_5.length : Int) == 0) = false := beq_eq_false_iff_ne.mpr c55
                      have c55b1 : ((l0_5.length : Int) != 0) = true := bne_iff_ne.mpr c55
                      have c55b2 : ¬ (l0_5 = []) := fun h_ => c55 (by rw [h_]; rfl)
                      obtain rfl := Option.some.inj H
                      have hcz59_0 : wc.cell? ⟨gb114, 0, none⟩ = some (.int .i64 a0_0) := (blk_cell BK114.out 0).trans rfl
                      have hcz59_1 : wc.cell? ⟨gb114, 1, none⟩ = some (.bool a0_1) := (blk_cell BK114.out 1).trans rfl
                      have hcz59_2 : wc.cell? ⟨gb114, 2, none⟩ = some (.int .i64 a0_2) := (blk_cell BK114.out 2).trans rfl
                      have hcz59_3 : wc.cell? ⟨gb114, 3, none⟩ = some (.int .i64 a0_3) := (blk_cell BK114.out 3).trans rfl
                      have hcz59_4 : wc.cell? ⟨gb114, 4, none⟩ = some (.int .i64 a0_4) := (blk_cell BK114.out 4).trans rfl
                      have hcz59_5 : wc.cell? ⟨gb114, 5, none⟩ = some (.slice A0_5 l0_5.length c0_5) := (blk_cell BK114.out 5).trans rfl
                      have hcz59_6 : wc.cell? ⟨gb114, 6, none⟩ = some (.slice A0_6 l0_6.length c0_6) := (blk_cell BK114.out 6).trans rfl
                      have hfz59_0 := blk_frozen BK114.out 0
                      have hfz59_1 := blk_frozen BK114.out 1
                      have hfz59_2 := blk_frozen BK114.out 2
                      have hfz59_3 := blk_frozen BK114.out 3
                      have hfz59_4 := blk_frozen BK114.out 4
                      have hfz59_5 := blk_frozen BK114.out 5
                      have hfz59_6 := blk_frozen BK114.out 6
                      go_wp2
                      repeat (go_quiet (fail); try go_wp2)
                      go_ret
                      exact ⟨by first | rfl | (simp [errW_none, errW_some] <;> rfl) | (simp [*, errW_none, errW_some] <;> rfl), by repeat (first | (with_reducible first | exact HB.out | apply below_alloc | apply pw_below_drewN | apply below_drew1 | refine below_set ?_ GE114.out) | exact HB.out)⟩
        · rw [if_neg c8] at H
          have c8b0 : (a0_3 == 0) = false := beq_eq_false_iff_ne.mpr c8
          have c8b1 : (a0_3 != 0) = true := bne_iff_ne.mpr c8
          by_cases c60 : a0_4 = 0
          · rw [if_pos c60] at H
            have c60b0 : (a0_4 == 0) = true := beq_iff_eq.mpr c60
            have c60b1 : (a0_4 != 0) = false := bne_eq_false_iff_eq.mpr c60
            clear c60
            by_cases c61 : (l0_5.length : Int) = 0
            · rw [if_pos c61] at H
              have c61b0 : ((l0_5.length : Int) == 0) = true := beq_iff_eq.mpr c61
              have c61b1 : ((l0_5.length : Int) != 0) = false := bne_eq_false_iff_eq.mpr c61
              clear c61
              obtain rfl := Option.some.inj H
              have hcz62_0 : wc.cell? ⟨gb114, 0, none⟩ = some (.int .i64 a0_0) := (blk_cell BK114.out 0).trans rfl
              have hcz62_1 : wc.cell? ⟨gb114, 1, none⟩ = some (.bool a0_1) := (blk_cell BK114.out 1).trans rfl
              have hcz62_2 : wc.cell? ⟨gb114, 2, none⟩ = some (.int .i64 a0_2) := (blk_cell BK114.out 2).trans rfl
              have hcz62_3 : wc.cell? ⟨gb114, 3, none⟩ = some (.int .i64 a0_3) := (blk_cell BK114.out 3).trans rfl
              have hcz62_4 : wc.cell? ⟨gb114, 4, none⟩ = some (.int .i64 a0_4) := (blk_cell BK114.out 4).trans rfl
              have hcz62_5 : wc.cell? ⟨gb114, 5, none⟩ = some (.slice A0_5 l0_5.length c0_5) := (blk_cell BK114.out 5).trans rfl
              have hcz62_6 : wc.cell? ⟨gb114, 6, none⟩ = some (.slice A0_6 l0_6.length c0_6) := (blk_cell BK114.out 6).trans rfl
              have hfz62_0 := blk_frozen BK114.out 0
              have hfz62_1 := blk_frozen BK114.out 1
              have hfz62_2 := blk_frozen BK114.out 2
              have hfz62_3 := blk_frozen BK114.out 3
              have hfz62_4 := blk_frozen BK114.out 4
              have hfz62_5 := blk_frozen BK114.out 5
              have hfz62_6 := blk_frozen BK114.out 6
              go_wp2
              repeat (go_quiet (fail); try go_wp2)
              go_ret
              exact ⟨by first | rfl | (simp [errW_none, errW_some] <;> rfl) | (simp [*, errW_none, errW_some] <;> rfl), by repeat (first | (with_reducible first | exact HB.out | apply below_alloc | apply pw_below_drewN | apply below_drew1 | refine below_set ?_ GE114.out) | exact HB.out)⟩
            · rw [if_neg c61] at H
              have c61b0 : ((l0_5.length : Int) == 0) = false := beq_eq_false_iff_ne.mpr c61
              have c61b1 : ((l0_5.length : Int) != 0) = true := bne_iff_ne.mpr c61
              have c61b2 : ¬ (l0_5 = []) := fun h_ => c61 (by rw [h_]; rfl)
              obtain rfl := Option.some.inj H
              have hcz63_0 : wc.cell? ⟨gb114, 0, none⟩ = some (.int .i64 a0_0) := (blk_cell BK114.out 0).trans rfl
              have hcz63_1 : wc.cell? ⟨gb114, 1, none⟩ = some (.bool a0_1) := (blk_cell BK114.out 1).trans rfl
              have hcz63_2 : wc.cell? ⟨gb114, 2, none⟩ = some (.int .i64 a0_2) := (blk_cell BK114.out 2).trans rfl
              have hcz63_3 : wc.cell? ⟨gb114, 3, none⟩ = some (.int .i64 a0_3) := (blk_cell BK114.out 3).trans rfl
              have hcz63_4 : wc.cell? ⟨gb114, 4, none⟩ = some (.int .i64 a0_4) := (blk_cell BK114.out 4).trans rfl
              have hcz63_5 : wc.cell? ⟨gb114, 5, none⟩ = some (.slice A0_5 l0_5.length c0_5) := (blk_cell BK114.out 5).trans rfl
              have hcz63_6 : wc.cell? ⟨gb114, 6, none⟩ = some (.slice A0_6 l0_6.length c0_6) := (blk_cell BK114.out 6).trans rfl
              have hfz63_0 := blk_frozen BK114.out 0
              have hfz63_1 := blk_frozen BK114.out 1
              have hfz63_2 := blk_frozen BK114.out 2
              have hfz63_3 := blk_frozen BK114.out 3
              have hfz63_4 := blk_frozen BK114.out 4
              have hfz63_5 := blk_frozen BK114.out 5
              have hfz63_6 := blk_frozen BK114.out 6
              go_wp2
              repeat (go_quiet (fail); try go_wp2)
              go_ret
              exact ⟨by first | rfl | (simp [errW_none, errW_some] <;> rfl) | (simp [*, errW_none, errW_some] <;> rfl), by repeat (first | (with_reducible first | exact HB.out | apply below_alloc | apply pw_below_drewN | apply below_drew1 | refine below_set ?_ GE114.out) | exact HB.out)⟩
          · rw [if_neg c60] at H
            have c60b0 : (a0_4 == 0) = false := beq_eq_false_iff_ne.mpr c60
            have c60b1 : (a0_4 != 0) = true := bne_iff_ne.mpr c60
            obtain rfl := Option.some.inj H
            have hcz64_0 : wc.cell? ⟨gb114, 0, none⟩ = some (.int .i64 a0_0) := (blk_cell BK114.out 0).trans rfl
            have hcz64_1 : wc.cell? ⟨gb114, 1, none⟩ = some (.bool a0_1) := (blk_cell BK114.out 1).trans rfl
            have hcz64_2 : wc.cell? ⟨gb114, 2, none⟩ = some (.int .i64 a0_2) := (blk_cell BK114.out 2).trans rfl
            have hcz64_3 : wc.cell? ⟨gb114, 3, none⟩ = some (.int .i64 a0_3) := (blk_cell BK114.out 3).trans rfl
            have hcz64_4 : wc.cell? ⟨gb114, 4, none⟩ = some (.int .i64 a0_4) := (blk_cell BK114.out 4).trans rfl
            have hcz64_5 : wc.cell? ⟨gb114, 5, none⟩ = some (.slice A0_5 l0_5.length c0_5) := (blk_cell BK114.out 5).trans rfl
            have hcz64_6 : wc.cell? ⟨gb114, 6, none⟩ = some (.slice A0_6 l0_6.length c0_6) := (blk_cell BK114.out 6).trans rfl
            have hfz64_0 := blk_frozen BK114.out 0
            have hfz64_1 := blk_frozen BK114.out 1
            have hfz64_2 := blk_frozen BK114.out 2
            have hfz64_3 := blk_frozen BK114.out 3
            have hfz64_4 := blk_frozen BK114.out 4
            have hfz64_5 := blk_frozen BK114.out 5
            have hfz64_6 := blk_frozen BK114.out 6
            go_wp2
            repeat (go_quiet (fail); try go_wp2)
            go_ret
            exact ⟨by first | rfl | (simp [errW_none, errW_some] <;> rfl) | (simp [*, errW_none, errW_some] <;> rfl), by repeat (first | (with_reducible first | exact HB.out | apply below_alloc | apply pw_below_drewN | apply below_drew1 | refine below_set ?_ GE114.out) | exact HB.out)⟩
end Go.Proofs.Ytjjcgjpmhhkeaaa.A
