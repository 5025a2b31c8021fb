/- ! ### cellmsg_Answers: function 17 (cut to what is reached: wip/tools/slimout2.py) -/
import Derived.Test.YtjjcgjpmhhkeaaaSFB0
import Derived.Test.YtjjcgjpmhhkeaaaSFB2
namespace Go.Proofs.Ytjjcgjpmhhkeaaa.B
open Go.RowKit Go.Proofs.YtjjcgjpmhhkeaaaW.PrintWords Go.Proofs.YtjjcgjpmhhkeaaaW.PrintLast Go.Proofs.YtjjcgjpmhhkeaaaW.PrintMore
attribute [local go_sem] max2_int min2_int max_two min_two max_three min_three max_four min_four   -- for this text's walks alone
set_option linter.unusedVariables false
set_option linter.unusedSimpArgs false
def cellmsg_Answers.j0 : Nat → Bool → Int → Bool → Int → Int → Int → List (S37) → List (S37) → Int → Bool → Int → Int → Int → List (S37) → List (S37) → Option (Bool)
  | 0, _, _, _, _, _, _, _, _, _, _, _, _, _, _, _ => none
  | k + 1, x35, x104000, x104001, x104002, x104003, x104004, x104005, x104006, x105000, x105001, x105002, x105003, x105004, x105005, x105006 => if x35 = true then (some false) else (if x105003 = 0 then (if x104000 = 1 then (if x105004 ≤ x104004 then ((cellmsg_among.f x105005 x104005).bind fun t107 => (some t107)) else (some false)) else (if x104000 = 3 then (if x105004 ≤ x104004 then ((cellmsg_among.f x105005 x104005).bind fun t108 => (if t108 = true then ((cellmsg_among.f x105006 x104006).bind fun t109 => (some t109)) else (some false))) else (some false)) else (if x104000 = 2 then ((api_Spot_24.f k x105006 x104006).bind fun t110 => (some t110)) else (some true)))) else (some true))
def cellmsg_Answers.f (k : Nat) (a0_0 : Int) (a0_1 : Bool) (a0_2 : Int) (a0_3 : Int) (a0_4 : Int) (l0_5 : List (S37)) (l0_6 : List (S37)) (a1_0 : Int) (a1_1 : Bool) (a1_2 : Int) (a1_3 : Int) (a1_4 : Int) (l1_5 : List (S37)) (l1_6 : List (S37)) : Option (Bool) := (cellmsg_Check.f a0_0 a0_1 a0_2 a0_3 a0_4 l0_5 l0_6).bind fun t105 => (if t105 = 0 then ((cellmsg_Check.f a1_0 a1_1 a1_2 a1_3 a1_4 l1_5 l1_6).bind fun t106 => (if t106 = 0 then (if a0_1 = true then (cellmsg_Answers.j0 k true a0_0 a0_1 a0_2 a0_3 a0_4 l0_5 l0_6 a1_0 a1_1 a1_2 a1_3 a1_4 l1_5 l1_6) else (if a1_1 = true then (if a0_0 = a1_0 then (cellmsg_Answers.j0 k (a0_2 != a1_2) a0_0 a0_1 a0_2 a0_3 a0_4 l0_5 l0_6 a1_0 a1_1 a1_2 a1_3 a1_4 l1_5 l1_6) else (cellmsg_Answers.j0 k true a0_0 a0_1 a0_2 a0_3 a0_4 l0_5 l0_6 a1_0 a1_1 a1_2 a1_3 a1_4 l1_5 l1_6)) else (cellmsg_Answers.j0 k true a0_0 a0_1 a0_2 a0_3 a0_4 l0_5 l0_6 a1_0 a1_1 a1_2 a1_3 a1_4 l1_5 l1_6))) else (cellmsg_Answers.j0 k true a0_0 a0_1 a0_2 a0_3 a0_4 l0_5 l0_6 a1_0 a1_1 a1_2 a1_3 a1_4 l1_5 l1_6))) else (cellmsg_Answers.j0 k true a0_0 a0_1 a0_2 a0_3 a0_4 l0_5 l0_6 a1_0 a1_1 a1_2 a1_3 a1_4 l1_5 l1_6))
theorem cellmsg_Answers.mono_l : ∀ k, (∀ y0 y1 y2 y3 y4 y5 y6 y7 y8 y9 y10 y11 y12 y13 y14, LeO (cellmsg_Answers.j0 k y0 y1 y2 y3 y4 y5 y6 y7 y8 y9 y10 y11 y12 y13 y14) (cellmsg_Answers.j0 (k + 1) y0 y1 y2 y3 y4 y5 y6 y7 y8 y9 y10 y11 y12 y13 y14))
  | 0 => fun _ _ _ _ _ _ _ _ _ _ _ _ _ _ _ r h => by simp [cellmsg_Answers.j0] at h
  | k + 1 => by
    have ih0 := cellmsg_Answers.mono_l k
    · intro y0 y1 y2 y3 y4 y5 y6 y7 y8 y9 y10 y11 y12 y13 y14
      unfold cellmsg_Answers.j0
      repeat' first
      | (with_reducible exact ih0 _ _ _ _ _ _ _ _ _ _ _ _ _ _ _)
      | (with_reducible exact api_Spot_24.mono _ _ _)
      | (with_reducible exact LeO.refl _)
      | (with_reducible exact LeO.none _)
      | (with_reducible refine LeO.ite ?_ ?_)
      | (with_reducible refine LeO.bind ?_ (fun _ => ?_))
      | exact ih0 _ _ _ _ _ _ _ _ _ _ _ _ _ _ _
      | exact api_Spot_24.mono _ _ _
      | exact LeO.none _
      | refine LeO.ite ?_ ?_
      | refine LeO.bind ?_ (fun _ => ?_)
theorem cellmsg_Answers.mono : ∀ a0 a1 a2 a3 a4 a5 a6 a7 a8 a9 a10 a11 a12 a13 k, LeO (cellmsg_Answers.f k a0 a1 a2 a3 a4 a5 a6 a7 a8 a9 a10 a11 a12 a13) (cellmsg_Answers.f (k + 1) a0 a1 a2 a3 a4 a5 a6 a7 a8 a9 a10 a11 a12 a13) := by
  intro a0 a1 a2 a3 a4 a5 a6 a7 a8 a9 a10 a11 a12 a13 k
  have ih0 := cellmsg_Answers.mono_l k
  unfold cellmsg_Answers.f
  repeat' first
      | (with_reducible exact ih0 _ _ _ _ _ _ _ _ _ _ _ _ _ _ _)
      | (with_reducible exact api_Spot_24.mono _ _ _)
      | (with_reducible exact LeO.refl _)
      | (with_reducible exact LeO.none _)
      | (with_reducible refine LeO.ite ?_ ?_)
      | (with_reducible refine LeO.bind ?_ (fun _ => ?_))
      | exact ih0 _ _ _ _ _ _ _ _ _ _ _ _ _ _ _
      | exact api_Spot_24.mono _ _ _
      | exact LeO.none _
      | refine LeO.ite ?_ ?_
      | refine LeO.bind ?_ (fun _ => ?_)
set_option maxHeartbeats 8000000 in
set_option maxRecDepth 100000 in
theorem cellmsg_Answers.calls (k : Nat) (a0_0 : Int) (a0_1 : Bool) (a0_2 : Int) (a0_3 : Int) (a0_4 : Int) (A0_5 : Option Addr) (c0_5 : Nat) (l0_5 : List (S37)) (A0_6 : Option Addr) (c0_6 : Nat) (l0_6 : List (S37)) (a1_0 : Int) (a1_1 : Bool) (a1_2 : Int) (a1_3 : Int) (a1_4 : Int) (A1_5 : Option Addr) (c1_5 : Nat) (l1_5 : List (S37)) (A1_6 : Option Addr) (c1_6 : Nat) (l1_6 : List (S37)) (r : Bool) (w : World) (hr0_5 : Kd.C k37 w A0_5 l0_5.length l0_5) (hc0_5 : l0_5.length ≤ c0_5) (hr0_6 : Kd.C k37 w A0_6 l0_6.length l0_6) (hc0_6 : l0_6.length ≤ c0_6) (hr1_5 : Kd.C k37 w A1_5 l1_5.length l1_5) (hc1_5 : l1_5.length ≤ c1_5) (hr1_6 : Kd.C k37 w A1_6 l1_6.length l1_6) (hc1_6 : l1_6.length ≤ c1_6) (h : cellmsg_Answers.f k a0_0 a0_1 a0_2 a0_3 a0_4 l0_5 l0_6 a1_0 a1_1 a1_2 a1_3 a1_4 l1_5 l1_6 = some r) :
    Calls Try.prog 17 #[.agg #[.int .i64 a0_0, .bool a0_1, .int .i64 a0_2, .int .i64 a0_3, .int .i64 a0_4, .slice A0_5 l0_5.length c0_5, .slice A0_6 l0_6.length c0_6], .agg #[.int .i64 a1_0, .bool a1_1, .int .i64 a1_2, .int .i64 a1_3, .int .i64 a1_4, .slice A1_5 l1_5.length c1_5, .slice A1_6 l1_6.length c1_6]] w fun e w' => e = .returned (.bool r) ∧ Below w.heap.size w w' := by
  have hu24 := Try.underlying24
  have HR0_5 := Aside0.mk hr0_5
  have HC0_5 := Aside0.mk hc0_5
  clear hr0_5 hc0_5
  have HR0_6 := Aside0.mk hr0_6
  have HC0_6 := Aside0.mk hc0_6
  clear hr0_6 hc0_6
  have HR1_5 := Aside0.mk hr1_5
  have HC1_5 := Aside0.mk hc1_5
  clear hr1_5 hc1_5
  have HR1_6 := Aside0.mk hr1_6
  have HC1_6 := Aside0.mk hc1_6
  clear hr1_6 hc1_6
  have HB := Aside0.mk (Below.refl w.heap.size w)
  have H : ((cellmsg_Check.f a0_0 a0_1 a0_2 a0_3 a0_4 l0_5 l0_6).bind fun t105 => (if t105 = 0 then ((cellmsg_Check.f a1_0 a1_1 a1_2 a1_3 a1_4 l1_5 l1_6).bind fun t106 => (if t106 = 0 then (if a0_1 = true then (cellmsg_Answers.j0 k true a0_0 a0_1 a0_2 a0_3 a0_4 l0_5 l0_6 a1_0 a1_1 a1_2 a1_3 a1_4 l1_5 l1_6) else (if a1_1 = true then (if a0_0 = a1_0 then (cellmsg_Answers.j0 k (a0_2 != a1_2) a0_0 a0_1 a0_2 a0_3 a0_4 l0_5 l0_6 a1_0 a1_1 a1_2 a1_3 a1_4 l1_5 l1_6) else (cellmsg_Answers.j0 k true a0_0 a0_1 a0_2 a0_3 a0_4 l0_5 l0_6 a1_0 a1_1 a1_2 a1_3 a1_4 l1_5 l1_6)) else (cellmsg_Answers.j0 k true a0_0 a0_1 a0_2 a0_3 a0_4 l0_5 l0_6 a1_0 a1_1 a1_2 a1_3 a1_4 l1_5 l1_6))) else (cellmsg_Answers.j0 k true a0_0 a0_1 a0_2 a0_3 a0_4 l0_5 l0_6 a1_0 a1_1 a1_2 a1_3 a1_4 l1_5 l1_6))) else (cellmsg_Answers.j0 k true a0_0 a0_1 a0_2 a0_3 a0_4 l0_5 l0_6 a1_0 a1_1 a1_2 a1_3 a1_4 l1_5 l1_6))) = some r := h
  clear h
  have HC3 := Aside0.mk H
  clear H
  go_enter Try.func17, Try.ntmps17
  go_upto_region 1 with (first | ((with_reducible refine gate_dst (N := 2) rfl ?_); refine box_event ?hg (N := 2) ?hd (cs := #[.int .i64 a0_0, .bool a0_1, .int .i64 a0_2, .int .i64 a0_3, .int .i64 a0_4, .slice A0_5 l0_5.length c0_5, .slice A0_6 l0_6.length c0_6]) (t := 24) ?hr ?_; (case hd => rfl); (case hg => rfl); (case hr => first | (go_simp; done) | (go_simp; rfl)); intro gb103 hg w4 hbox hb; have n0_ := Aside0.mk (below_step (by repeat (first | (with_reducible first | exact HB.out | apply below_alloc | apply pw_below_drewN | apply below_drew1) | exact HB.out)) hb); have n1_ := Aside0.mk (hbox); have n2_ := Aside0.mk ((by rw [hg]; exact (below_size (by repeat (first | (with_reducible first | exact HB.out | apply below_alloc | apply pw_below_drewN | apply below_drew1) | exact HB.out))) : w.heap.size ≤ gb103)); have n3_ := Aside0.mk ((by rw [hg]; exact (below_size (by repeat (first | (with_reducible first | exact HB.out | apply below_alloc | apply pw_below_drewN | apply below_drew1) | exact HB.out))) : w.heap.size ≤ gb103)); clear HB; have HB := n0_; have BK103 := n1_; have GW103 := n2_; have GE103 := n3_; clear n0_ n1_ n2_ n3_; clear hb hbox hg) | ((with_reducible refine gate_dst (N := 3) rfl ?_); refine box_event ?hg (N := 3) ?hd (cs := #[.int .i64 a1_0, .bool a1_1, .int .i64 a1_2, .int .i64 a1_3, .int .i64 a1_4, .slice A1_5 l1_5.length c1_5, .slice A1_6 l1_6.length c1_6]) (t := 24) ?hr ?_; (case hd => rfl); (case hg => rfl); (case hr => first | (go_simp; done) | (go_simp; rfl)); intro gb104 hg w5 hbox hb; have n0_ := Aside0.mk (blk_below (g := gb103) (o := .cells #[.int .i64 a0_0, .bool a0_1, .int .i64 a0_2, .int .i64 a0_3, .int .i64 a0_4, .slice A0_5 l0_5.length c0_5, .slice A0_6 l0_6.length c0_6] 24 (0, 0)) (by (with_reducible repeat (first | refine blk_drewN ?_ _ | refine blk_drew ?_ | refine blk_alloc ?_ _)); exact BK103.out) hb); have n1_ := Aside0.mk (below_step (by repeat (first | (with_reducible first | exact HB.out | apply below_alloc | apply pw_below_drewN | apply below_drew1 | refine below_set ?_ GE103.out) | exact HB.out)) hb); have n2_ := Aside0.mk (hbox); have n3_ := Aside0.mk ((by rw [hg]; exact (below_size (by repeat (first | (with_reducible first | exact HB.out | apply below_alloc | apply pw_below_drewN | apply below_drew1 | refine below_set ?_ GE103.out) | exact HB.out))) : w.heap.size ≤ gb104)); have n4_ := Aside0.mk ((by rw [hg]; exact (below_size (by repeat (first | (with_reducible first | exact HB.out | apply below_alloc | apply pw_below_drewN | apply below_drew1 | refine below_set ?_ GE103.out) | exact HB.out))) : w.heap.size ≤ gb104)); have n5_ := Aside0.mk ((by rw [hg]; exact Nat.ne_of_lt (blk_lt (g := gb103) (o := .cells #[.int .i64 a0_0, .bool a0_1, .int .i64 a0_2, .int .i64 a0_3, .int .i64 a0_4, .slice A0_5 l0_5.length c0_5, .slice A0_6 l0_6.length c0_6] 24 (0, 0)) (by (with_reducible repeat (first | refine blk_drewN ?_ _ | refine blk_drew ?_ | refine blk_alloc ?_ _)); exact BK103.out)) : gb103 ≠ gb104)); have n6_ := Aside0.mk ((by rw [hg]; exact Nat.ne_of_gt (blk_lt (g := gb103) (o := .cells #[.int .i64 a0_0, .bool a0_1, .int .i64 a0_2, .int .i64 a0_3, .int .i64 a0_4, .slice A0_5 l0_5.length c0_5, .slice A0_6 l0_6.length c0_6] 24 (0, 0)) (by (with_reducible repeat (first | refine blk_drewN ?_ _ | refine blk_drew ?_ | refine blk_alloc ?_ _)); exact BK103.out)) : gb104 ≠ gb103)); clear BK103; clear HB; have BK103 := n0_; have HB := n1_; have BK104 := n2_; have GW104 := n3_; have GE104 := n4_; have NB103_104 := n5_; have NB104_103 := n6_; clear n0_ n1_ n2_ n3_ n4_ n5_ n6_; clear hb hbox hg))
  (try simp only [Act.put, List.setIfInBounds_toArray, List.set_cons_zero, List.set_cons_succ])
  go_cut [35] (fun v35 wc => ∃ (kq : Nat) (x35_2 : Bool), v35 = .bool x35_2 ∧ Aside0 (cellmsg_Answers.j0 kq x35_2 a0_0 a0_1 a0_2 a0_3 a0_4 l0_5 l0_6 a1_0 a1_1 a1_2 a1_3 a1_4 l1_5 l1_6 = some r) ∧ Aside0 (kq ≤ k) ∧ Aside0 (wc.heap[gb103]? = some (.cells #[.int .i64 a0_0, .bool a0_1, .int .i64 a0_2, .int .i64 a0_3, .int .i64 a0_4, (.slice A0_5 l0_5.length c0_5), (.slice A0_6 l0_6.length c0_6)] 24 (0, 0))) ∧ Aside0 (wc.heap[gb104]? = some (.cells #[.int .i64 a1_0, .bool a1_1, .int .i64 a1_2, .int .i64 a1_3, .int .i64 a1_4, (.slice A1_5 l1_5.length c1_5), (.slice A1_6 l1_6.length c1_6)] 24 (0, 0))) ∧ Aside0 (Below w.heap.size w wc))
  case first =>
    have H := HC3.out
    clear HC3
    replace H := Option.bind_eq_some_iff.mp H
    obtain ⟨t105, A60, H⟩ := H
    replace H : (if t105 = 0 then ((cellmsg_Check.f a1_0 a1_1 a1_2 a1_3 a1_4 l1_5 l1_6).bind fun t106 => (if t106 = 0 then (if a0_1 = true then (cellmsg_Answers.j0 k true a0_0 a0_1 a0_2 a0_3 a0_4 l0_5 l0_6 a1_0 a1_1 a1_2 a1_3 a1_4 l1_5 l1_6) else (if a1_1 = true then (if a0_0 = a1_0 then (cellmsg_Answers.j0 k (a0_2 != a1_2) a0_0 a0_1 a0_2 a0_3 a0_4 l0_5 l0_6 a1_0 a1_1 a1_2 a1_3 a1_4 l1_5 l1_6) else (cellmsg_Answers.j0 k true a0_0 a0_1 a0_2 a0_3 a0_4 l0_5 l0_6 a1_0 a1_1 a1_2 a1_3 a1_4 l1_5 l1_6)) else (cellmsg_Answers.j0 k true a0_0 a0_1 a0_2 a0_3 a0_4 l0_5 l0_6 a1_0 a1_1 a1_2 a1_3 a1_4 l1_5 l1_6))) else (cellmsg_Answers.j0 k true a0_0 a0_1 a0_2 a0_3 a0_4 l0_5 l0_6 a1_0 a1_1 a1_2 a1_3 a1_4 l1_5 l1_6))) else (cellmsg_Answers.j0 k true a0_0 a0_1 a0_2 a0_3 a0_4 l0_5 l0_6 a1_0 a1_1 a1_2 a1_3 a1_4 l1_5 l1_6)) = some r := H
    have A6 := Aside0.mk A60
    clear A60
    by_cases c7 : t105 = 0
    · rw [if_pos c7] at H
      have c7b0 : (t105 == 0) = true := beq_iff_eq.mpr c7
      have c7b1 : (t105 != 0) = false := bne_eq_false_iff_eq.mpr c7
      clear c7
      (first | rw [c7b0] | (simp only [i64_w, i32_w]; rw [c7b0]) | skip)
      replace H := Option.bind_eq_some_iff.mp H
      obtain ⟨t106, A80, H⟩ := H
      replace H : (if t106 = 0 then (if a0_1 = true then (cellmsg_Answers.j0 k true a0_0 a0_1 a0_2 a0_3 a0_4 l0_5 l0_6 a1_0 a1_1 a1_2 a1_3 a1_4 l1_5 l1_6) else (if a1_1 = true then (if a0_0 = a1_0 then (cellmsg_Answers.j0 k (a0_2 != a1_2) a0_0 a0_1 a0_2 a0_3 a0_4 l0_5 l0_6 a1_0 a1_1 a1_2 a1_3 a1_4 l1_5 l1_6) else (cellmsg_Answers.j0 k true a0_0 a0_1 a0_2 a0_3 a0_4 l0_5 l0_6 a1_0 a1_1 a1_2 a1_3 a1_4 l1_5 l1_6)) else (cellmsg_Answers.j0 k true a0_0 a0_1 a0_2 a0_3 a0_4 l0_5 l0_6 a1_0 a1_1 a1_2 a1_3 a1_4 l1_5 l1_6))) else (cellmsg_Answers.j0 k true a0_0 a0_1 a0_2 a0_3 a0_4 l0_5 l0_6 a1_0 a1_1 a1_2 a1_3 a1_4 l1_5 l1_6)) = some r := H
      have A8 := Aside0.mk A80
      clear A80
      by_cases c9 : t106 = 0
      · rw [if_pos c9] at H
        have c9b0 : (t106 == 0) = true := beq_iff_eq.mpr c9
        have c9b1 : (t106 != 0) = false := bne_eq_false_iff_eq.mpr c9
        clear c9
        by_cases c10 : a0_1 = true
        · subst c10
          have H1 : (cellmsg_Answers.j0 k true a0_0 true a0_2 a0_3 a0_4 l0_5 l0_6 a1_0 a1_1 a1_2 a1_3 a1_4 l1_5 l1_6) = some r := by rw [if_pos rfl] at H; exact H
          clear H
          have H := H1
          clear H1
          have H' := Aside0.mk H
          clear H
          have hnb11 := NB103_104.out
          have hnc11 := NB104_103.out
          have hcz12_0 : w5.cell? ⟨gb103, 0, none⟩ = some (.int .i64 a0_0) := (blk_cell BK103.out 0).trans rfl
          have hcz12_1 : w5.cell? ⟨gb103, 1, none⟩ = some (.bool true) := (blk_cell BK103.out 1).trans rfl
          have hcz12_2 : w5.cell? ⟨gb103, 2, none⟩ = some (.int .i64 a0_2) := (blk_cell BK103.out 2).trans rfl
          have hcz12_3 : w5.cell? ⟨gb103, 3, none⟩ = some (.int .i64 a0_3) := (blk_cell BK103.out 3).trans rfl
          have hcz12_4 : w5.cell? ⟨gb103, 4, none⟩ = some (.int .i64 a0_4) := (blk_cell BK103.out 4).trans rfl
          have hcz12_5 : w5.cell? ⟨gb103, 5, none⟩ = some (.slice A0_5 l0_5.length c0_5) := (blk_cell BK103.out 5).trans rfl
          have hcz12_6 : w5.cell? ⟨gb103, 6, none⟩ = some (.slice A0_6 l0_6.length c0_6) := (blk_cell BK103.out 6).trans rfl
          have hfz12_0 := blk_frozen BK103.out 0
          have hfz12_1 := blk_frozen BK103.out 1
          have hfz12_2 := blk_frozen BK103.out 2
          have hfz12_3 := blk_frozen BK103.out 3
          have hfz12_4 := blk_frozen BK103.out 4
          have hfz12_5 := blk_frozen BK103.out 5
          have hfz12_6 := blk_frozen BK103.out 6
          go_wp2_with (first | ((with_reducible refine gate_callee (f := 13) rfl ?_); refine goesL_ (some 6) rfl rfl Try.func13 (by kernel_rfl) rfl #[.agg #[.int .i64 a0_0, .bool true, .int .i64 a0_2, .int .i64 a0_3, .int .i64 a0_4, .slice A0_5 l0_5.length c0_5, .slice A0_6 l0_6.length c0_6]] rfl (by (try simp only [List.map_toArray, List.map_cons, List.map_nil]); first | done | rfl | (simp only [List.length_drop, List.length_take]; rfl)) ?_; (with_reducible refine (cellmsg_Check.calls a0_0 true a0_2 a0_3 a0_4 _ _ l0_5 _ _ l0_6 t105 _ ?side1 ?side2 ?side3 ?side4 A6.out).mono ?_); (case side1 => repeat (first | exact (Kd.C_below HR0_5.out HB.out) | (with_reducible refine Kd.C_alloc ?_ _) | (with_reducible refine Kd.C_drewN ?_ _) | (with_reducible refine Kd.C_drew ?_))); (case side2 => exact HC0_5.out); (case side3 => repeat (first | exact (Kd.C_below HR0_6.out HB.out) | (with_reducible refine Kd.C_alloc ?_ _) | (with_reducible refine Kd.C_drewN ?_ _) | (with_reducible refine Kd.C_drew ?_))); (case side4 => exact HC0_6.out); rintro e w13 ⟨rfl, hb⟩; refine ⟨_, rfl, ?_⟩; have n0_ := Aside0.mk (blk_below (g := gb103) (o := .cells #[.int .i64 a0_0, .bool true, .int .i64 a0_2, .int .i64 a0_3, .int .i64 a0_4, .slice A0_5 l0_5.length c0_5, .slice A0_6 l0_6.length c0_6] 24 (0, 0)) (by (with_reducible repeat (first | refine blk_drewN ?_ _ | refine blk_drew ?_ | refine blk_alloc ?_ _)); exact BK103.out) hb); have n1_ := Aside0.mk (blk_below (g := gb104) (o := .cells #[.int .i64 a1_0, .bool a1_1, .int .i64 a1_2, .int .i64 a1_3, .int .i64 a1_4, .slice A1_5 l1_5.length c1_5, .slice A1_6 l1_6.length c1_6] 24 (0, 0)) (by (with_reducible repeat (first | refine blk_drewN ?_ _ | refine blk_drew ?_ | refine blk_alloc ?_ _)); exact BK104.out) hb); have n2_ := Aside0.mk (below_step (by repeat (first | (with_reducible first | exact HB.out | apply below_alloc | apply pw_below_drewN | apply below_drew1 | refine below_set ?_ GE103.out | refine below_set ?_ GE104.out) | exact HB.out)) hb); clear BK103; clear BK104; clear HB; have BK103 := n0_; have BK104 := n1_; have HB := n2_; clear n0_ n1_ n2_; (try clear hb); (try clear hb2); (try clear hk); (try clear hi); have hcz14_0 : w13.cell? ⟨gb104, 0, none⟩ = some (.int .i64 a1_0) := (blk_cell BK104.out 0).trans rfl; have hcz14_1 : w13.cell? ⟨gb104, 1, none⟩ = some (.bool a1_1) := (blk_cell BK104.out 1).trans rfl; have hcz14_2 : w13.cell? ⟨gb104, 2, none⟩ = some (.int .i64 a1_2) := (blk_cell BK104.out 2).trans rfl; have hcz14_3 : w13.cell? ⟨gb104, 3, none⟩ = some (.int .i64 a1_3) := (blk_cell BK104.out 3).trans rfl; have hcz14_4 : w13.cell? ⟨gb104, 4, none⟩ = some (.int .i64 a1_4) := (blk_cell BK104.out 4).trans rfl; have hcz14_5 : w13.cell? ⟨gb104, 5, none⟩ = some (.slice A1_5 l1_5.length c1_5) := (blk_cell BK104.out 5).trans rfl; have hcz14_6 : w13.cell? ⟨gb104, 6, none⟩ = some (.slice A1_6 l1_6.length c1_6) := (blk_cell BK104.out 6).trans rfl; have hfz14_0 := blk_frozen BK104.out 0; have hfz14_1 := blk_frozen BK104.out 1; have hfz14_2 := blk_frozen BK104.out 2; have hfz14_3 := blk_frozen BK104.out 3; have hfz14_4 := blk_frozen BK104.out 4; have hfz14_5 := blk_frozen BK104.out 5; have hfz14_6 := blk_frozen BK104.out 6) | (go_at_call 13; (with_reducible refine (cellmsg_Check.calls a1_0 a1_1 a1_2 a1_3 a1_4 _ _ l1_5 _ _ l1_6 t106 _ ?side1 ?side2 ?side3 ?side4 A8.out).mono ?_); (case side1 => repeat (first | exact (Kd.C_below HR1_5.out HB.out) | (with_reducible refine Kd.C_alloc ?_ _) | (with_reducible refine Kd.C_drewN ?_ _) | (with_reducible refine Kd.C_drew ?_))); (case side2 => exact HC1_5.out); (case side3 => repeat (first | exact (Kd.C_below HR1_6.out HB.out) | (with_reducible refine Kd.C_alloc ?_ _) | (with_reducible refine Kd.C_drewN ?_ _) | (with_reducible refine Kd.C_drew ?_))); (case side4 => exact HC1_6.out); rintro e w15 ⟨rfl, hb⟩; have n0_ := Aside0.mk (blk_below (g := gb103) (o := .cells #[.int .i64 a0_0, .bool true, .int .i64 a0_2, .int .i64 a0_3, .int .i64 a0_4, .slice A0_5 l0_5.length c0_5, .slice A0_6 l0_6.length c0_6] 24 (0, 0)) (by (with_reducible repeat (first | refine blk_drewN ?_ _ | refine blk_drew ?_ | refine blk_alloc ?_ _)); exact BK103.out) hb); have n1_ := Aside0.mk (blk_below (g := gb104) (o := .cells #[.int .i64 a1_0, .bool a1_1, .int .i64 a1_2, .int .i64 a1_3, .int .i64 a1_4, .slice A1_5 l1_5.length c1_5, .slice A1_6 l1_6.length c1_6] 24 (0, 0)) (by (with_reducible repeat (first | refine blk_drewN ?_ _ | refine blk_drew ?_ | refine blk_alloc ?_ _)); exact BK104.out) hb); have n2_ := Aside0.mk (below_step (by repeat (first | (with_reducible first | exact HB.out | apply below_alloc | apply pw_below_drewN | apply below_drew1 | refine below_set ?_ GE103.out | refine below_set ?_ GE104.out) | exact HB.out)) hb); clear BK103; clear BK104; clear HB; have BK103 := n0_; have BK104 := n1_; have HB := n2_; clear n0_ n1_ n2_; (try clear hb); (try clear hb2); (try clear hk); (try clear hi); have hcz16_0 : w15.cell? ⟨gb103, 0, none⟩ = some (.int .i64 a0_0) := (blk_cell BK103.out 0).trans rfl; have hcz16_1 : w15.cell? ⟨gb103, 1, none⟩ = some (.bool true) := (blk_cell BK103.out 1).trans rfl; have hcz16_2 : w15.cell? ⟨gb103, 2, none⟩ = some (.int .i64 a0_2) := (blk_cell BK103.out 2).trans rfl; have hcz16_3 : w15.cell? ⟨gb103, 3, none⟩ = some (.int .i64 a0_3) := (blk_cell BK103.out 3).trans rfl; have hcz16_4 : w15.cell? ⟨gb103, 4, none⟩ = some (.int .i64 a0_4) := (blk_cell BK103.out 4).trans rfl; have hcz16_5 : w15.cell? ⟨gb103, 5, none⟩ = some (.slice A0_5 l0_5.length c0_5) := (blk_cell BK103.out 5).trans rfl; have hcz16_6 : w15.cell? ⟨gb103, 6, none⟩ = some (.slice A0_6 l0_6.length c0_6) := (blk_cell BK103.out 6).trans rfl; have hfz16_0 := blk_frozen BK103.out 0; have hfz16_1 := blk_frozen BK103.out 1; have hfz16_2 := blk_frozen BK103.out 2; have hfz16_3 := blk_frozen BK103.out 3; have hfz16_4 := blk_frozen BK103.out 4; have hfz16_5 := blk_frozen BK103.out 5; have hfz16_6 := blk_frozen BK103.out 6))
          go_meet
          case rel => exact ⟨_, (true), (by first | rfl | (simp; done) | (simp [*]; done)), H', ⟨by first | omega | exact Nat.le_refl _⟩, ⟨by (with_reducible repeat (first | refine blk_drewN ?_ _ | refine blk_drew ?_ | refine blk_alloc ?_ _)); exact BK103.out⟩, ⟨by (with_reducible repeat (first | refine blk_drewN ?_ _ | refine blk_drew ?_ | refine blk_alloc ?_ _)); exact BK104.out⟩, ⟨by repeat (first | (with_reducible first | exact HB.out | apply below_alloc | apply pw_below_drewN | apply below_drew1 | refine below_set ?_ GE103.out | refine below_set ?_ GE104.out) | exact HB.out)⟩⟩
        · replace c10 := Bool.eq_false_iff.mpr c10
          subst c10
          have H1 : (if a1_1 = true then (if a0_0 = a1_0 then (cellmsg_Answers.j0 k (a0_2 != a1_2) a0_0 false a0_2 a0_3 a0_4 l0_5 l0_6 a1_0 a1_1 a1_2 a1_3 a1_4 l1_5 l1_6) else (cellmsg_Answers.j0 k true a0_0 false a0_2 a0_3 a0_4 l0_5 l0_6 a1_0 a1_1 a1_2 a1_3 a1_4 l1_5 l1_6)) else (cellmsg_Answers.j0 k true a0_0 false a0_2 a0_3 a0_4 l0_5 l0_6 a1_0 a1_1 a1_2 a1_3 a1_4 l1_5 l1_6)) = some r := by rw [if_neg (show ¬ (false = true) by decide)] at H; exact H
          clear H
          have H := H1
          clear H1
          by_cases c17 : a1_1 = true
          · subst c17
            have H1 : (if a0_0 = a1_0 then (cellmsg_Answers.j0 k (a0_2 != a1_2) a0_0 false a0_2 a0_3 a0_4 l0_5 l0_6 a1_0 true a1_2 a1_3 a1_4 l1_5 l1_6) else (cellmsg_Answers.j0 k true a0_0 false a0_2 a0_3 a0_4 l0_5 l0_6 a1_0 true a1_2 a1_3 a1_4 l1_5 l1_6)) = some r := by rw [if_pos rfl] at H; exact H
            clear H
            have H := H1
            clear H1
            by_cases c18 : a0_0 = a1_0
            · rw [if_pos c18] at H
              have c18b0 : (a0_0 == a1_0) = true := beq_iff_eq.mpr c18
              have c18b1 : (a0_0 != a1_0) = false := bne_eq_false_iff_eq.mpr c18
              clear c18
              have H' := Aside0.mk H
              clear H
              have hnb19 := NB103_104.out
              have hnc19 := NB104_103.out
              have hcz20_0 : w5.cell? ⟨gb103, 0, none⟩ = some (.int .i64 a0_0) := (blk_cell BK103.out 0).trans rfl
              have hcz20_1 : w5.cell? ⟨gb103, 1, none⟩ = some (.bool false) := (blk_cell BK103.out 1).trans rfl
              have hcz20_2 : w5.cell? ⟨gb103, 2, none⟩ = some (.int .i64 a0_2) := (blk_cell BK103.out 2).trans rfl
              have hcz20_3 : w5.cell? ⟨gb103, 3, none⟩ = some (.int .i64 a0_3) := (blk_cell BK103.out 3).trans rfl
              have hcz20_4 : w5.cell? ⟨gb103, 4, none⟩ = some (.int .i64 a0_4) := (blk_cell BK103.out 4).trans rfl
              have hcz20_5 : w5.cell? ⟨gb103, 5, none⟩ = some (.slice A0_5 l0_5.length c0_5) := (blk_cell BK103.out 5).trans rfl
              have hcz20_6 : w5.cell? ⟨gb103, 6, none⟩ = some (.slice A0_6 l0_6.length c0_6) := (blk_cell BK103.out 6).trans rfl
              have hfz20_0 := blk_frozen BK103.out 0
              have hfz20_1 := blk_frozen BK103.out 1
              have hfz20_2 := blk_frozen BK103.out 2
              have hfz20_3 := blk_frozen BK103.out 3
              have hfz20_4 := blk_frozen BK103.out 4
              have hfz20_5 := blk_frozen BK103.out 5
              have hfz20_6 := blk_frozen BK103.out 6
              go_wp2_with (first | ((with_reducible refine gate_callee (f := 13) rfl ?_); refine goesL_ (some 6) rfl rfl Try.func13 (by kernel_rfl) rfl #[.agg #[.int .i64 a0_0, .bool false, .int .i64 a0_2, .int .i64 a0_3, .int .i64 a0_4, .slice A0_5 l0_5.length c0_5, .slice A0_6 l0_6.length c0_6]] rfl (by (try simp only [List.map_toArray, List.map_cons, List.map_nil]); first | done | rfl | (simp only [List.length_drop, List.length_take]; rfl)) ?_; (with_reducible refine (cellmsg_Check.calls a0_0 false a0_2 a0_3 a0_4 _ _ l0_5 _ _ l0_6 t105 _ ?side1 ?side2 ?side3 ?side4 A6.out).mono ?_); (case side1 => repeat (first | exact (Kd.C_below HR0_5.out HB.out) | (with_reducible refine Kd.C_alloc ?_ _) | (with_reducible refine Kd.C_drewN ?_ _) | (with_reducible refine Kd.C_drew ?_))); (case side2 => exact HC0_5.out); (case side3 => repeat (first | exact (Kd.C_below HR0_6.out HB.out) | (with_reducible refine Kd.C_alloc ?_ _) | (with_reducible refine Kd.C_drewN ?_ _) | (with_reducible refine Kd.C_drew ?_))); (case side4 => exact HC0_6.out); rintro e w21 ⟨rfl, hb⟩; refine ⟨_, rfl, ?_⟩; have n0_ := Aside0.mk (blk_below (g := gb103) (o := .cells #[.int .i64 a0_0, .bool false, .int .i64 a0_2, .int .i64 a0_3, .int .i64 a0_4, .slice A0_5 l0_5.length c0_5, .slice A0_6 l0_6.length c0_6] 24 (0, 0)) (by (with_reducible repeat (first | refine blk_drewN ?_ _ | refine blk_drew ?_ | refine blk_alloc ?_ _)); exact BK103.out) hb); have n1_ := Aside0.mk (blk_below (g := gb104) (o := .cells #[.int .i64 a1_0, .bool true, .int .i64 a1_2, .int .i64 a1_3, .int .i64 a1_4, .slice A1_5 l1_5.length c1_5, .slice A1_6 l1_6.length c1_6] 24 (0, 0)) (by (with_reducible repeat (first | refine blk_drewN ?_ _ | refine blk_drew ?_ | refine blk_alloc ?_ _)); exact BK104.out) hb); have n2_ := Aside0.mk (below_step (by repeat (first | (with_reducible first | exact HB.out | apply below_alloc | apply pw_below_drewN | apply below_drew1 | refine below_set ?_ GE103.out | refine below_set ?_ GE104.out) | exact HB.out)) hb); clear BK103; clear BK104; clear HB; have BK103 := n0_; have BK104 := n1_; have HB := n2_; clear n0_ n1_ n2_; (try clear hb); (try clear hb2); (try clear hk); (try clear hi); have hcz22_0 : w21.cell? ⟨gb104, 0, none⟩ = some (.int .i64 a1_0) := (blk_cell BK104.out 0).trans rfl; have hcz22_1 : w21.cell? ⟨gb104, 1, none⟩ = some (.bool true) := (blk_cell BK104.out 1).trans rfl; have hcz22_2 : w21.cell? ⟨gb104, 2, none⟩ = some (.int .i64 a1_2) := (blk_cell BK104.out 2).trans rfl; have hcz22_3 : w21.cell? ⟨gb104, 3, none⟩ = some (.int .i64 a1_3) := (blk_cell BK104.out 3).trans rfl; have hcz22_4 : w21.cell? ⟨gb104, 4, none⟩ = some (.int .i64 a1_4) := (blk_cell BK104.out 4).trans rfl; have hcz22_5 : w21.cell? ⟨gb104, 5, none⟩ = some (.slice A1_5 l1_5.length c1_5) := (blk_cell BK104.out 5).trans rfl; have hcz22_6 : w21.cell? ⟨gb104, 6, none⟩ = some (.slice A1_6 l1_6.length c1_6) := (blk_cell BK104.out 6).trans rfl; have hfz22_0 := blk_frozen BK104.out 0; have hfz22_1 := blk_frozen BK104.out 1; have hfz22_2 := blk_frozen BK104.out 2; have hfz22_3 := blk_frozen BK104.out 3; have hfz22_4 := blk_frozen BK104.out 4; have hfz22_5 := blk_frozen BK104.out 5; have hfz22_6 := blk_frozen BK104.out 6) | (go_at_call 13; (with_reducible refine (cellmsg_Check.calls a1_0 true a1_2 a1_3 a1_4 _ _ l1_5 _ _ l1_6 t106 _ ?side1 ?side2 ?side3 ?side4 A8.out).mono ?_); (case side1 => repeat (first | exact (Kd.C_below HR1_5.out HB.out) | (with_reducible refine Kd.C_alloc ?_ _) | (with_reducible refine Kd.C_drewN ?_ _) | (with_reducible refine Kd.C_drew ?_))); (case side2 => exact HC1_5.out); (case side3 => repeat (first | exact (Kd.C_below HR1_6.out HB.out) | (with_reducible refine Kd.C_alloc ?_ _) | (with_reducible refine Kd.C_drewN ?_ _) | (with_reducible refine Kd.C_drew ?_))); (case side4 => exact HC1_6.out); rintro e w23 ⟨rfl, hb⟩; have n0_ := Aside0.mk (blk_below (g := gb103) (o := .cells #[.int .i64 a0_0, .bool false, .int .i64 a0_2, .int .i64 a0_3, .int .i64 a0_4, .slice A0_5 l0_5.length c0_5, .slice A0_6 l0_6.length c0_6] 24 (0, 0)) (by (with_reducible repeat (first | refine blk_drewN ?_ _ | refine blk_drew ?_ | refine blk_alloc ?_ _)); exact BK103.out) hb); have n1_ := Aside0.mk (blk_below (g := gb104) (o := .cells #[.int .i64 a1_0, .bool true, .int .i64 a1_2, .int .i64 a1_3, .int .i64 a1_4, .slice A1_5 l1_5.length c1_5, .slice A1_6 l1_6.length c1_6] 24 (0, 0)) (by (with_reducible repeat (first | refine blk_drewN ?_ _ | refine blk_drew ?_ | refine blk_alloc ?_ _)); exact BK104.out) hb); have n2_ := Aside0.mk (below_step (by repeat (first | (with_reducible first | exact HB.out | apply below_alloc | apply pw_below_drewN | apply below_drew1 | refine below_set ?_ GE103.out | refine below_set ?_ GE104.out) | exact HB.out)) hb); clear BK103; clear BK104; clear HB; have BK103 := n0_; have BK104 := n1_; have HB := n2_; clear n0_ n1_ n2_; (try clear hb); (try clear hb2); (try clear hk); (try clear hi); have hcz24_0 : w23.cell? ⟨gb103, 0, none⟩ = some (.int .i64 a0_0) := (blk_cell BK103.out 0).trans rfl; have hcz24_1 : w23.cell? ⟨gb103, 1, none⟩ = some (.bool false) := (blk_cell BK103.out 1).trans rfl; have hcz24_2 : w23.cell? ⟨gb103, 2, none⟩ = some (.int .i64 a0_2) := (blk_cell BK103.out 2).trans rfl; have hcz24_3 : w23.cell? ⟨gb103, 3, none⟩ = some (.int .i64 a0_3) := (blk_cell BK103.out 3).trans rfl; have hcz24_4 : w23.cell? ⟨gb103, 4, none⟩ = some (.int .i64 a0_4) := (blk_cell BK103.out 4).trans rfl; have hcz24_5 : w23.cell? ⟨gb103, 5, none⟩ = some (.slice A0_5 l0_5.length c0_5) := (blk_cell BK103.out 5).trans rfl; have hcz24_6 : w23.cell? ⟨gb103, 6, none⟩ = some (.slice A0_6 l0_6.length c0_6) := (blk_cell BK103.out 6).trans rfl; have hfz24_0 := blk_frozen BK103.out 0; have hfz24_1 := blk_frozen BK103.out 1; have hfz24_2 := blk_frozen BK103.out 2; have hfz24_3 := blk_frozen BK103.out 3; have hfz24_4 := blk_frozen BK103.out 4; have hfz24_5 := blk_frozen BK103.out 5; have hfz24_6 := blk_frozen BK103.out 6; have hcz25_0 : w23.cell? ⟨gb104, 0, none⟩ = some (.int .i64 a1_0) := (blk_cell BK104.out 0).trans rfl; have hcz25_1 : w23.cell? ⟨gb104, 1, none⟩ = some (.bool true) := (blk_cell BK104.out 1).trans rfl; have hcz25_2 : w23.cell? ⟨gb104, 2, none⟩ = some (.int .i64 a1_2) := (blk_cell BK104.out 2).trans rfl; have hcz25_3 : w23.cell? ⟨gb104, 3, none⟩ = some (.int .i64 a1_3) := (blk_cell BK104.out 3).trans rfl; have hcz25_4 : w23.cell? ⟨gb104, 4, none⟩ = some (.int .i64 a1_4) := (blk_cell BK104.out 4).trans rfl; have hcz25_5 : w23.cell? ⟨gb104, 5, none⟩ = some (.slice A1_5 l1_5.length c1_5) := (blk_cell BK104.out 5).trans rfl; have hcz25_6 : w23.cell? ⟨gb104, 6, none⟩ = some (.slice A1_6 l1_6.length c1_6) := (blk_cell BK104.out 6).trans rfl; have hfz25_0 := blk_frozen BK104.out 0; have hfz25_1 := blk_frozen BK104.out 1; have hfz25_2 := blk_frozen BK104.out 2; have hfz25_3 := blk_frozen BK104.out 3; have hfz25_4 := blk_frozen BK104.out 4; have hfz25_5 := blk_frozen BK104.out 5; have hfz25_6 := blk_frozen BK104.out 6))
              go_meet
              case rel => exact ⟨_, ((a0_2 != a1_2)), (by first | rfl | (simp; done) | (simp [*]; done)), H', ⟨by first | omega | exact Nat.le_refl _⟩, ⟨by (with_reducible repeat (first | refine blk_drewN ?_ _ | refine blk_drew ?_ | refine blk_alloc ?_ _)); exact BK103.out⟩, ⟨by (with_reducible repeat (first | refine blk_drewN ?_ _ | refine blk_drew ?_ | refine blk_alloc ?_ _)); exact BK104.out⟩, ⟨by repeat (first | (with_reducible first | exact HB.out | apply below_alloc | apply pw_below_drewN | apply below_drew1 | refine below_set ?_ GE103.out | refine below_set ?_ GE104.out) | exact HB.out)⟩⟩
            · rw [if_neg c18] at H
              have c18b0 : (a0_0 == a1_0) = false := beq_eq_false_iff_ne.mpr c18
              have c18b1 : (a0_0 != a1_0) = true := bne_iff_ne.mpr c18
              have H' := Aside0.mk H
              clear H
              have hnb26 := NB103_104.out
              have hnc26 := NB104_103.out
              have hcz27_0 : w5.cell? ⟨gb103, 0, none⟩ = some (.int .i64 a0_0) := (blk_cell BK103.out 0).trans rfl
              have hcz27_1 : w5.cell? ⟨gb103, 1, none⟩ = some (.bool false) := (blk_cell BK103.out 1).trans rfl
              have hcz27_2 : w5.cell? ⟨gb103, 2, none⟩ = some (.int .i64 a0_2) := (blk_cell BK103.out 2).trans rfl
              have hcz27_3 : w5.cell? ⟨gb103, 3, none⟩ = some (.int .i64 a0_3) := (blk_cell BK103.out 3).trans rfl
              have hcz27_4 : w5.cell? ⟨gb103, 4, none⟩ = some (.int .i64 a0_4) := (blk_cell BK103.out 4).trans rfl
              have hcz27_5 : w5.cell? ⟨gb103, 5, none⟩ = some (.slice A0_5 l0_5.length c0_5) := (blk_cell BK103.out 5).trans rfl
              have hcz27_6 : w5.cell? ⟨gb103, 6, none⟩ = some (.slice A0_6 l0_6.length c0_6) := (blk_cell BK103.out 6).trans rfl
              have hfz27_0 := blk_frozen BK103.out 0
              have hfz27_1 := blk_frozen BK103.out 1
              have hfz27_2 := blk_frozen BK103.out 2
              have hfz27_3 := blk_frozen BK103.out 3
              have hfz27_4 := blk_frozen BK103.out 4
              have hfz27_5 := blk_frozen BK103.out 5
              have hfz27_6 := blk_frozen BK103.out 6
              go_wp2_with (first | ((with_reducible refine gate_callee (f := 13) rfl ?_); refine goesL_ (some 6) rfl rfl Try.func13 (by kernel_rfl) rfl #[.agg #[.int .i64 a0_0, .bool false, .int .i64 a0_2, .int .i64 a0_3, .int .i64 a0_4, .slice A0_5 l0_5.length c0_5, .slice A0_6 l0_6.length c0_6]] rfl (by (try simp only [List.map_toArray, List.map_cons, List.map_nil]); first | done | rfl | (simp only [List.length_drop, List.length_take]; rfl)) ?_; (with_reducible refine (cellmsg_Check.calls a0_0 false a0_2 a0_3 a0_4 _ _ l0_5 _ _ l0_6 t105 _ ?side1 ?side2 ?side3 ?side4 A6.out).mono ?_); (case side1 => repeat (first | exact (Kd.C_below HR0_5.out HB.out) | (with_reducible refine Kd.C_alloc ?_ _) | (with_reducible refine Kd.C_drewN ?_ _) | (with_reducible refine Kd.C_drew ?_))); (case side2 => exact HC0_5.out); (case side3 => repeat (first | exact (Kd.C_below HR0_6.out HB.out) | (with_reducible refine Kd.C_alloc ?_ _) | (with_reducible refine Kd.C_drewN ?_ _) | (with_reducible refine Kd.C_drew ?_))); (case side4 => exact HC0_6.out); rintro e w28 ⟨rfl, hb⟩; refine ⟨_, rfl, ?_⟩; have n0_ := Aside0.mk (blk_below (g := gb103) (o := .cells #[.int .i64 a0_0, .bool false, .int .i64 a0_2, .int .i64 a0_3, .int .i64 a0_4, .slice A0_5 l0_5.length c0_5, .slice A0_6 l0_6.length c0_6] 24 (0, 0)) (by (with_reducible repeat (first | refine blk_drewN ?_ _ | refine blk_drew ?_ | refine blk_alloc ?_ _)); exact BK103.out) hb); have n1_ := Aside0.mk (blk_below (g := gb104) (o := .cells #[.int .i64 a1_0, .bool true, .int .i64 a1_2, .int .i64 a1_3, .int .i64 a1_4, .slice A1_5 l1_5.length c1_5, .slice A1_6 l1_6.length c1_6] 24 (0, 0)) (by (with_reducible repeat (first | refine blk_drewN ?_ _ | refine blk_drew ?_ | refine blk_alloc ?_ _)); exact BK104.out) hb); have n2_ := Aside0.mk (below_step (by repeat (first | (with_reducible first | exact HB.out | apply below_alloc | apply pw_below_drewN | apply below_drew1 | refine below_set ?_ GE103.out | refine below_set ?_ GE104.out) | exact HB.out)) hb); clear BK103; clear BK104; clear HB; have BK103 := n0_; have BK104 := n1_; have HB := n2_; clear n0_ n1_ n2_; (try clear hb); (try clear hb2); (try clear hk); (try clear hi); have hcz29_0 : w28.cell? ⟨gb104, 0, none⟩ = some (.int .i64 a1_0) := (blk_cell BK104.out 0).trans rfl; have hcz29_1 : w28.cell? ⟨gb104, 1, none⟩ = some (.bool true) := (blk_cell BK104.out 1).trans rfl; have hcz29_2 : w28.cell? ⟨gb104, 2, none⟩ = some (.int .i64 a1_2) := (blk_cell BK104.out 2).trans rfl; have hcz29_3 : w28.cell? ⟨gb104, 3, none⟩ = some (.int .i64 a1_3) := (blk_cell BK104.out 3).trans rfl; have hcz29_4 : w28.cell? ⟨gb104, 4, none⟩ = some (.int .i64 a1_4) := (blk_cell BK104.out 4).trans rfl; have hcz29_5 : w28.cell? ⟨gb104, 5, none⟩ = some (.slice A1_5 l1_5.length c1_5) := (blk_cell BK104.out 5).trans rfl; have hcz29_6 : w28.cell? ⟨gb104, 6, none⟩ = some (.slice A1_6 l1_6.length c1_6) := (blk_cell BK104.out 6).trans rfl; have hfz29_0 := blk_frozen BK104.out 0; have hfz29_1 := blk_frozen BK104.out 1; have hfz29_2 := blk_frozen BK104.out 2; have hfz29_3 := blk_frozen BK104.out 3; have hfz29_4 := blk_frozen BK104.out 4; have hfz29_5 := blk_frozen BK104.out 5; have hfz29_6 := blk_frozen BK104.out 6) | (go_at_call 13; (with_reducible refine (cellmsg_Check.calls a1_0 true a1_2 a1_3 a1_4 _ _ l1_5 _ _ l1_6 t106 _ ?side1 ?side2 ?side3 ?side4 A8.out).mono ?_); (case side1 => repeat (first | exact (Kd.C_below HR1_5.out HB.out) | (with_reducible refine Kd.C_alloc ?_ _) | (with_reducible refine Kd.C_drewN ?_ _) | (with_reducible refine Kd.C_drew ?_))); (case side2 => exact HC1_5.out); (case side3 => repeat (first | exact (Kd.C_below HR1_6.out HB.out) | (with_reducible refine Kd.C_alloc ?_ _) | (with_reducible refine Kd.C_drewN ?_ _) | (with_reducible refine Kd.C_drew ?_))); (case side4 => exact HC1_6.out); rintro e w30 ⟨rfl, hb⟩; have n0_ := Aside0.mk (blk_below (g := gb103) (o := .cells #[.int .i64 a0_0, .bool false, .int .i64 a0_2, .int .i64 a0_3, .int .i64 a0_4, .slice A0_5 l0_5.length c0_5, .slice A0_6 l0_6.length c0_6] 24 (0, 0)) (by (with_reducible repeat (first | refine blk_drewN ?_ _ | refine blk_drew ?_ | refine blk_alloc ?_ _)); exact BK103.out) hb); have n1_ := Aside0.mk (blk_below (g := gb104) (o := .cells #[.int .i64 a1_0, .bool true, .int .i64 a1_2, .int .i64 a1_3, .int .i64 a1_4, .slice A1_5 l1_5.length c1_5, .slice A1_6 l1_6.length c1_6] 24 (0, 0)) (by (with_reducible repeat (first | refine blk_drewN ?_ _ | refine blk_drew ?_ | refine blk_alloc ?_ _)); exact BK104.out) hb); have n2_ := Aside0.mk (below_step (by repeat (first | (with_reducible first | exact HB.out | apply below_alloc | apply pw_below_drewN | apply below_drew1 | refine below_set ?_ GE103.out | refine below_set ?_ GE104.out) | exact HB.out)) hb); clear BK103; clear BK104; clear HB; have BK103 := n0_; have BK104 := n1_; have HB := n2_; clear n0_ n1_ n2_; (try clear hb); (try clear hb2); (try clear hk); (try clear hi); have hcz31_0 : w30.cell? ⟨gb103, 0, none⟩ = some (.int .i64 a0_0) := (blk_cell BK103.out 0).trans rfl; have hcz31_1 : w30.cell? ⟨gb103, 1, none⟩ = some (.bool false) := (blk_cell BK103.out 1).trans rfl; have hcz31_2 : w30.cell? ⟨gb103, 2, none⟩ = some (.int .i64 a0_2) := (blk_cell BK103.out 2).trans rfl; have hcz31_3 : w30.cell? ⟨gb103, 3, none⟩ = some (.int .i64 a0_3) := (blk_cell BK103.out 3).trans rfl; have hcz31_4 : w30.cell? ⟨gb103, 4, none⟩ = some (.int .i64 a0_4) := (blk_cell BK103.out 4).trans rfl; have hcz31_5 : w30.cell? ⟨gb103, 5, none⟩ = some (.slice A0_5 l0_5.length c0_5) := (blk_cell BK103.out 5).trans rfl; have hcz31_6 : w30.cell? ⟨gb103, 6, none⟩ = some (.slice A0_6 l0_6.length c0_6) := (blk_cell BK103.out 6).trans rfl; have hfz31_0 := blk_frozen BK103.out 0; have hfz31_1 := blk_frozen BK103.out 1; have hfz31_2 := blk_frozen BK103.out 2; have hfz31_3 := blk_frozen BK103.out 3; have hfz31_4 := blk_frozen BK103.out 4; have hfz31_5 := blk_frozen BK103.out 5; have hfz31_6 := blk_frozen BK103.out 6; have hcz32_0 : w30.cell? ⟨gb104, 0, none⟩ = some (.int .i64 a1_0) := (blk_cell BK104.out 0).trans rfl; have hcz32_1 : w30.cell? ⟨gb104, 1, none⟩ = some (.bool true) := (blk_cell BK104.out 1).trans rfl; have hcz32_2 : w30.cell? ⟨gb104, 2, none⟩ = some (.int .i64 a1_2) := (blk_cell BK104.out 2).trans rfl; have hcz32_3 : w30.cell? ⟨gb104, 3, none⟩ = some (.int .i64 a1_3) := (blk_cell BK104.out 3).trans rfl; have hcz32_4 : w30.cell? ⟨gb104, 4, none⟩ = some (.int .i64 a1_4) := (blk_cell BK104.out 4).trans rfl; have hcz32_5 : w30.cell? ⟨gb104, 5, none⟩ = some (.slice A1_5 l1_5.length c1_5) := (blk_cell BK104.out 5).trans rfl; have hcz32_6 : w30.cell? ⟨gb104, 6, none⟩ = some (.slice A1_6 l1_6.length c1_6) := (blk_cell BK104.out 6).trans rfl; have hfz32_0 := blk_frozen BK104.out 0; have hfz32_1 := blk_frozen BK104.out 1; have hfz32_2 := blk_frozen BK104.out 2; have hfz32_3 := blk_frozen BK104.out 3; have hfz32_4 := blk_frozen BK104.out 4; have hfz32_5 := blk_frozen BK104.out 5; have hfz32_6 := blk_frozen BK104.out 6))
              go_meet
              case rel => exact ⟨_, (true), (by first | rfl | (simp; done) | (simp [*]; done)), H', ⟨by first | omega | exact Nat.le_refl _⟩, ⟨by (with_reducible repeat (first | refine blk_drewN ?_ _ | refine blk_drew ?_ | refine blk_alloc ?_ _)); exact BK103.out⟩, ⟨by (with_reducible repeat (first | refine blk_drewN ?_ _ | refine blk_drew ?_ | refine blk_alloc ?_ _)); exact BK104.out⟩, ⟨by repeat (first | (with_reducible first | exact HB.out | apply below_alloc | apply pw_below_drewN | apply below_drew1 | refine below_set ?_ GE103.out | refine below_set ?_ GE104.out) | exact HB.out)⟩⟩
          · replace c17 := Bool.eq_false_iff.mpr c17
            subst c17
            have H1 : (cellmsg_Answers.j0 k true a0_0 false a0_2 a0_3 a0_4 l0_5 l0_6 a1_0 false a1_2 a1_3 a1_4 l1_5 l1_6) = some r := by rw [if_neg (show ¬ (false = true) by decide)] at H; exact H
            clear H
            have H := H1
            clear H1
            have H' := Aside0.mk H
            clear H
            have hnb33 := NB103_104.out
            have hnc33 := NB104_103.out
            have hcz34_0 : w5.cell? ⟨gb103, 0, none⟩ = some (.int .i64 a0_0) := (blk_cell BK103.out 0).trans rfl
            have hcz34_1 : w5.cell? ⟨gb103, 1, none⟩ = some (.bool false) := (blk_cell BK103.out 1).trans rfl
            have hcz34_2 : w5.cell? ⟨gb103, 2, none⟩ = some (.int .i64 a0_2) := (blk_cell BK103.out 2).trans rfl
            have hcz34_3 : w5.cell? ⟨gb103, 3, none⟩ = some (.int .i64 a0_3) := (blk_cell BK103.out 3).trans rfl
            have hcz34_4 : w5.cell? ⟨gb103, 4, none⟩ = some (.int .i64 a0_4) := (blk_cell BK103.out 4).trans rfl
            have hcz34_5 : w5.cell? ⟨gb103, 5, none⟩ = some (.slice A0_5 l0_5.length c0_5) := (blk_cell BK103.out 5).trans rfl
            have hcz34_6 : w5.cell? ⟨gb103, 6, none⟩ = some (.slice A0_6 l0_6.length c0_6) := (blk_cell BK103.out 6).trans rfl
            have hfz34_0 := blk_frozen BK103.out 0
            have hfz34_1 := blk_frozen BK103.out 1
            have hfz34_2 := blk_frozen BK103.out 2
            have hfz34_3 := blk_frozen BK103.out 3
            have hfz34_4 := blk_frozen BK103.out 4
            have hfz34_5 := blk_frozen BK103.out 5
            have hfz34_6 := blk_frozen BK103.out 6
            go_wp2_with (first | ((with_reducible refine gate_callee (f := 13) rfl ?_); refine goesL_ (some 6) rfl rfl Try.func13 (by kernel_rfl) rfl #[.agg #[.int .i64 a0_0, .bool false, .int .i64 a0_2, .int .i64 a0_3, .int .i64 a0_4, .slice A0_5 l0_5.length c0_5, .slice A0_6 l0_6.length c0_6]] rfl (by (try simp only [List.map_toArray, List.map_cons, List.map_nil]); first | done | rfl | (simp only [List.length_drop, List.length_take]; rfl)) ?_; (with_reducible refine (cellmsg_Check.calls a0_0 false a0_2 a0_3 a0_4 _ _ l0_5 _ _ l0_6 t105 _ ?side1 ?side2 ?side3 ?side4 A6.out).mono ?_); (case side1 => repeat (first | exact (Kd.C_below HR0_5.out HB.out) | (with_reducible refine Kd.C_alloc ?_ _) | (with_reducible refine Kd.C_drewN ?_ _) | (with_reducible refine Kd.C_drew ?_))); (case side2 => exact HC0_5.out); (case side3 => repeat (first | exact (Kd.C_below HR0_6.out HB.out) | (with_reducible refine Kd.C_alloc ?_ _) | (with_reducible refine Kd.C_drewN ?_ _) | (with_reducible refine Kd.C_drew ?_))); (case side4 => exact HC0_6.out); rintro e w35 ⟨rfl, hb⟩; refine ⟨_, rfl, ?_⟩; have n0_ := Aside0.mk (blk_below (g := gb103) (o := .cells #[.int .i64 a0_0, .bool false, .int .i64 a0_2, .int .i64 a0_3, .int .i64 a0_4, .slice A0_5 l0_5.length c0_5, .slice A0_6 l0_6.length c0_6] 24 (0, 0)) (by (with_reducible repeat (first | refine blk_drewN ?_ _ | refine blk_drew ?_ | refine blk_alloc ?_ _)); exact BK103.out) hb); have n1_ := Aside0.mk (blk_below (g := gb104) (o := .cells #[.int .i64 a1_0, .bool false, .int .i64 a1_2, .int .i64 a1_3, .int .i64 a1_4, .slice A1_5 l1_5.length c1_5, .slice A1_6 l1_6.length c1_6] 24 (0, 0)) (by (with_reducible repeat (first | refine blk_drewN ?_ _ | refine blk_drew ?_ | refine blk_alloc ?_ _)); exact BK104.out) hb); have n2_ := Aside0.mk (below_step (by repeat (first | (with_reducible first | exact HB.out | apply below_alloc | apply pw_below_drewN | apply below_drew1 | refine below_set ?_ GE103.out | refine below_set ?_ GE104.out) | exact HB.out)) hb); clear BK103; clear BK104; clear HB; have BK103 := n0_; have BK104 := n1_; have HB := n2_; clear n0_ n1_ n2_; (try clear hb); (try clear hb2); (try clear hk); (try clear hi); have hcz36_0 : w35.cell? ⟨gb104, 0, none⟩ = some (.int .i64 a1_0) := (blk_cell BK104.out 0).trans rfl; have hcz36_1 : w35.cell? ⟨gb104, 1, none⟩ = some (.bool false) := (blk_cell BK104.out 1).trans rfl; have hcz36_2 : w35.cell? ⟨gb104, 2, none⟩ = some (.int .i64 a1_2) := (blk_cell BK104.out 2).trans rfl; have hcz36_3 : w35.cell? ⟨gb104, 3, none⟩ = some (.int .i64 a1_3) := (blk_cell BK104.out 3).trans rfl; have hcz36_4 : w35.cell? ⟨gb104, 4, none⟩ = some (.int .i64 a1_4) := (blk_cell BK104.out 4).trans rfl; have hcz36_5 : w35.cell? ⟨gb104, 5, none⟩ = some (.slice A1_5 l1_5.length c1_5) := (blk_cell BK104.out 5).trans rfl; have hcz36_6 : w35.cell? ⟨gb104, 6, none⟩ = some (.slice A1_6 l1_6.length c1_6) := (blk_cell BK104.out 6).trans rfl; have hfz36_0 := blk_frozen BK104.out 0; have hfz36_1 := blk_frozen BK104.out 1; have hfz36_2 := blk_frozen BK104.out 2; have hfz36_3 := blk_frozen BK104.out 3; have hfz36_4 := blk_frozen BK104.out 4; have hfz36_5 := blk_frozen BK104.out 5; have hfz36_6 := blk_frozen BK104.out 6) | (go_at_call 13; (with_reducible refine (cellmsg_Check.calls a1_0 false a1_2 a1_3 a1_4 _ _ l1_5 _ _ l1_6 t106 _ ?side1 ?side2 ?side3 ?side4 A8.out).mono ?_); (case side1 => repeat (first | exact (Kd.C_below HR1_5.out HB.out) | (with_reducible refine Kd.C_alloc ?_ _) | (with_reducible refine Kd.C_drewN ?_ _) | (with_reducible refine Kd.C_drew ?_))); (case side2 => exact HC1_5.out); (case side3 => repeat (first | exact (Kd.C_below HR1_6.out HB.out) | (with_reducible refine Kd.C_alloc ?_ _) | (with_reducible refine Kd.C_drewN ?_ _) | (with_reducible refine Kd.C_drew ?_))); (case side4 => exact HC1_6.out); rintro e w37 ⟨rfl, hb⟩; have n0_ := Aside0.mk (blk_below (g := gb103) (o := .cells #[.int .i64 a0_0, .bool false, .int .i64 a0_2, .int .i64 a0_3, .int .i64 a0_4, .slice A0_5 l0_5.length c0_5, .slice A0_6 l0_6.length c0_6] 24 (0, 0)) (by (with_reducible repeat (first | refine blk_drewN ?_ _ | refine blk_drew ?_ | refine blk_alloc ?_ _)); exact BK103.out) hb); have n1_ := Aside0.mk (blk_below (g := gb104) (o := .cells #[.int .i64 a1_0, .bool false, .int .i64 a1_2, .int .i64 a1_3, .int .i64 a1_4, .slice A1_5 l1_5.length c1_5, .slice A1_6 l1_6.length c1_6] 24 (0, 0)) (by (with_reducible repeat (first | refine blk_drewN ?_ _ | refine blk_drew ?_ | refine blk_alloc ?_ _)); exact BK104.out) hb); have n2_ := Aside0.mk (below_step (by repeat (first | (with_reducible first | exact HB.out | apply below_alloc | apply pw_below_drewN | apply below_drew1 | refine below_set ?_ GE103.out | refine below_set ?_ GE104.out) | exact HB.out)) hb); clear BK103; clear BK104; clear HB; have BK103 := n0_; have BK104 := n1_; have HB := n2_; clear n0_ n1_ n2_; (try clear hb); (try clear hb2); (try clear hk); (try clear hi); have hcz38_0 : w37.cell? ⟨gb103, 0, none⟩ = some (.int .i64 a0_0) := (blk_cell BK103.out 0).trans rfl; have hcz38_1 : w37.cell? ⟨gb103, 1, none⟩ = some (.bool false) := (blk_cell BK103.out 1).trans rfl; have hcz38_2 : w37.cell? ⟨gb103, 2, none⟩ = some (.int .i64 a0_2) := (blk_cell BK103.out 2).trans rfl; have hcz38_3 : w37.cell? ⟨gb103, 3, none⟩ = some (.int .i64 a0_3) := (blk_cell BK103.out 3).trans rfl; have hcz38_4 : w37.cell? ⟨gb103, 4, none⟩ = some (.int .i64 a0_4) := (blk_cell BK103.out 4).trans rfl; have hcz38_5 : w37.cell? ⟨gb103, 5, none⟩ = some (.slice A0_5 l0_5.length c0_5) := (blk_cell BK103.out 5).trans rfl; have hcz38_6 : w37.cell? ⟨gb103, 6, none⟩ = some (.slice A0_6 l0_6.length c0_6) := (blk_cell BK103.out 6).trans rfl; have hfz38_0 := blk_frozen BK103.out 0; have hfz38_1 := blk_frozen BK103.out 1; have hfz38_2 := blk_frozen BK103.out 2; have hfz38_3 := blk_frozen BK103.out 3; have hfz38_4 := blk_frozen BK103.out 4; have hfz38_5 := blk_frozen BK103.out 5; have hfz38_6 := blk_frozen BK103.out 6; have hcz39_0 : w37.cell? ⟨gb104, 0, none⟩ = some (.int .i64 a1_0) := (blk_cell BK104.out 0).trans rfl; have hcz39_1 : w37.cell? ⟨gb104, 1, none⟩ = some (.bool false) := (blk_cell BK104.out 1).trans rfl; have hcz39_2 : w37.cell? ⟨gb104, 2, none⟩ = some (.int .i64 a1_2) := (blk_cell BK104.out 2).trans rfl; have hcz39_3 : w37.cell? ⟨gb104, 3, none⟩ = some (.int .i64 a1_3) := (blk_cell BK104.out 3).trans rfl; have hcz39_4 : w37.cell? ⟨gb104, 4, none⟩ = some (.int .i64 a1_4) := (blk_cell BK104.out 4).trans rfl; have hcz39_5 : w37.cell? ⟨gb104, 5, none⟩ = some (.slice A1_5 l1_5.length c1_5) := (blk_cell BK104.out 5).trans rfl; have hcz39_6 : w37.cell? ⟨gb104, 6, none⟩ = some (.slice A1_6 l1_6.length c1_6) := (blk_cell BK104.out 6).trans rfl; have hfz39_0 := blk_frozen BK104.out 0; have hfz39_1 := blk_frozen BK104.out 1; have hfz39_2 := blk_frozen BK104.out 2; have hfz39_3 := blk_frozen BK104.out 3; have hfz39_4 := blk_frozen BK104.out 4; have hfz39_5 := blk_frozen BK104.out 5; have hfz39_6 := blk_frozen BK104.out 6))
            go_meet
            case rel => exact ⟨_, (true), (by first | rfl | (simp; done) | (simp [*]; done)), H', ⟨by first | omega | exact Nat.le_refl _⟩, ⟨by (with_reducible repeat (first | refine blk_drewN ?_ _ | refine blk_drew ?_ | refine blk_alloc ?_ _)); exact BK103.out⟩, ⟨by (with_reducible repeat (first | refine blk_drewN ?_ _ | refine blk_drew ?_ | refine blk_alloc ?_ _)); exact BK104.out⟩, ⟨by repeat (first | (with_reducible first | exact HB.out | apply below_alloc | apply pw_below_drewN | apply below_drew1 | refine below_set ?_ GE103.out | refine below_set ?_ GE104.out) | exact HB.out)⟩⟩
      · rw [if_neg c9] at H
        have c9b0 : (t106 == 0) = false := beq_eq_false_iff_ne.mpr c9
        have c9b1 : (t106 != 0) = true := bne_iff_ne.mpr c9
        have H' := Aside0.mk H
        clear H
        have hnb40 := NB103_104.out
        have hnc40 := NB104_103.out
        have hcz41_0 : w5.cell? ⟨gb103, 0, none⟩ = some (.int .i64 a0_0) := (blk_cell BK103.out 0).trans rfl
        have hcz41_1 : w5.cell? ⟨gb103, 1, none⟩ = some (.bool a0_1) := (blk_cell BK103.out 1).trans rfl
        have hcz41_2 : w5.cell? ⟨gb103, 2, none⟩ = some (.int .i64 a0_2) := (blk_cell BK103.out 2).trans rfl
        have hcz41_3 : w5.cell? ⟨gb103, 3, none⟩ = some (.int .i64 a0_3) := (blk_cell BK103.out 3).trans rfl
        have hcz41_4 : w5.cell? ⟨gb103, 4, none⟩ = some (.int .i64 a0_4) := (blk_cell BK103.out 4).trans rfl
        have hcz41_5 : w5.cell? ⟨gb103, 5, none⟩ = some (.slice A0_5 l0_5.length c0_5) := (blk_cell BK103.out 5).trans rfl
        have hcz41_6 : w5.cell? ⟨gb103, 6, none⟩ = some (.slice A0_6 l0_6.length c0_6) := (blk_cell BK103.out 6).trans rfl
        have hfz41_0 := blk_frozen BK103.out 0
        have hfz41_1 := blk_frozen BK103.out 1
        have hfz41_2 := blk_frozen BK103.out 2
        have hfz41_3 := blk_frozen BK103.out 3
        have hfz41_4 := blk_frozen BK103.out 4
        have hfz41_5 := blk_frozen BK103.out 5
        have hfz41_6 := blk_frozen BK103.out 6
        go_wp2_with (first | ((with_reducible refine gate_callee (f := 13) rfl ?_); refine goesL_ (some 6) rfl rfl Try.func13 (by kernel_rfl) rfl #[.agg #[.int .i64 a0_0, .bool a0_1, .int .i64 a0_2, .int .i64 a0_3, .int .i64 a0_4, .slice A0_5 l0_5.length c0_5, .slice A0_6 l0_6.length c0_6]] rfl (by (try simp only [List.map_toArray, List.map_cons, List.map_nil]); first | done | rfl | (simp only [List.length_drop, List.length_take]; rfl)) ?_; (with_reducible refine (cellmsg_Check.calls a0_0 a0_1 a0_2 a0_3 a0_4 _ _ l0_5 _ _ l0_6 t105 _ ?side1 ?side2 ?side3 ?side4 A6.out).mono ?_); (case side1 => repeat (first | exact (Kd.C_below HR0_5.out HB.out) | (with_reducible refine Kd.C_alloc ?_ _) | (with_reducible refine Kd.C_drewN ?_ _) | (with_reducible refine Kd.C_drew ?_))); (case side2 => exact HC0_5.out); (case side3 => repeat (first | exact (Kd.C_below HR0_6.out HB.out) | (with_reducible refine Kd.C_alloc ?_ _) | (with_reducible refine Kd.C_drewN ?_ _) | (with_reducible refine Kd.C_drew ?_))); (case side4 => exact HC0_6.out); rintro e w42 ⟨rfl, hb⟩; refine ⟨_, rfl, ?_⟩; have n0_ := Aside0.mk (blk_below (g := gb103) (o := .cells #[.int .i64 a0_0, .bool a0_1, .int .i64 a0_2, .int .i64 a0_3, .int .i64 a0_4, .slice A0_5 l0_5.length c0_5, .slice A0_6 l0_6.length c0_6] 24 (0, 0)) (by (with_reducible repeat (first | refine blk_drewN ?_ _ | refine blk_drew ?_ | refine blk_alloc ?_ _)); exact BK103.out) hb); have n1_ := Aside0.mk (blk_below (g := gb104) (o := .cells #[.int .i64 a1_0, .bool a1_1, .int .i64 a1_2, .int .i64 a1_3, .int .i64 a1_4, .slice A1_5 l1_5.length c1_5, .slice A1_6 l1_6.length c1_6] 24 (0, 0)) (by (with_reducible repeat (first | refine blk_drewN ?_ _ | refine blk_drew ?_ | refine blk_alloc ?_ _)); exact BK104.out) hb); have n2_ := Aside0.mk (below_step (by repeat (first | (with_reducible first | exact HB.out | apply below_alloc | apply pw_below_drewN | apply below_drew1 | refine below_set ?_ GE103.out | refine below_set ?_ GE104.out) | exact HB.out)) hb); clear BK103; clear BK104; clear HB; have BK103 := n0_; have BK104 := n1_; have HB := n2_; clear n0_ n1_ n2_; (try clear hb); (try clear hb2); (try clear hk); (try clear hi); have hcz43_0 : w42.cell? ⟨gb104, 0, none⟩ = some (.int .i64 a1_0) := (blk_cell BK104.out 0).trans rfl; have hcz43_1 : w42.cell? ⟨gb104, 1, none⟩ = some (.bool a1_1) := (blk_cell BK104.out 1).trans rfl; have hcz43_2 : w42.cell? ⟨gb104, 2, none⟩ = some (.int .i64 a1_2) := (blk_cell BK104.out 2).trans rfl; have hcz43_3 : w42.cell? ⟨gb104, 3, none⟩ = some (.int .i64 a1_3) := (blk_cell BK104.out 3).trans rfl; have hcz43_4 : w42.cell? ⟨gb104, 4, none⟩ = some (.int .i64 a1_4) := (blk_cell BK104.out 4).trans rfl; have hcz43_5 : w42.cell? ⟨gb104, 5, none⟩ = some (.slice A1_5 l1_5.length c1_5) := (blk_cell BK104.out 5).trans rfl; have hcz43_6 : w42.cell? ⟨gb104, 6, none⟩ = some (.slice A1_6 l1_6.length c1_6) := (blk_cell BK104.out 6).trans rfl; have hfz43_0 := blk_frozen BK104.out 0; have hfz43_1 := blk_frozen BK104.out 1; have hfz43_2 := blk_frozen BK104.out 2; have hfz43_3 := blk_frozen BK104.out 3; have hfz43_4 := blk_frozen BK104.out 4; have hfz43_5 := blk_frozen BK104.out 5; have hfz43_6 := blk_frozen BK104.out 6) | (go_at_call 13; (with_reducible refine (cellmsg_Check.calls a1_0 a1_1 a1_2 a1_3 a1_4 _ _ l1_5 _ _ l1_6 t106 _ ?side1 ?side2 ?side3 ?side4 A8.out).mono ?_); (case side1 => repeat (first | exact (Kd.C_below HR1_5.out HB.out) | (with_reducible refine Kd.C_alloc ?_ _) | (with_reducible refine Kd.C_drewN ?_ _) | (with_reducible refine Kd.C_drew ?_))); (case side2 => exact HC1_5.out); (case side3 => repeat (first | exact (Kd.C_below HR1_6.out HB.out) | (with_reducible refine Kd.C_alloc ?_ _) | (with_reducible refine Kd.C_drewN ?_ _) | (with_reducible refine Kd.C_drew ?_))); (case side4 => exact HC1_6.out); rintro e w44 ⟨rfl, hb⟩; have n0_ := Aside0.mk (blk_below (g := gb103) (o := .cells #[.int .i64 a0_0, .bool a0_1, .int .i64 a0_2, .int .i64 a0_3, .int .i64 a0_4, .slice A0_5 l0_5.length c0_5, .slice A0_6 l0_6.length c0_6] 24 (0, 0)) (by (with_reducible repeat (first | refine blk_drewN ?_ _ | refine blk_drew ?_ | refine blk_alloc ?_ _)); exact BK103.out) hb); have n1_ := Aside0.mk (blk_below (g := gb104) (o := .cells #[.int .i64 a1_0, .bool a1_1, .int .i64 a1_2, .int .i64 a1_3, .int .i64 a1_4, .slice A1_5 l1_5.length c1_5, .slice A1_6 l1_6.length c1_6] 24 (0, 0)) (by (with_reducible repeat (first | refine blk_drewN ?_ _ | refine blk_drew ?_ | refine blk_alloc ?_ _)); exact BK104.out) hb); have n2_ := Aside0.mk (below_step (by repeat (first | (with_reducible first | exact HB.out | apply below_alloc | apply pw_below_drewN | apply below_drew1 | refine below_set ?_ GE103.out | refine below_set ?_ GE104.out) | exact HB.out)) hb); clear BK103; clear BK104; clear HB; have BK103 := n0_; have BK104 := n1_; have HB := n2_; clear n0_ n1_ n2_; (try clear hb); (try clear hb2); (try clear hk); (try clear hi)))
        go_meet
        case rel => exact ⟨_, (true), (by first | rfl | (simp; done) | (simp [*]; done)), H', ⟨by first | omega | exact Nat.le_refl _⟩, ⟨by (with_reducible repeat (first | refine blk_drewN ?_ _ | refine blk_drew ?_ | refine blk_alloc ?_ _)); exact BK103.out⟩, ⟨by (with_reducible repeat (first | refine blk_drewN ?_ _ | refine blk_drew ?_ | refine blk_alloc ?_ _)); exact BK104.out⟩, ⟨by repeat (first | (with_reducible first | exact HB.out | apply below_alloc | apply pw_below_drewN | apply below_drew1 | refine below_set ?_ GE103.out | refine below_set ?_ GE104.out) | exact HB.out)⟩⟩
    · rw [if_neg c7] at H
      have c7b0 : (t105 == 0) = false := beq_eq_false_iff_ne.mpr c7
      have c7b1 : (t105 != 0) = true := bne_iff_ne.mpr c7
      (first | rw [c7b0] | (simp only [i64_w, i32_w]; rw [c7b0]) | skip)
      have H' := Aside0.mk H
      clear H
      have hnb45 := NB103_104.out
      have hnc45 := NB104_103.out
      have hcz46_0 : w5.cell? ⟨gb103, 0, none⟩ = some (.int .i64 a0_0) := (blk_cell BK103.out 0).trans rfl
      have hcz46_1 : w5.cell? ⟨gb103, 1, none⟩ = some (.bool a0_1) := (blk_cell BK103.out 1).trans rfl
      have hcz46_2 : w5.cell? ⟨gb103, 2, none⟩ = some (.int .i64 a0_2) := (blk_cell BK103.out 2).trans rfl
      have hcz46_3 : w5.cell? ⟨gb103, 3, none⟩ = some (.int .i64 a0_3) := (blk_cell BK103.out 3).trans rfl
      have hcz46_4 : w5.cell? ⟨gb103, 4, none⟩ = some (.int .i64 a0_4) := (blk_cell BK103.out 4).trans rfl
      have hcz46_5 : w5.cell? ⟨gb103, 5, none⟩ = some (.slice A0_5 l0_5.length c0_5) := (blk_cell BK103.out 5).trans rfl
      have hcz46_6 : w5.cell? ⟨gb103, 6, none⟩ = some (.slice A0_6 l0_6.length c0_6) := (blk_cell BK103.out 6).trans rfl
      have hfz46_0 := blk_frozen BK103.out 0
      have hfz46_1 := blk_frozen BK103.out 1
      have hfz46_2 := blk_frozen BK103.out 2
      have hfz46_3 := blk_frozen BK103.out 3
      have hfz46_4 := blk_frozen BK103.out 4
      have hfz46_5 := blk_frozen BK103.out 5
      have hfz46_6 := blk_frozen BK103.out 6
      go_wp2_with (first | ((with_reducible refine gate_callee (f := 13) rfl ?_); refine goesL_ (some 6) rfl rfl Try.func13 (by kernel_rfl) rfl #[.agg #[.int .i64 a0_0, .bool a0_1, .int .i64 a0_2, .int .i64 a0_3, .int .i64 a0_4, .slice A0_5 l0_5.length c0_5, .slice A0_6 l0_6.length c0_6]] rfl (by (try simp only [List.map_toArray, List.map_cons, List.map_nil]); first | done | rfl | (simp only [List.length_drop, List.length_take]; rfl)) ?_; (with_reducible refine (cellmsg_Check.calls a0_0 a0_1 a0_2 a0_3 a0_4 _ _ l0_5 _ _ l0_6 t105 _ ?side1 ?side2 ?side3 ?side4 A6.out).mono ?_); (case side1 => repeat (first | exact (Kd.C_below HR0_5.out HB.out) | (with_reducible refine Kd.C_alloc ?_ _) | (with_reducible refine Kd.C_drewN ?_ _) | (with_reducible refine Kd.C_drew ?_))); (case side2 => exact HC0_5.out); (case side3 => repeat (first | exact (Kd.C_below HR0_6.out HB.out) | (with_reducible refine Kd.C_alloc ?_ _) | (with_reducible refine Kd.C_drewN ?_ _) | (with_reducible refine Kd.C_drew ?_))); (case side4 => exact HC0_6.out); rintro e w47 ⟨rfl, hb⟩; refine ⟨_, rfl, ?_⟩; have n0_ := Aside0.mk (blk_below (g := gb103) (o := .cells #[.int .i64 a0_0, .bool a0_1, .int .i64 a0_2, .int .i64 a0_3, .int .i64 a0_4, .slice A0_5 l0_5.length c0_5, .slice A0_6 l0_6.length c0_6] 24 (0, 0)) (by (with_reducible repeat (first | refine blk_drewN ?_ _ | refine blk_drew ?_ | refine blk_alloc ?_ _)); exact BK103.out) hb); have n1_ := Aside0.mk (blk_below (g := gb104) (o := .cells #[.int .i64 a1_0, .bool a1_1, .int .i64 a1_2, .int .i64 a1_3, .int .i64 a1_4, .slice A1_5 l1_5.length c1_5, .slice A1_6 l1_6.length c1_6] 24 (0, 0)) (by (with_reducible repeat (first | refine blk_drewN ?_ _ | refine blk_drew ?_ | refine blk_alloc ?_ _)); exact BK104.out) hb); have n2_ := Aside0.mk (below_step (by repeat (first | (with_reducible first | exact HB.out | apply below_alloc | apply pw_below_drewN | apply below_drew1 | refine below_set ?_ GE103.out | refine below_set ?_ GE104.out) | exact HB.out)) hb); clear BK103; clear BK104; clear HB; have BK103 := n0_; have BK104 := n1_; have HB := n2_; clear n0_ n1_ n2_; (try clear hb); (try clear hb2); (try clear hk); (try clear hi)))
      go_meet
      case rel => exact ⟨_, (true), (by first | rfl | (simp; done) | (simp [*]; done)), H', ⟨by first | omega | exact Nat.le_refl _⟩, ⟨by (with_reducible repeat (first | refine blk_drewN ?_ _ | refine blk_drew ?_ | refine blk_alloc ?_ _)); exact BK103.out⟩, ⟨by (with_reducible repeat (first | refine blk_drewN ?_ _ | refine blk_drew ?_ | refine blk_alloc ?_ _)); exact BK104.out⟩, ⟨by repeat (first | (with_reducible first | exact HB.out | apply below_alloc | apply pw_below_drewN | apply below_drew1 | refine below_set ?_ GE103.out | refine below_set ?_ GE104.out) | exact HB.out)⟩⟩
  case rest =>
    clear HC3
    obtain ⟨kq, x35_2, rfl, HA, HJ2, BK103, BK104, HB⟩ := hcut
    cases kq with
    | zero => exact absurd HA.out (by simp [cellmsg_Answers.j0])
    | succ kj2 =>
      have H := HA.out
      clear HA
      simp only [cellmsg_Answers.j0] at H
      by_cases c48 : x35_2 = true
      · subst c48
        have H1 : (some false) = some r := by rw [if_pos rfl] at H; exact H
        clear H
        have H := H1
        clear H1
        obtain rfl := Option.some.inj H
        go_wp2
        go_ret
        exact ⟨by first | rfl | (simp [errW_none, errW_some] <;> rfl) | (simp [*, errW_none, errW_some] <;> rfl), by repeat (first | (with_reducible first | exact HB.out | apply below_alloc | apply pw_below_drewN | apply below_drew1 | refine below_set ?_ GE103.out | refine below_set ?_ GE104.out) | exact HB.out)⟩
      · replace c48 := Bool.eq_false_iff.mpr c48
        subst c48
        have H1 : (if a1_3 = 0 then (if a0_0 = 1 then (if a1_4 ≤ a0_4 then ((cellmsg_among.f l1_5 l0_5).bind fun t107 => (some t107)) else (some false)) else (if a0_0 = 3 then (if a1_4 ≤ a0_4 then ((cellmsg_among.f l1_5 l0_5).bind fun t108 => (if t108 = true then ((cellmsg_among.f l1_6 l0_6).bind fun t109 => (some t109)) else (some false))) else (some false)) else (if a0_0 = 2 then ((api_Spot_24.f kj2 l1_6 l0_6).bind fun t110 => (some t110)) else (some true)))) else (some true)) = some r := by rw [if_neg (show ¬ (false = true) by decide)] at H; exact H
        clear H
        have H := H1
        clear H1
        by_cases c49 : a1_3 = 0
        · rw [if_pos c49] at H
          have c49b0 : (a1_3 == 0) = true := beq_iff_eq.mpr c49
          have c49b1 : (a1_3 != 0) = false := bne_eq_false_iff_eq.mpr c49
          clear c49
          by_cases c50 : a0_0 = 1
          · rw [if_pos c50] at H
            have c50b0 : (a0_0 == 1) = true := beq_iff_eq.mpr c50
            have c50b1 : (a0_0 != 1) = false := bne_eq_false_iff_eq.mpr c50
            clear c50
            by_cases c51 : a1_4 ≤ a0_4
            · rw [if_pos c51] at H
              have c51b0 : decide (a1_4 ≤ a0_4) = true := decide_eq_true c51
              clear c51
              replace H := Option.bind_eq_some_iff.mp H
              obtain ⟨t107, A520, H⟩ := H
              replace H : (some t107) = some r := H
              have A52 := Aside0.mk A520
              clear A520
              obtain rfl := Option.some.inj H
              have hnb53 := NB104_103.out
              have hnc53 := NB103_104.out
              have hcz54_0 : wc.cell? ⟨gb104, 0, none⟩ = some (.int .i64 a1_0) := (blk_cell BK104.out 0).trans rfl
              have hcz54_1 : wc.cell? ⟨gb104, 1, none⟩ = some (.bool a1_1) := (blk_cell BK104.out 1).trans rfl
              have hcz54_2 : wc.cell? ⟨gb104, 2, none⟩ = some (.int .i64 a1_2) := (blk_cell BK104.out 2).trans rfl
              have hcz54_3 : wc.cell? ⟨gb104, 3, none⟩ = some (.int .i64 a1_3) := (blk_cell BK104.out 3).trans rfl
              have hcz54_4 : wc.cell? ⟨gb104, 4, none⟩ = some (.int .i64 a1_4) := (blk_cell BK104.out 4).trans rfl
              have hcz54_5 : wc.cell? ⟨gb104, 5, none⟩ = some (.slice A1_5 l1_5.length c1_5) := (blk_cell BK104.out 5).trans rfl
              have hcz54_6 : wc.cell? ⟨gb104, 6, none⟩ = some (.slice A1_6 l1_6.length c1_6) := (blk_cell BK104.out 6).trans rfl
              have hfz54_0 := blk_frozen BK104.out 0
              have hfz54_1 := blk_frozen BK104.out 1
              have hfz54_2 := blk_frozen BK104.out 2
              have hfz54_3 := blk_frozen BK104.out 3
              have hfz54_4 := blk_frozen BK104.out 4
              have hfz54_5 := blk_frozen BK104.out 5
              have hfz54_6 := blk_frozen BK104.out 6
              have hcz55_0 : wc.cell? ⟨gb103, 0, none⟩ = some (.int .i64 a0_0) := (blk_cell BK103.out 0).trans rfl
              have hcz55_1 : wc.cell? ⟨gb103, 1, none⟩ = some (.bool a0_1) := (blk_cell BK103.out 1).trans rfl
              have hcz55_2 : wc.cell? ⟨gb103, 2, none⟩ = some (.int .i64 a0_2) := (blk_cell BK103.out 2).trans rfl
              have hcz55_3 : wc.cell? ⟨gb103, 3, none⟩ = some (.int .i64 a0_3) := (blk_cell BK103.out 3).trans rfl
              have hcz55_4 : wc.cell? ⟨gb103, 4, none⟩ = some (.int .i64 a0_4) := (blk_cell BK103.out 4).trans rfl
              have hcz55_5 : wc.cell? ⟨gb103, 5, none⟩ = some (.slice A0_5 l0_5.length c0_5) := (blk_cell BK103.out 5).trans rfl
              have hcz55_6 : wc.cell? ⟨gb103, 6, none⟩ = some (.slice A0_6 l0_6.length c0_6) := (blk_cell BK103.out 6).trans rfl
              have hfz55_0 := blk_frozen BK103.out 0
              have hfz55_1 := blk_frozen BK103.out 1
              have hfz55_2 := blk_frozen BK103.out 2
              have hfz55_3 := blk_frozen BK103.out 3
              have hfz55_4 := blk_frozen BK103.out 4
              have hfz55_5 := blk_frozen BK103.out 5
              have hfz55_6 := blk_frozen BK103.out 6
              go_wp2_with (first | (go_at_call 40; (with_reducible refine (cellmsg_among.calls _ _ l1_5 _ _ l0_5 t107 _ ?side1 ?side2 ?side3 ?side4 A52.out).mono ?_); (case side1 => repeat (first | exact (Kd.C_below HR1_5.out HB.out) | (with_reducible refine Kd.C_alloc ?_ _) | (with_reducible refine Kd.C_drewN ?_ _) | (with_reducible refine Kd.C_drew ?_))); (case side2 => exact HC1_5.out); (case side3 => repeat (first | exact (Kd.C_below HR0_5.out HB.out) | (with_reducible refine Kd.C_alloc ?_ _) | (with_reducible refine Kd.C_drewN ?_ _) | (with_reducible refine Kd.C_drew ?_))); (case side4 => exact HC0_5.out); rintro e w56 ⟨rfl, hb⟩; have n0_ := Aside0.mk (blk_below (g := gb103) (o := .cells #[.int .i64 a0_0, .bool a0_1, .int .i64 a0_2, .int .i64 a0_3, .int .i64 a0_4, .slice A0_5 l0_5.length c0_5, .slice A0_6 l0_6.length c0_6] 24 (0, 0)) (by (with_reducible repeat (first | refine blk_drewN ?_ _ | refine blk_drew ?_ | refine blk_alloc ?_ _)); exact BK103.out) hb); have n1_ := Aside0.mk (blk_below (g := gb104) (o := .cells #[.int .i64 a1_0, .bool a1_1, .int .i64 a1_2, .int .i64 a1_3, .int .i64 a1_4, .slice A1_5 l1_5.length c1_5, .slice A1_6 l1_6.length c1_6] 24 (0, 0)) (by (with_reducible repeat (first | refine blk_drewN ?_ _ | refine blk_drew ?_ | refine blk_alloc ?_ _)); exact BK104.out) hb); have n2_ := Aside0.mk (below_step (by repeat (first | (with_reducible first | exact HB.out | apply below_alloc | apply pw_below_drewN | apply below_drew1 | refine below_set ?_ GE103.out | refine below_set ?_ GE104.out) | exact HB.out)) hb); clear BK103; clear BK104; clear HB; have BK103 := n0_; have BK104 := n1_; have HB := n2_; clear n0_ n1_ n2_; (try clear hb); (try clear hb2); (try clear hk); (try clear hi)))
              go_ret
              exact ⟨by first | rfl | (simp [errW_none, errW_some] <;> rfl) | (simp [*, errW_none, errW_some] <;> rfl), by repeat (first | (with_reducible first | exact HB.out | apply below_alloc | apply pw_below_drewN | apply below_drew1 | refine below_set ?_ GE103.out | refine below_set ?_ GE104.out) | exact HB.out)⟩
            · rw [if_neg c51] at H
              have c51b0 : decide (a1_4 ≤ a0_4) = false := decide_eq_false c51
              clear c51
              obtain rfl := Option.some.inj H
              have hnb57 := NB104_103.out
              have hnc57 := NB103_104.out
              have hcz58_0 : wc.cell? ⟨gb104, 0, none⟩ = some (.int .i64 a1_0) := (blk_cell BK104.out 0).trans rfl
              have hcz58_1 : wc.cell? ⟨gb104, 1, none⟩ = some (.bool a1_1) := (blk_cell BK104.out 1).trans rfl
              have hcz58_2 : wc.cell? ⟨gb104, 2, none⟩ = some (.int .i64 a1_2) := (blk_cell BK104.out 2).trans rfl
              have hcz58_3 : wc.cell? ⟨gb104, 3, none⟩ = some (.int .i64 a1_3) := (blk_cell BK104.out 3).trans rfl
              have hcz58_4 : wc.cell? ⟨gb104, 4, none⟩ = some (.int .i64 a1_4) := (blk_cell BK104.out 4).trans rfl
              have hcz58_5 : wc.cell? ⟨gb104, 5, none⟩ = some (.slice A1_5 l1_5.length c1_5) := (blk_cell BK104.out 5).trans rfl
              have hcz58_6 : wc.cell? ⟨gb104, 6, none⟩ = some (.slice A1_6 l1_6.length c1_6) := (blk_cell BK104.out 6).trans rfl
              have hfz58_0 := blk_frozen BK104.out 0
              have hfz58_1 := blk_frozen BK104.out 1
              have hfz58_2 := blk_frozen BK104.out 2
              have hfz58_3 := blk_frozen BK104.out 3
              have hfz58_4 := blk_frozen BK104.out 4
              have hfz58_5 := blk_frozen BK104.out 5
              have hfz58_6 := blk_frozen BK104.out 6
              have hcz59_0 : wc.cell? ⟨gb103, 0, none⟩ = some (.int .i64 a0_0) := (blk_cell BK103.out 0).trans rfl
              have hcz59_1 : wc.cell? ⟨gb103, 1, none⟩ = some (.bool a0_1) := (blk_cell BK103.out 1).trans rfl
              have hcz59_2 : wc.cell? ⟨gb103, 2, none⟩ = some (.int .i64 a0_2) := (blk_cell BK103.out 2).trans rfl
              have hcz59_3 : wc.cell? ⟨gb103, 3, none⟩ = some (.int .i64 a0_3) := (blk_cell BK103.out 3).trans rfl
              have hcz59_4 : wc.cell? ⟨gb103, 4, none⟩ = some (.int .i64 a0_4) := (blk_cell BK103.out 4).trans rfl
              have hcz59_5 : wc.cell? ⟨gb103, 5, none⟩ = some (.slice A0_5 l0_5.length c0_5) := (blk_cell BK103.out 5).trans rfl
              have hcz59_6 : wc.cell? ⟨gb103, 6, none⟩ = some (.slice A0_6 l0_6.length c0_6) := (blk_cell BK103.out 6).trans rfl
              have hfz59_0 := blk_frozen BK103.out 0
              have hfz59_1 := blk_frozen BK103.out 1
              have hfz59_2 := blk_frozen BK103.out 2
              have hfz59_3 := blk_frozen BK103.out 3
              have hfz59_4 := blk_frozen BK103.out 4
              have hfz59_5 := blk_frozen BK103.out 5
              have hfz59_6 := blk_frozen BK103.out 6
              go_wp2
              go_ret
              exact ⟨by first | rfl | (simp [errW_none, errW_some] <;> rfl) | (simp [*, errW_none, errW_some] <;> rfl), by repeat (first | (with_reducible first | exact HB.out | apply below_alloc | apply pw_below_drewN | apply below_drew1 | refine below_set ?_ GE103.out | refine below_set ?_ GE104.out) | exact HB.out)⟩
          · rw [if_neg c50] at H
            have c50b0 : (a0_0 == 1) = false := beq_eq_false_iff_ne.mpr c50
            have c50b1 : (a0_0 != 1) = true := bne_iff_ne.mpr c50
            by_cases c60 : a0_0 = 3
            · rw [if_pos c60] at H
              have c60b0 : (a0_0 == 3) = true := beq_iff_eq.mpr c60
              have c60b1 : (a0_0 != 3) = false := bne_eq_false_iff_eq.mpr c60
              clear c60
              by_cases c61 : a1_4 ≤ a0_4
              · rw [if_pos c61] at H
                have c61b0 : decide (a1_4 ≤ a0_4) = true := decide_eq_true c61
                clear c61
                replace H := Option.bind_eq_some_iff.mp H
                obtain ⟨t108, A620, H⟩ := H
                replace H : (if t108 = true then ((cellmsg_among.f l1_6 l0_6).bind fun t109 => (some t109)) else (some false)) = some r := H
                have A62 := Aside0.mk A620
                clear A620
                by_cases c63 : t108 = true
                · subst c63
                  have H1 : ((cellmsg_among.f l1_6 l0_6).bind fun t109 => (some t109)) = some r := by rw [if_pos rfl] at H; exact H
                  clear H
                  have H := H1
                  clear H1
                  replace H := Option.bind_eq_some_iff.mp H
                  obtain ⟨t109, A640, H⟩ := H
                  replace H : (some t109) = some r := H
                  have A64 := Aside0.mk A640
                  clear A640
                  obtain rfl := Option.some.inj H
                  have hnb65 := NB104_103.out
                  have hnc65 := NB103_104.out
                  have hcz66_0 : wc.cell? ⟨gb104, 0, none⟩ = some (.int .i64 a1_0) := (blk_cell BK104.out 0).trans rfl
                  have hcz66_1 : wc.cell? ⟨gb104, 1, none⟩ = some (.bool a1_1) := (blk_cell BK104.out 1).trans rfl
                  have hcz66_2 : wc.cell? ⟨gb104, 2, none⟩ = some (.int .i64 a1_2) := (blk_cell BK104.out 2).trans rfl
                  have hcz66_3 : wc.cell? ⟨gb104, 3, none⟩ = some (.int .i64 a1_3) := (blk_cell BK104.out 3).trans rfl
                  have hcz66_4 : wc.cell? ⟨gb104, 4, none⟩ = some (.int .i64 a1_4) := (blk_cell BK104.out 4).trans rfl
                  have hcz66_5 : wc.cell? ⟨gb104, 5, none⟩ = some (.slice A1_5 l1_5.length c1_5) := (blk_cell BK104.out 5).trans rfl
                  have hcz66_6 : wc.cell? ⟨gb104, 6, none⟩ = some (.slice A1_6 l1_6.length c1_6) := (blk_cell BK104.out 6).trans rfl
                  have hfz66_0 := blk_frozen BK104.out 0
                  have hfz66_1 := blk_frozen BK104.out 1
                  have hfz66_2 := blk_frozen BK104.out 2
                  have hfz66_3 := blk_frozen BK104.out 3
                  have hfz66_4 := blk_frozen BK104.out 4
                  have hfz66_5 := blk_frozen BK104.out 5
                  have hfz66_6 := blk_frozen BK104.out 6
                  have hcz67_0 : wc.cell? ⟨gb103, 0, none⟩ = some (.int .i64 a0_0) := (blk_cell BK103.out 0).trans rfl
                  have hcz67_1 : wc.cell? ⟨gb103, 1, none⟩ = some (.bool a0_1) := (blk_cell BK103.out 1).trans rfl
                  have hcz67_2 : wc.cell? ⟨gb103, 2, none⟩ = some (.int .i64 a0_2) := (blk_cell BK103.out 2).trans rfl
                  have hcz67_3 : wc.cell? ⟨gb103, 3, none⟩ = some (.int .i64 a0_3) := (blk_cell BK103.out 3).trans rfl
                  have hcz67_4 : wc.cell? ⟨gb103, 4, none⟩ = some (.int .i64 a0_4) := (blk_cell BK103.out 4).trans rfl
                  have hcz67_5 : wc.cell? ⟨gb103, 5, none⟩ = some (.slice A0_5 l0_5.length c0_5) := (blk_cell BK103.out 5).trans rfl
                  have hcz67_6 : wc.cell? ⟨gb103, 6, none⟩ = some (.slice A0_6 l0_6.length c0_6) := (blk_cell BK103.out 6).trans rfl
                  have hfz67_0 := blk_frozen BK103.out 0
                  have hfz67_1 := blk_frozen BK103.out 1
                  have hfz67_2 := blk_frozen BK103.out 2
                  have hfz67_3 := blk_frozen BK103.out 3
                  have hfz67_4 := blk_frozen BK103.out 4
                  have hfz67_5 := blk_frozen BK103.out 5
                  have hfz67_6 := blk_frozen BK103.out 6
                  go_wp2_with (first | (go_at_call 40; (with_reducible refine (cellmsg_among.calls _ _ l1_5 _ _ l0_5 true _ ?side1 ?side2 ?side3 ?side4 A62.out).mono ?_); (case side1 => repeat (first | exact (Kd.C_below HR1_5.out HB.out) | (with_reducible refine Kd.C_alloc ?_ _) | (with_reducible refine Kd.C_drewN ?_ _) | (with_reducible refine Kd.C_drew ?_))); (case side2 => exact HC1_5.out); (case side3 => repeat (first | exact (Kd.C_below HR0_5.out HB.out) | (with_reducible refine Kd.C_alloc ?_ _) | (with_reducible refine Kd.C_drewN ?_ _) | (with_reducible refine Kd.C_drew ?_))); (case side4 => exact HC0_5.out); rintro e w68 ⟨rfl, hb⟩; have n0_ := Aside0.mk (blk_below (g := gb103) (o := .cells #[.int .i64 a0_0, .bool a0_1, .int .i64 a0_2, .int .i64 a0_3, .int .i64 a0_4, .slice A0_5 l0_5.length c0_5, .slice A0_6 l0_6.length c0_6] 24 (0, 0)) (by (with_reducible repeat (first | refine blk_drewN ?_ _ | refine blk_drew ?_ | refine blk_alloc ?_ _)); exact BK103.out) hb); have n1_ := Aside0.mk (blk_below (g := gb104) (o := .cells #[.int .i64 a1_0, .bool a1_1, .int .i64 a1_2, .int .i64 a1_3, .int .i64 a1_4, .slice A1_5 l1_5.length c1_5, .slice A1_6 l1_6.length c1_6] 24 (0, 0)) (by (with_reducible repeat (first | refine blk_drewN ?_ _ | refine blk_drew ?_ | refine blk_alloc ?_ _)); exact BK104.out) hb); have n2_ := Aside0.mk (below_step (by repeat (first | (with_reducible first | exact HB.out | apply below_alloc | apply pw_below_drewN | apply below_drew1 | refine below_set ?_ GE103.out | refine below_set ?_ GE104.out) | exact HB.out)) hb); clear BK103; clear BK104; clear HB; have BK103 := n0_; have BK104 := n1_; have HB := n2_; clear n0_ n1_ n2_; (try clear hb); (try clear hb2); (try clear hk); (try clear hi); have hcz69_0 : w68.cell? ⟨gb104, 0, none⟩ = some (.int .i64 a1_0) := (blk_cell BK104.out 0).trans rfl; have hcz69_1 : w68.cell? ⟨gb104, 1, none⟩ = some (.bool a1_1) := (blk_cell BK104.out 1).trans rfl; have hcz69_2 : w68.cell? ⟨gb104, 2, none⟩ = some (.int .i64 a1_2) := (blk_cell BK104.out 2).trans rfl; have hcz69_3 : w68.cell? ⟨gb104, 3, none⟩ = some (.int .i64 a1_3) := (blk_cell BK104.out 3).trans rfl; have hcz69_4 : w68.cell? ⟨gb104, 4, none⟩ = some (.int .i64 a1_4) := (blk_cell BK104.out 4).trans rfl; have hcz69_5 : w68.cell? ⟨gb104, 5, none⟩ = some (.slice A1_5 l1_5.length c1_5) := (blk_cell BK104.out 5).trans rfl; have hcz69_6 : w68.cell? ⟨gb104, 6, none⟩ = some (.slice A1_6 l1_6.length c1_6) := (blk_cell BK104.out 6).trans rfl; have hfz69_0 := blk_frozen BK104.out 0; have hfz69_1 := blk_frozen BK104.out 1; have hfz69_2 := blk_frozen BK104.out 2; have hfz69_3 := blk_frozen BK104.out 3; have hfz69_4 := blk_frozen BK104.out 4; have hfz69_5 := blk_frozen BK104.out 5; have hfz69_6 := blk_frozen BK104.out 6; have hcz70_0 : w68.cell? ⟨gb103, 0, none⟩ = some (.int .i64 a0_0) := (blk_cell BK103.out 0).trans rfl; have hcz70_1 : w68.cell? ⟨gb103, 1, none⟩ = some (.bool a0_1) := (blk_cell BK103.out 1).trans rfl; have hcz70_2 : w68.cell? ⟨gb103, 2, none⟩ = some (.int .i64 a0_2) := (blk_cell BK103.out 2).trans rfl; have hcz70_3 : w68.cell? ⟨gb103, 3, none⟩ = some (.int .i64 a0_3) := (blk_cell BK103.out 3).trans rfl; have hcz70_4 : w68.cell? ⟨gb103, 4, none⟩ = some (.int .i64 a0_4) := (blk_cell BK103.out 4).trans rfl; have hcz70_5 : w68.cell? ⟨gb103, 5, none⟩ = some (.slice A0_5 l0_5.length c0_5) := (blk_cell BK103.out 5).trans rfl; have hcz70_6 : w68.cell? ⟨gb103, 6, none⟩ = some (.slice A0_6 l0_6.length c0_6) := (blk_cell BK103.out 6).trans rfl; have hfz70_0 := blk_frozen BK103.out 0; have hfz70_1 := blk_frozen BK103.out 1; have hfz70_2 := blk_frozen BK103.out 2; have hfz70_3 := blk_frozen BK103.out 3; have hfz70_4 := blk_frozen BK103.out 4; have hfz70_5 := blk_frozen BK103.out 5; have hfz70_6 := blk_frozen BK103.out 6) | (go_at_call 40; (with_reducible refine (cellmsg_among.calls _ _ l1_6 _ _ l0_6 t109 _ ?side1 ?side2 ?side3 ?side4 A64.out).mono ?_); (case side1 => repeat (first | exact (Kd.C_below HR1_6.out HB.out) | (with_reducible refine Kd.C_alloc ?_ _) | (with_reducible refine Kd.C_drewN ?_ _) | (with_reducible refine Kd.C_drew ?_))); (case side2 => exact HC1_6.out); (case side3 => repeat (first | exact (Kd.C_below HR0_6.out HB.out) | (with_reducible refine Kd.C_alloc ?_ _) | (with_reducible refine Kd.C_drewN ?_ _) | (with_reducible refine Kd.C_drew ?_))); (case side4 => exact HC0_6.out); rintro e w71 ⟨rfl, hb⟩; have n0_ := Aside0.mk (blk_below (g := gb103) (o := .cells #[.int .i64 a0_0, .bool a0_1, .int .i64 a0_2, .int .i64 a0_3, .int .i64 a0_4, .slice A0_5 l0_5.length c0_5, .slice A0_6 l0_6.length c0_6] 24 (0, 0)) (by (with_reducible repeat (first | refine blk_drewN ?_ _ | refine blk_drew ?_ | refine blk_alloc ?_ _)); exact BK103.out) hb); have n1_ := Aside0.mk (blk_below (g := gb104) (o := .cells #[.int .i64 a1_0, .bool a1_1, .int .i64 a1_2, .int .i64 a1_3, .int .i64 a1_4, .slice A1_5 l1_5.length c1_5, .slice A1_6 l1_6.length c1_6] 24 (0, 0)) (by (with_reducible repeat (first | refine blk_drewN ?_ _ | refine blk_drew ?_ | refine blk_alloc ?_ _)); exact BK104.out) hb); have n2_ := Aside0.mk (below_step (by repeat (first | (with_reducible first | exact HB.out | apply below_alloc | apply pw_below_drewN | apply below_drew1 | refine below_set ?_ GE103.out | refine below_set ?_ GE104.out) | exact HB.out)) hb); clear BK103; clear BK104; clear HB; have BK103 := n0_; have BK104 := n1_; have HB := n2_; clear n0_ n1_ n2_; (try clear hb); (try clear hb2); (try clear hk); (try clear hi)))
                  go_ret
                  exact ⟨by first | rfl | (simp [errW_none, errW_some] <;> rfl) | (simp [*, errW_none, errW_some] <;> rfl), by repeat (first | (with_reducible first | exact HB.out | apply below_alloc | apply pw_below_drewN | apply below_drew1 | refine below_set ?_ GE103.out | refine below_set ?_ GE104.out) | exact HB.out)⟩
                · replace c63 := Bool.eq_false_iff.mpr c63
                  subst c63
                  have H1 : (some false) = some r := by rw [if_neg (show ¬ (false = true) by decide)] at H; exact H
                  clear H
                  have H := H1
                  clear H1
                  obtain rfl := Option.some.inj H
                  have hnb72 := NB104_103.out
                  have hnc72 := NB103_104.out
                  have hcz73_0 : wc.cell? ⟨gb104, 0, none⟩ = some (.int .i64 a1_0) := (blk_cell BK104.out 0).trans rfl
                  have hcz73_1 : wc.cell? ⟨gb104, 1, none⟩ = some (.bool a1_1) := (blk_cell BK104.out 1).trans rfl
                  have hcz73_2 : wc.cell? ⟨gb104, 2, none⟩ = some (.int .i64 a1_2) := (blk_cell BK104.out 2).trans rfl
                  have hcz73_3 : wc.cell? ⟨gb104, 3, none⟩ = some (.int .i64 a1_3) := (blk_cell BK104.out 3).trans rfl
                  have hcz73_4 : wc.cell? ⟨gb104, 4, none⟩ = some (.int .i64 a1_4) := (blk_cell BK104.out 4).trans rfl
                  have hcz73_5 : wc.cell? ⟨gb104, 5, none⟩ = some (.slice A1_5 l1_5.length c1_5) := (blk_cell BK104.out 5).trans rfl
                  have hcz73_6 : wc.cell? ⟨gb104, 6, none⟩ = some (.slice A1_6 l1_6.length c1_6) := (blk_cell BK104.out 6).trans rfl
                  have hfz73_0 := blk_frozen BK104.out 0
                  have hfz73_1 := blk_frozen BK104.out 1
                  have hfz73_2 := blk_frozen BK104.out 2
                  have hfz73_3 := blk_frozen BK104.out 3
                  have hfz73_4 := blk_frozen BK104.out 4
                  have hfz73_5 := blk_frozen BK104.out 5
                  have hfz73_6 := blk_frozen BK104.out 6
                  have hcz74_0 : wc.cell? ⟨gb103, 0, none⟩ = some (.int .i64 a0_0) := (blk_cell BK103.out 0).trans rfl
                  have hcz74_1 : wc.cell? ⟨gb103, 1, none⟩ = some (.bool a0_1) := (blk_cell BK103.out 1).trans rfl
                  have hcz74_2 : wc.cell? ⟨gb103, 2, none⟩ = some (.int .i64 a0_2) := (blk_cell BK103.out 2).trans rfl
                  have hcz74_3 : wc.cell? ⟨gb103, 3, none⟩ = some (.int .i64 a0_3) := (blk_cell BK103.out 3).trans rfl
                  have hcz74_4 : wc.cell? ⟨gb103, 4, none⟩ = some (.int .i64 a0_4) := (blk_cell BK103.out 4).trans rfl
                  have hcz74_5 : wc.cell? ⟨gb103, 5, none⟩ = some (.slice A0_5 l0_5.length c0_5) := (blk_cell BK103.out 5).trans rfl
                  have hcz74_6 : wc.cell? ⟨gb103, 6, none⟩ = some (.slice A0_6 l0_6.length c0_6) := (blk_cell BK103.out 6).trans rfl
                  have hfz74_0 := blk_frozen BK103.out 0
                  have hfz74_1 := blk_frozen BK103.out 1
                  have hfz74_2 := blk_frozen BK103.out 2
                  have hfz74_3 := blk_frozen BK103.out 3
                  have hfz74_4 := blk_frozen BK103.out 4
                  have hfz74_5 := blk_frozen BK103.out 5
                  have hfz74_6 := blk_frozen BK103.out 6
                  go_wp2_with (first | (go_at_call 40; (with_reducible refine (cellmsg_among.calls _ _ l1_5 _ _ l0_5 false _ ?side1 ?side2 ?side3 ?side4 A62.out).mono ?_); (case side1 => repeat (first | exact (Kd.C_below HR1_5.out HB.out) | (with_reducible refine Kd.C_alloc ?_ _) | (with_reducible refine Kd.C_drewN ?_ _) | (with_reducible refine Kd.C_drew ?_))); (case side2 => exact HC1_5.out); (case side3 => repeat (first | exact (Kd.C_below HR0_5.out HB.out) | (with_reducible refine Kd.C_alloc ?_ _) | (with_reducible refine Kd.C_drewN ?_ _) | (with_reducible refine Kd.C_drew ?_))); (case side4 => exact HC0_5.out); rintro e w75 ⟨rfl, hb⟩; have n0_ := Aside0.mk (blk_below (g := gb103) (o := .cells #[.int .i64 a0_0, .bool a0_1, .int .i64 a0_2, .int .i64 a0_3, .int .i64 a0_4, .slice A0_5 l0_5.length c0_5, .slice A0_6 l0_6.length c0_6] 24 (0, 0)) (by (with_reducible repeat (first | refine blk_drewN ?_ _ | refine blk_drew ?_ | refine blk_alloc ?_ _)); exact BK103.out) hb); have n1_ := Aside0.mk (blk_below (g := gb104) (o := .cells #[.int .i64 a1_0, .bool a1_1, .int .i64 a1_2, .int .i64 a1_3, .int .i64 a1_4, .slice A1_5 l1_5.length c1_5, .slice A1_6 l1_6.length c1_6] 24 (0, 0)) (by (with_reducible repeat (first | refine blk_drewN ?_ _ | refine blk_drew ?_ | refine blk_alloc ?_ _)); exact BK104.out) hb); have n2_ := Aside0.mk (below_step (by repeat (first | (with_reducible first | exact HB.out | apply below_alloc | apply pw_below_drewN | apply below_drew1 | refine below_set ?_ GE103.out | refine below_set ?_ GE104.out) | exact HB.out)) hb); clear BK103; clear BK104; clear HB; have BK103 := n0_; have BK104 := n1_; have HB := n2_; clear n0_ n1_ n2_; (try clear hb); (try clear hb2); (try clear hk); (try clear hi)))
                  go_ret
                  exact ⟨by first | rfl | (simp [errW_none, errW_some] <;> rfl) | (simp [*, errW_none, errW_some] <;> rfl), by repeat (first | (with_reducible first | exact HB.out | apply below_alloc | apply pw_below_drewN | apply below_drew1 | refine below_set ?_ GE103.out | refine below_set ?_ GE104.out) | exact HB.out)⟩
              · rw [if_neg c61] at H
                have c61b0 : decide (a1_4 ≤ a0_4) = false := decide_eq_false c61
                clear c61
                obtain rfl := Option.some.inj H
                have hnb76 := NB104_103.out
                have hnc76 := NB103_104.out
                have hcz77_0 : wc.cell? ⟨gb104, 0, none⟩ = some (.int .i64 a1_0) := (blk_cell BK104.out 0).trans rfl
                have hcz77_1 : wc.cell? ⟨gb104, 1, none⟩ = some (.bool a1_1) := (blk_cell BK104.out 1).trans rfl
                have hcz77_2 : wc.cell? ⟨gb104, 2, none⟩ = some (.int .i64 a1_2) := (blk_cell BK104.out 2).trans rfl
                have hcz77_3 : wc.cell? ⟨gb104, 3, none⟩ = some (.int .i64 a1_3) := (blk_cell BK104.out 3).trans rfl
                have hcz77_4 : wc.cell? ⟨gb104, 4, none⟩ = some (.int .i64 a1_4) := (blk_cell BK104.out 4).trans rfl
                have hcz77_5 : wc.cell? ⟨gb104, 5, none⟩ = some (.slice A1_5 l1_5.length c1_5) := (blk_cell BK104.out 5).trans rfl
                have hcz77_6 : wc.cell? ⟨gb104, 6, none⟩ = some (.slice A1_6 l1_6.length c1_6) := (blk_cell BK104.out 6).trans rfl
                have hfz77_0 := blk_frozen BK104.out 0
                have hfz77_1 := blk_frozen BK104.out 1
                have hfz77_2 := blk_frozen BK104.out 2
                have hfz77_3 := blk_frozen BK104.out 3
                have hfz77_4 := blk_frozen BK104.out 4
                have hfz77_5 := blk_frozen BK104.out 5
                have hfz77_6 := blk_frozen BK104.out 6
                have hcz78_0 : wc.cell? ⟨gb103, 0, none⟩ = some (.int .i64 a0_0) := (blk_cell BK103.out 0).trans rfl
                have hcz78_1 : wc.cell? ⟨gb103, 1, none⟩ = some (.bool a0_1) := (blk_cell BK103.out 1).trans rfl
                have hcz78_2 : wc.cell? ⟨gb103, 2, none⟩ = some (.int .i64 a0_2) := (blk_cell BK103.out 2).trans rfl
                have hcz78_3 : wc.cell? ⟨gb103, 3, none⟩ = some (.int .i64 a0_3) := (blk_cell BK103.out 3).trans rfl
                have hcz78_4 : wc.cell? ⟨gb103, 4, none⟩ = some (.int .i64 a0_4) := (blk_cell BK103.out 4).trans rfl
                have hcz78_5 : wc.cell? ⟨gb103, 5, none⟩ = some (.slice A0_5 l0_5.length c0_5) := (blk_cell BK103.out 5).trans rfl
                have hcz78_6 : wc.cell? ⟨gb103, 6, none⟩ = some (.slice A0_6 l0_6.length c0_6) := (blk_cell BK103.out 6).trans rfl
                have hfz78_0 := blk_frozen BK103.out 0
                have hfz78_1 := blk_frozen BK103.out 1
                have hfz78_2 := blk_frozen BK103.out 2
                have hfz78_3 := blk_frozen BK103.out 3
                have hfz78_4 := blk_frozen BK103.out 4
                have hfz78_5 := blk_frozen BK103.out 5
                have hfz78_6 := blk_frozen BK103.out 6
                go_wp2
                go_ret
                exact ⟨by first | rfl | (simp [errW_none, errW_some] <;> rfl) | (simp [*, errW_none, errW_some] <;> rfl), by repeat (first | (with_reducible first | exact HB.out | apply below_alloc | apply pw_below_drewN | apply below_drew1 | refine below_set ?_ GE103.out | refine below_set ?_ GE104.out) | exact HB.out)⟩
            · rw [if_neg c60] at H
              have c60b0 : (a0_0 == 3) = false := beq_eq_false_iff_ne.mpr c60
              have c60b1 : (a0_0 != 3) = true := bne_iff_ne.mpr c60
              by_cases c79 : a0_0 = 2
              · rw [if_pos c79] at H
                have c79b0 : (a0_0 == 2) = true := beq_iff_eq.mpr c79
                have c79b1 : (a0_0 != 2) = false := bne_eq_false_iff_eq.mpr c79
                clear c79
                replace H := Option.bind_eq_some_iff.mp H
                obtain ⟨t110, A800, H⟩ := H
                replace H : (some t110) = some r := H
                have A80 := Aside0.mk A800
                clear A800
                obtain rfl := Option.some.inj H
                have hnb81 := NB104_103.out
                have hnc81 := NB103_104.out
                have hcz82_0 : wc.cell? ⟨gb104, 0, none⟩ = some (.int .i64 a1_0) := (blk_cell BK104.out 0).trans rfl
                have hcz82_1 : wc.cell? ⟨gb104, 1, none⟩ = some (.bool a1_1) := (blk_cell BK104.out 1).trans rfl
                have hcz82_2 : wc.cell? ⟨gb104, 2, none⟩ = some (.int .i64 a1_2) := (blk_cell BK104.out 2).trans rfl
                have hcz82_3 : wc.cell? ⟨gb104, 3, none⟩ = some (.int .i64 a1_3) := (blk_cell BK104.out 3).trans rfl
                have hcz82_4 : wc.cell? ⟨gb104, 4, none⟩ = some (.int .i64 a1_4) := (blk_cell BK104.out 4).trans rfl
                have hcz82_5 : wc.cell? ⟨gb104, 5, none⟩ = some (.slice A1_5 l1_5.length c1_5) := (blk_cell BK104.out 5).trans rfl
                have hcz82_6 : wc.cell? ⟨gb104, 6, none⟩ = some (.slice A1_6 l1_6.length c1_6) := (blk_cell BK104.out 6).trans rfl
                have hfz82_0 := blk_frozen BK104.out 0
                have hfz82_1 := blk_frozen BK104.out 1
                have hfz82_2 := blk_frozen BK104.out 2
                have hfz82_3 := blk_frozen BK104.out 3
                have hfz82_4 := blk_frozen BK104.out 4
                have hfz82_5 := blk_frozen BK104.out 5
                have hfz82_6 := blk_frozen BK104.out 6
                have hcz83_0 : wc.cell? ⟨gb103, 0, none⟩ = some (.int .i64 a0_0) := (blk_cell BK103.out 0).trans rfl
                have hcz83_1 : wc.cell? ⟨gb103, 1, none⟩ = some (.bool a0_1) := (blk_cell BK103.out 1).trans rfl
                have hcz83_2 : wc.cell? ⟨gb103, 2, none⟩ = some (.int .i64 a0_2) := (blk_cell BK103.out 2).trans rfl
                have hcz83_3 : wc.cell? ⟨gb103, 3, none⟩ = some (.int .i64 a0_3) := (blk_cell BK103.out 3).trans rfl
                have hcz83_4 : wc.cell? ⟨gb103, 4, none⟩ = some (.int .i64 a0_4) := (blk_cell BK103.out 4).trans rfl
                have hcz83_5 : wc.cell? ⟨gb103, 5, none⟩ = some (.slice A0_5 l0_5.length c0_5) := (blk_cell BK103.out 5).trans rfl
                have hcz83_6 : wc.cell? ⟨gb103, 6, none⟩ = some (.slice A0_6 l0_6.length c0_6) := (blk_cell BK103.out 6).trans rfl
                have hfz83_0 := blk_frozen BK103.out 0
                have hfz83_1 := blk_frozen BK103.out 1
                have hfz83_2 := blk_frozen BK103.out 2
                have hfz83_3 := blk_frozen BK103.out 3
                have hfz83_4 := blk_frozen BK103.out 4
                have hfz83_5 := blk_frozen BK103.out 5
                have hfz83_6 := blk_frozen BK103.out 6
                go_wp2_with (first | ((with_reducible refine gate_callee (f := 24) rfl ?_); refine goesL_ (some 82) rfl rfl Try.func24 (by kernel_rfl) rfl #[.slice A1_6 l1_6.length c1_6, .slice A0_6 l0_6.length c0_6] rfl (by (try simp only [List.map_toArray, List.map_cons, List.map_nil]); first | done | rfl | (simp only [List.length_drop, List.length_take]; rfl)) ?_; (with_reducible refine (api_Spot_24.calls kj2 _ _ l1_6 _ _ l0_6 t110 _ ?side1 ?side2 ?side3 ?side4 A80.out).mono ?_); (case side1 => repeat (first | exact (Kd.C_below HR1_6.out HB.out) | (with_reducible refine Kd.C_alloc ?_ _) | (with_reducible refine Kd.C_drewN ?_ _) | (with_reducible refine Kd.C_drew ?_))); (case side2 => exact HC1_6.out); (case side3 => repeat (first | exact (Kd.C_below HR0_6.out HB.out) | (with_reducible refine Kd.C_alloc ?_ _) | (with_reducible refine Kd.C_drewN ?_ _) | (with_reducible refine Kd.C_drew ?_))); (case side4 => exact HC0_6.out); rintro e w' ⟨rfl, ⟨nd, rfl⟩⟩; refine ⟨_, rfl, ?_⟩))
                go_ret
                exact ⟨by first | rfl | (simp [errW_none, errW_some] <;> rfl) | (simp [*, errW_none, errW_some] <;> rfl), by repeat (first | (with_reducible first | exact HB.out | apply below_alloc | apply pw_below_drewN | apply below_drew1 | refine below_set ?_ GE103.out | refine below_set ?_ GE104.out) | exact HB.out)⟩
              · rw [if_neg c79] at H
                have c79b0 : (a0_0 == 2) = false := beq_eq_false_iff_ne.mpr c79
                have c79b1 : (a0_0 != 2) = true := bne_iff_ne.mpr c79
                obtain rfl := Option.some.inj H
                have hnb84 := NB104_103.out
                have hnc84 := NB103_104.out
                have hcz85_0 : wc.cell? ⟨gb104, 0, none⟩ = some (.int .i64 a1_0) := (blk_cell BK104.out 0).trans rfl
                have hcz85_1 : wc.cell? ⟨gb104, 1, none⟩ = some (.bool a1_1) := (blk_cell BK104.out 1).trans rfl
                have hcz85_2 : wc.cell? ⟨gb104, 2, none⟩ = some (.int .i64 a1_2) := (blk_cell BK104.out 2).trans rfl
                have hcz85_3 : wc.cell? ⟨gb104, 3, none⟩ = some (.int .i64 a1_3) := (blk_cell BK104.out 3).trans rfl
                have hcz85_4 : wc.cell? ⟨gb104, 4, none⟩ = some (.int .i64 a1_4) := (blk_cell BK104.out 4).trans rfl
                have hcz85_5 : wc.cell? ⟨gb104, 5, none⟩ = some (.slice A1_5 l1_5.length c1_5) := (blk_cell BK104.out 5).trans rfl
                have hcz85_6 : wc.cell? ⟨gb104, 6, none⟩ = some (.slice A1_6 l1_6.length c1_6) := (blk_cell BK104.out 6).trans rfl
                have hfz85_0 := blk_frozen BK104.out 0
                have hfz85_1 := blk_frozen BK104.out 1
                have hfz85_2 := blk_frozen BK104.out 2
                have hfz85_3 := blk_frozen BK104.out 3
                have hfz85_4 := blk_frozen BK104.out 4
                have hfz85_5 := blk_frozen BK104.out 5
                have hfz85_6 := blk_frozen BK104.out 6
                have hcz86_0 : wc.cell? ⟨gb103, 0, none⟩ = some (.int .i64 a0_0) := (blk_cell BK103.out 0).trans rfl
                have hcz86_1 : wc.cell? ⟨gb103, 1, none⟩ = some (.bool a0_1) := (blk_cell BK103.out 1).trans rfl
                have hcz86_2 : wc.cell? ⟨gb103, 2, none⟩ = some (.int .i64 a0_2) := (blk_cell BK103.out 2).trans rfl
                have hcz86_3 : wc.cell? ⟨gb103, 3, none⟩ = some (.int .i64 a0_3) := (blk_cell BK103.out 3).trans rfl
                have hcz86_4 : wc.cell? ⟨gb103, 4, none⟩ = some (.int .i64 a0_4) := (blk_cell BK103.out 4).trans rfl
                have hcz86_5 : wc.cell? ⟨gb103, 5, none⟩ = some (.slice A0_5 l0_5.length c0_5) := (blk_cell BK103.out 5).trans rfl
                have hcz86_6 : wc.cell? ⟨gb103, 6, none⟩ = some (.slice A0_6 l0_6.length c0_6) := (blk_cell BK103.out 6).trans rfl
                have hfz86_0 := blk_frozen BK103.out 0
                have hfz86_1 := blk_frozen BK103.out 1
                have hfz86_2 := blk_frozen BK103.out 2
                have hfz86_3 := blk_frozen BK103.out 3
                have hfz86_4 := blk_frozen BK103.out 4
                have hfz86_5 := blk_frozen BK103.out 5
                have hfz86_6 := blk_frozen BK103.out 6
                go_wp2
                go_ret
                exact ⟨by first | rfl | (simp [errW_none, errW_some] <;> rfl) | (simp [*, errW_none, errW_some] <;> rfl), by repeat (first | (with_reducible first | exact HB.out | apply below_alloc | apply pw_below_drewN | apply below_drew1 | refine below_set ?_ GE103.out | refine below_set ?_ GE104.out) | exact HB.out)⟩
        · rw [if_neg c49] at H
          have c49b0 : (a1_3 == 0) = false := beq_eq_false_iff_ne.mpr c49
          have c49b1 : (a1_3 != 0) = true := bne_iff_ne.mpr c49
          obtain rfl := Option.some.inj H
          have hnb87 := NB104_103.out
          have hnc87 := NB103_104.out
          have hcz88_0 : wc.cell? ⟨gb104, 0, none⟩ = some (.int .i64 a1_0) := (blk_cell BK104.out 0).trans rfl
          have hcz88_1 : wc.cell? ⟨gb104, 1, none⟩ = some (.bool a1_1) := (blk_cell BK104.out 1).trans rfl
          have hcz88_2 : wc.cell? ⟨gb104, 2, none⟩ = some (.int .i64 a1_2) := (blk_cell BK104.out 2).trans rfl
          have hcz88_3 : wc.cell? ⟨gb104, 3, none⟩ = some (.int .i64 a1_3) := (blk_cell BK104.out 3).trans rfl
          have hcz88_4 : wc.cell? ⟨gb104, 4, none⟩ = some (.int .i64 a1_4) := (blk_cell BK104.out 4).trans rfl
          have hcz88_5 : wc.cell? ⟨gb104, 5, none⟩ = some (.slice A1_5 l1_5.length c1_5) := (blk_cell BK104.out 5).trans rfl
          have hcz88_6 : wc.cell? ⟨gb104, 6, none⟩ = some (.slice A1_6 l1_6.length c1_6) := (blk_cell BK104.out 6).trans rfl
          have hfz88_0 := blk_frozen BK104.out 0
          have hfz88_1 := blk_frozen BK104.out 1
          have hfz88_2 := blk_frozen BK104.out 2
          have hfz88_3 := blk_frozen BK104.out 3
          have hfz88_4 := blk_frozen BK104.out 4
          have hfz88_5 := blk_frozen BK104.out 5
          have hfz88_6 := blk_frozen BK104.out 6
          go_wp2
          go_ret
          exact ⟨by first | rfl | (simp [errW_none, errW_some] <;> rfl) | (simp [*, errW_none, errW_some] <;> rfl), by repeat (first | (with_reducible first | exact HB.out | apply below_alloc | apply pw_below_drewN | apply below_drew1 | refine below_set ?_ GE103.out | refine below_set ?_ GE104.out) | exact HB.out)⟩
end Go.Proofs.Ytjjcgjpmhhkeaaa.B
