/- ! ### hopmeshref25_Answers: function 18 (cut to what is reached: wip/tools/slimout.py) -/
import Derived.Test.YtjjcgjpmhhkeaaaSRB0
import Derived.Test.YtjjcgjpmhhkeaaaSRB6
namespace Go.Proofs.Ytjjcgjpmhhkeaaa.B
open Go.RowKit Go.Proofs.YtjjcgjpmhhkeaaaW.PrintWords Go.Proofs.YtjjcgjpmhhkeaaaW.PrintLast Go.Proofs.YtjjcgjpmhhkeaaaW.PrintMore
attribute [local go_sem] max2_int min2_int max_two min_two max_three min_three max_four min_four   -- for this text's walks alone
set_option linter.unusedVariables false
set_option linter.unusedSimpArgs false
mutual
def hopmeshref25_Answers.j0 : Nat → Bool → Int → Bool → Int → Int → Int → List (S37) → List (S37) → Int → Bool → Int → Int → Int → List (S37) → List (S37) → Option (Bool)
  | 0, _, _, _, _, _, _, _, _, _, _, _, _, _, _, _ => none
  | k + 1, x35, x172000, x172001, x172002, x172003, x172004, x172005, x172006, x173000, x173001, x173002, x173003, x173004, x173005, x173006 => if x35 = true then (some false) else (if x173003 = 0 then (if x173000 = 1 then (hopmeshref25_Answers.j1 k x173000 (x173000 == 1) x172000 x172001 x172002 x172003 x172004 x172005 x172006 x173000 x173001 x173002 x173003 x173004 x173005 x173006) else (hopmeshref25_Answers.j1 k x173000 (x173000 == 3) x172000 x172001 x172002 x172003 x172004 x172005 x172006 x173000 x173001 x173002 x173003 x173004 x173005 x173006)) else (some true))
def hopmeshref25_Answers.j1 : Nat → Int → Bool → Int → Bool → Int → Int → Int → List (S37) → List (S37) → Int → Bool → Int → Int → Int → List (S37) → List (S37) → Option (Bool)
  | 0, _, _, _, _, _, _, _, _, _, _, _, _, _, _, _, _ => none
  | k + 1, x40, x41, x172000, x172001, x172002, x172003, x172004, x172005, x172006, x173000, x173001, x173002, x173003, x173004, x173005, x173006 => if x41 = true then (if x173004 ≤ x172004 then ((hopmeshref25_among.f k x173005 x172005).bind fun t175 => (if t175 = true then ((hopmeshref25_among.f k x173006 x172006).bind fun t176 => (some t176)) else (some false))) else (some false)) else (if x40 = 2 then (if (x173006.length : Int) = (x172006.length : Int) then ((hopmeshref25_among.f k x173006 x172006).bind fun t177 => (some t177)) else (some false)) else (some true))
end
def hopmeshref25_Answers.f (k : Nat) (a0_0 : Int) (a0_1 : Bool) (a0_2 : Int) (a0_3 : Int) (a0_4 : Int) (l0_5 : List (S37)) (l0_6 : List (S37)) (a1_0 : Int) (a1_1 : Bool) (a1_2 : Int) (a1_3 : Int) (a1_4 : Int) (l1_5 : List (S37)) (l1_6 : List (S37)) : Option (Bool) := (hopmeshref25_Check.f a0_0 a0_1 a0_2 a0_3 a0_4 l0_5 l0_6).bind fun t173 => (if t173 = 0 then ((hopmeshref25_Check.f a1_0 a1_1 a1_2 a1_3 a1_4 l1_5 l1_6).bind fun t174 => (if t174 = 0 then (if a0_1 = true then (hopmeshref25_Answers.j0 k true a0_0 a0_1 a0_2 a0_3 a0_4 l0_5 l0_6 a1_0 a1_1 a1_2 a1_3 a1_4 l1_5 l1_6) else (if a1_1 = true then (if a0_0 = a1_0 then (hopmeshref25_Answers.j0 k (a0_2 != a1_2) a0_0 a0_1 a0_2 a0_3 a0_4 l0_5 l0_6 a1_0 a1_1 a1_2 a1_3 a1_4 l1_5 l1_6) else (hopmeshref25_Answers.j0 k true a0_0 a0_1 a0_2 a0_3 a0_4 l0_5 l0_6 a1_0 a1_1 a1_2 a1_3 a1_4 l1_5 l1_6)) else (hopmeshref25_Answers.j0 k true a0_0 a0_1 a0_2 a0_3 a0_4 l0_5 l0_6 a1_0 a1_1 a1_2 a1_3 a1_4 l1_5 l1_6))) else (hopmeshref25_Answers.j0 k true a0_0 a0_1 a0_2 a0_3 a0_4 l0_5 l0_6 a1_0 a1_1 a1_2 a1_3 a1_4 l1_5 l1_6))) else (hopmeshref25_Answers.j0 k true a0_0 a0_1 a0_2 a0_3 a0_4 l0_5 l0_6 a1_0 a1_1 a1_2 a1_3 a1_4 l1_5 l1_6))
set_option maxHeartbeats 8000000 in
set_option maxRecDepth 100000 in
theorem hopmeshref25_Answers.calls (k : Nat) (a0_0 : Int) (a0_1 : Bool) (a0_2 : Int) (a0_3 : Int) (a0_4 : Int) (A0_5 : Option Addr) (c0_5 : Nat) (l0_5 : List (S37)) (A0_6 : Option Addr) (c0_6 : Nat) (l0_6 : List (S37)) (a1_0 : Int) (a1_1 : Bool) (a1_2 : Int) (a1_3 : Int) (a1_4 : Int) (A1_5 : Option Addr) (c1_5 : Nat) (l1_5 : List (S37)) (A1_6 : Option Addr) (c1_6 : Nat) (l1_6 : List (S37)) (r : Bool) (w : World) (hr0_5 : Kd.C k37 w A0_5 l0_5.length l0_5) (hc0_5 : l0_5.length ≤ c0_5) (hr0_6 : Kd.C k37 w A0_6 l0_6.length l0_6) (hc0_6 : l0_6.length ≤ c0_6) (hr1_5 : Kd.C k37 w A1_5 l1_5.length l1_5) (hc1_5 : l1_5.length ≤ c1_5) (hr1_6 : Kd.C k37 w A1_6 l1_6.length l1_6) (hc1_6 : l1_6.length ≤ c1_6) (h : hopmeshref25_Answers.f k a0_0 a0_1 a0_2 a0_3 a0_4 l0_5 l0_6 a1_0 a1_1 a1_2 a1_3 a1_4 l1_5 l1_6 = some r) :
    Calls Try.prog 18 #[.agg #[.int .i64 a0_0, .bool a0_1, .int .i64 a0_2, .int .i64 a0_3, .int .i64 a0_4, .slice A0_5 l0_5.length c0_5, .slice A0_6 l0_6.length c0_6], .agg #[.int .i64 a1_0, .bool a1_1, .int .i64 a1_2, .int .i64 a1_3, .int .i64 a1_4, .slice A1_5 l1_5.length c1_5, .slice A1_6 l1_6.length c1_6]] w fun e w' => e = .returned (.bool r) ∧ Below w.heap.size w w' := by
  have hu24 := Try.underlying24
  have HR0_5 := Aside0.mk hr0_5
  have HC0_5 := Aside0.mk hc0_5
  clear hr0_5 hc0_5
  have HR0_6 := Aside0.mk hr0_6
  have HC0_6 := Aside0.mk hc0_6
  clear hr0_6 hc0_6
  have HR1_5 := Aside0.mk hr1_5
  have HC1_5 := Aside0.mk hc1_5
  clear hr1_5 hc1_5
  have HR1_6 := Aside0.mk hr1_6
  have HC1_6 := Aside0.mk hc1_6
  clear hr1_6 hc1_6
  have HB := Aside0.mk (Below.refl w.heap.size w)
  have H : ((hopmeshref25_Check.f a0_0 a0_1 a0_2 a0_3 a0_4 l0_5 l0_6).bind fun t173 => (if t173 = 0 then ((hopmeshref25_Check.f a1_0 a1_1 a1_2 a1_3 a1_4 l1_5 l1_6).bind fun t174 => (if t174 = 0 then (if a0_1 = true then (hopmeshref25_Answers.j0 k true a0_0 a0_1 a0_2 a0_3 a0_4 l0_5 l0_6 a1_0 a1_1 a1_2 a1_3 a1_4 l1_5 l1_6) else (if a1_1 = true then (if a0_0 = a1_0 then (hopmeshref25_Answers.j0 k (a0_2 != a1_2) a0_0 a0_1 a0_2 a0_3 a0_4 l0_5 l0_6 a1_0 a1_1 a1_2 a1_3 a1_4 l1_5 l1_6) else (hopmeshref25_Answers.j0 k true a0_0 a0_1 a0_2 a0_3 a0_4 l0_5 l0_6 a1_0 a1_1 a1_2 a1_3 a1_4 l1_5 l1_6)) else (hopmeshref25_Answers.j0 k true a0_0 a0_1 a0_2 a0_3 a0_4 l0_5 l0_6 a1_0 a1_1 a1_2 a1_3 a1_4 l1_5 l1_6))) else (hopmeshref25_Answers.j0 k true a0_0 a0_1 a0_2 a0_3 a0_4 l0_5 l0_6 a1_0 a1_1 a1_2 a1_3 a1_4 l1_5 l1_6))) else (hopmeshref25_Answers.j0 k true a0_0 a0_1 a0_2 a0_3 a0_4 l0_5 l0_6 a1_0 a1_1 a1_2 a1_3 a1_4 l1_5 l1_6))) = some r := h
  clear h
  have HC3 := Aside0.mk H
  clear H
  go_enter Try.func18, Try.ntmps18
  go_upto_region 1 with (first | ((with_reducible refine gate_dst (N := 2) rfl ?_); refine box_event ?hg (N := 2) ?hd (cs := #[.int .i64 a0_0, .bool a0_1, .int .i64 a0_2, .int .i64 a0_3, .int .i64 a0_4, .slice A0_5 l0_5.length c0_5, .slice A0_6 l0_6.length c0_6]) (t := 24) ?hr ?_; (case hd => rfl); (case hg => rfl); (case hr => first | (go_simp; done) | (go_simp; rfl)); intro gb171 hg w4 hbox hb; have n0_ := Aside0.mk (below_step (by repeat (first | (with_reducible first | exact HB.out | apply below_alloc | apply pw_below_drewN | apply below_drew1) | exact HB.out)) hb); have n1_ := Aside0.mk (hbox); have n2_ := Aside0.mk ((by rw [hg]; exact (below_size (by repeat (first | (with_reducible first | exact HB.out | apply below_alloc | apply pw_below_drewN | apply below_drew1) | exact HB.out))) : w.heap.size ≤ gb171)); have n3_ := Aside0.mk ((by rw [hg]; exact (below_size (by repeat (first | (with_reducible first | exact HB.out | apply below_alloc | apply pw_below_drewN | apply below_drew1) | exact HB.out))) : w.heap.size ≤ gb171)); clear HB; have HB := n0_; have BK171 := n1_; have GW171 := n2_; have GE171 := n3_; clear n0_ n1_ n2_ n3_; clear hb hbox hg) | ((with_reducible refine gate_dst (N := 3) rfl ?_); refine box_event ?hg (N := 3) ?hd (cs := #[.int .i64 a1_0, .bool a1_1, .int .i64 a1_2, .int .i64 a1_3, .int .i64 a1_4, .slice A1_5 l1_5.length c1_5, .slice A1_6 l1_6.length c1_6]) (t := 24) ?hr ?_; (case hd => rfl); (case hg => rfl); (case hr => first | (go_simp; done) | (go_simp; rfl)); intro gb172 hg w5 hbox hb; have n0_ := Aside0.mk (blk_below (g := gb171) (o := .cells #[.int .i64 a0_0, .bool a0_1, .int .i64 a0_2, .int .i64 a0_3, .int .i64 a0_4, .slice A0_5 l0_5.length c0_5, .slice A0_6 l0_6.length c0_6] 24 (0, 0)) (by (with_reducible repeat (first | refine blk_drewN ?_ _ | refine blk_drew ?_ | refine blk_alloc ?_ _)); exact BK171.out) hb); have n1_ := Aside0.mk (below_step (by repeat (first | (with_reducible first | exact HB.out | apply below_alloc | apply pw_below_drewN | apply below_drew1 | refine below_set ?_ GE171.out) | exact HB.out)) hb); have n2_ := Aside0.mk (hbox); have n3_ := Aside0.mk ((by rw [hg]; exact (below_size (by repeat (first | (with_reducible first | exact HB.out | apply below_alloc | apply pw_below_drewN | apply below_drew1 | refine below_set ?_ GE171.out) | exact HB.out))) : w.heap.size ≤ gb172)); have n4_ := Aside0.mk ((by rw [hg]; exact (below_size (by repeat (first | (with_reducible first | exact HB.out | apply below_alloc | apply pw_below_drewN | apply below_drew1 | refine below_set ?_ GE171.out) | exact HB.out))) : w.heap.size ≤ gb172)); have n5_ := Aside0.mk ((by rw [hg]; exact Nat.ne_of_lt (blk_lt (g := gb171) (o := .cells #[.int .i64 a0_0, .bool a0_1, .int .i64 a0_2, .int .i64 a0_3, .int .i64 a0_4, .slice A0_5 l0_5.length c0_5, .slice A0_6 l0_6.length c0_6] 24 (0, 0)) (by (with_reducible repeat (first | refine blk_drewN ?_ _ | refine blk_drew ?_ | refine blk_alloc ?_ _)); exact BK171.out)) : gb171 ≠ gb172)); have n6_ := Aside0.mk ((by rw [hg]; exact Nat.ne_of_gt (blk_lt (g := gb171) (o := .cells #[.int .i64 a0_0, .bool a0_1, .int .i64 a0_2, .int .i64 a0_3, .int .i64 a0_4, .slice A0_5 l0_5.length c0_5, .slice A0_6 l0_6.length c0_6] 24 (0, 0)) (by (with_reducible repeat (first | refine blk_drewN ?_ _ | refine blk_drew ?_ | refine blk_alloc ?_ _)); exact BK171.out)) : gb172 ≠ gb171)); clear BK171; clear HB; have BK171 := n0_; have HB := n1_; have BK172 := n2_; have GW172 := n3_; have GE172 := n4_; have NB171_172 := n5_; have NB172_171 := n6_; clear n0_ n1_ n2_ n3_ n4_ n5_ n6_; clear hb hbox hg))
  (try simp only [Act.put, List.setIfInBounds_toArray, List.set_cons_zero, List.set_cons_succ])
  go_cut [35] (fun v35 wc => ∃ (kq : Nat) (x35_2 : Bool), v35 = .bool x35_2 ∧ Aside0 (hopmeshref25_Answers.j0 kq x35_2 a0_0 a0_1 a0_2 a0_3 a0_4 l0_5 l0_6 a1_0 a1_1 a1_2 a1_3 a1_4 l1_5 l1_6 = some r) ∧ Aside0 (kq ≤ k) ∧ Aside0 (wc.heap[gb171]? = some (.cells #[.int .i64 a0_0, .bool a0_1, .int .i64 a0_2, .int .i64 a0_3, .int .i64 a0_4, (.slice A0_5 l0_5.length c0_5), (.slice A0_6 l0_6.length c0_6)] 24 (0, 0))) ∧ Aside0 (wc.heap[gb172]? = some (.cells #[.int .i64 a1_0, .bool a1_1, .int .i64 a1_2, .int .i64 a1_3, .int .i64 a1_4, (.slice A1_5 l1_5.length c1_5), (.slice A1_6 l1_6.length c1_6)] 24 (0, 0))) ∧ Aside0 (Below w.heap.size w wc))
  case first =>
    have H := HC3.out
    clear HC3
    replace H := Option.bind_eq_some_iff.mp H
    obtain ⟨t173, A60, H⟩ := H
    replace H : (if t173 = 0 then ((hopmeshref25_Check.f a1_0 a1_1 a1_2 a1_3 a1_4 l1_5 l1_6).bind fun t174 => (if t174 = 0 then (if a0_1 = true then (hopmeshref25_Answers.j0 k true a0_0 a0_1 a0_2 a0_3 a0_4 l0_5 l0_6 a1_0 a1_1 a1_2 a1_3 a1_4 l1_5 l1_6) else (if a1_1 = true then (if a0_0 = a1_0 then (hopmeshref25_Answers.j0 k (a0_2 != a1_2) a0_0 a0_1 a0_2 a0_3 a0_4 l0_5 l0_6 a1_0 a1_1 a1_2 a1_3 a1_4 l1_5 l1_6) else (hopmeshref25_Answers.j0 k true a0_0 a0_1 a0_2 a0_3 a0_4 l0_5 l0_6 a1_0 a1_1 a1_2 a1_3 a1_4 l1_5 l1_6)) else (hopmeshref25_Answers.j0 k true a0_0 a0_1 a0_2 a0_3 a0_4 l0_5 l0_6 a1_0 a1_1 a1_2 a1_3 a1_4 l1_5 l1_6))) else (hopmeshref25_Answers.j0 k true a0_0 a0_1 a0_2 a0_3 a0_4 l0_5 l0_6 a1_0 a1_1 a1_2 a1_3 a1_4 l1_5 l1_6))) else (hopmeshref25_Answers.j0 k true a0_0 a0_1 a0_2 a0_3 a0_4 l0_5 l0_6 a1_0 a1_1 a1_2 a1_3 a1_4 l1_5 l1_6)) = some r := H
    have A6 := Aside0.mk A60
    clear A60
    by_cases c7 : t173 = 0
    · rw [if_pos c7] at H
      have c7b0 : (t173 == 0) = true := beq_iff_eq.mpr c7
      have c7b1 : (t173 != 0) = false := bne_eq_false_iff_eq.mpr c7
      clear c7
      (first | rw [c7b0] | (simp only [i64_w, i32_w]; rw [c7b0]) | skip)
      replace H := Option.bind_eq_some_iff.mp H
      obtain ⟨t174, A80, H⟩ := H
      replace H : (if t174 = 0 then (if a0_1 = true then (hopmeshref25_Answers.j0 k true a0_0 a0_1 a0_2 a0_3 a0_4 l0_5 l0_6 a1_0 a1_1 a1_2 a1_3 a1_4 l1_5 l1_6) else (if a1_1 = true then (if a0_0 = a1_0 then (hopmeshref25_Answers.j0 k (a0_2 != a1_2) a0_0 a0_1 a0_2 a0_3 a0_4 l0_5 l0_6 a1_0 a1_1 a1_2 a1_3 a1_4 l1_5 l1_6) else (hopmeshref25_Answers.j0 k true a0_0 a0_1 a0_2 a0_3 a0_4 l0_5 l0_6 a1_0 a1_1 a1_2 a1_3 a1_4 l1_5 l1_6)) else (hopmeshref25_Answers.j0 k true a0_0 a0_1 a0_2 a0_3 a0_4 l0_5 l0_6 a1_0 a1_1 a1_2 a1_3 a1_4 l1_5 l1_6))) else (hopmeshref25_Answers.j0 k true a0_0 a0_1 a0_2 a0_3 a0_4 l0_5 l0_6 a1_0 a1_1 a1_2 a1_3 a1_4 l1_5 l1_6)) = some r := H
      have A8 := Aside0.mk A80
      clear A80
      by_cases c9 : t174 = 0
      · rw [if_pos c9] at H
        have c9b0 : (t174 == 0) = true := beq_iff_eq.mpr c9
        have c9b1 : (t174 != 0) = false := bne_eq_false_iff_eq.mpr c9
        clear c9
        by_cases c10 : a0_1 = true
        · subst c10
          have H1 : (hopmeshref25_Answers.j0 k true a0_0 true a0_2 a0_3 a0_4 l0_5 l0_6 a1_0 a1_1 a1_2 a1_3 a1_4 l1_5 l1_6) = some r := by rw [if_pos rfl] at H; exact H
          clear H
          have H := H1
          clear H1
          have H' := Aside0.mk H
          clear H
          have hnb11 := NB171_172.out
          have hnc11 := NB172_171.out
          have hcz12_0 : w5.cell? ⟨gb171, 0, none⟩ = some (.int .i64 a0_0) := (blk_cell BK171.out 0).trans rfl
          have hcz12_1 : w5.cell? ⟨gb171, 1, none⟩ = some (.bool true) := (blk_cell BK171.out 1).trans rfl
          have hcz12_2 : w5.cell? ⟨gb171, 2, none⟩ = some (.int .i64 a0_2) := (blk_cell BK171.out 2).trans rfl
          have hcz12_3 : w5.cell? ⟨gb171, 3, none⟩ = some (.int .i64 a0_3) := (blk_cell BK171.out 3).trans rfl
          have hcz12_4 : w5.cell? ⟨gb171, 4, none⟩ = some (.int .i64 a0_4) := (blk_cell BK171.out 4).trans rfl
          have hcz12_5 : w5.cell? ⟨gb171, 5, none⟩ = some (.slice A0_5 l0_5.length c0_5) := (blk_cell BK171.out 5).trans rfl
          have hcz12_6 : w5.cell? ⟨gb171, 6, none⟩ = some (.slice A0_6 l0_6.length c0_6) := (blk_cell BK171.out 6).trans rfl
          have hfz12_0 := blk_frozen BK171.out 0
          have hfz12_1 := blk_frozen BK171.out 1
          have hfz12_2 := blk_frozen BK171.out 2
          have hfz12_3 := blk_frozen BK171.out 3
          have hfz12_4 := blk_frozen BK171.out 4
          have hfz12_5 := blk_frozen BK171.out 5
          have hfz12_6 := blk_frozen BK171.out 6
          go_wp2_with (first | ((with_reducible refine gate_callee (f := 14) rfl ?_); refine goesL_ (some 6) rfl rfl Try.func14 (by kernel_rfl) rfl #[.agg #[.int .i64 a0_0, .bool true, .int .i64 a0_2, .int .i64 a0_3, .int .i64 a0_4, .slice A0_5 l0_5.length c0_5, .slice A0_6 l0_6.length c0_6]] rfl (by (try simp only [List.map_toArray, List.map_cons, List.map_nil]); first | done | rfl | (simp only [List.length_drop, List.length_take]; rfl)) ?_; (with_reducible refine (hopmeshref25_Check.calls a0_0 true a0_2 a0_3 a0_4 _ _ l0_5 _ _ l0_6 t173 _ ?side1 ?side2 ?side3 ?side4 A6.out).mono ?_); (case side1 => repeat (first | exact (Kd.C_below HR0_5.out HB.out) | (with_reducible refine Kd.C_alloc ?_ _) | (with_reducible refine Kd.C_drewN ?_ _) | (with_reducible refine Kd.C_drew ?_))); (case side2 => exact HC0_5.out); (case side3 => repeat (first | exact (Kd.C_below HR0_6.out HB.out) | (with_reducible refine Kd.C_alloc ?_ _) | (with_reducible refine Kd.C_drewN ?_ _) | (with_reducible refine Kd.C_drew ?_))); (case side4 => exact HC0_6.out); rintro e w13 ⟨rfl, hb⟩; refine ⟨_, rfl, ?_⟩; have n0_ := Aside0.mk (blk_below (g := gb171) (o := .cells #[.int .i64 a0_0, .bool true, .int .i64 a0_2, .int .i64 a0_3, .int .i64 a0_4, .slice A0_5 l0_5.length c0_5, .slice A0_6 l0_6.length c0_6] 24 (0, 0)) (by (with_reducible repeat (first | refine blk_drewN ?_ _ | refine blk_drew ?_ | refine blk_alloc ?_ _)); exact BK171.out) hb); have n1_ := Aside0.mk (blk_below (g := gb172) (o := .cells #[.int .i64 a1_0, .bool a1_1, .int .i64 a1_2, .int .i64 a1_3, .int .i64 a1_4, .slice A1_5 l1_5.length c1_5, .slice A1_6 l1_6.length c1_6] 24 (0, 0)) (by (with_reducible repeat (first | refine blk_drewN ?_ _ | refine blk_drew ?_ | refine blk_alloc ?_ _)); exact BK172.out) hb); have n2_ := Aside0.mk (below_step (by repeat (first | (with_reducible first | exact HB.out | apply below_alloc | apply pw_below_drewN | apply below_drew1 | refine below_set ?_ GE171.out | refine below_set ?_ GE172.out) | exact HB.out)) hb); clear BK171; clear BK172; clear HB; have BK171 := n0_; have BK172 := n1_; have HB := n2_; clear n0_ n1_ n2_; (try clear hb); (try clear hb2); (try clear hk); (try clear hi); have hcz14_0 : w13.cell? ⟨gb172, 0, none⟩ = some (.int .i64 a1_0) := (blk_cell BK172.out 0).trans rfl; have hcz14_1 : w13.cell? ⟨gb172, 1, none⟩ = some (.bool a1_1) := (blk_cell BK172.out 1).trans rfl; have hcz14_2 : w13.cell? ⟨gb172, 2, none⟩ = some (.int .i64 a1_2) := (blk_cell BK172.out 2).trans rfl; have hcz14_3 : w13.cell? ⟨gb172, 3, none⟩ = some (.int .i64 a1_3) := (blk_cell BK172.out 3).trans rfl; have hcz14_4 : w13.cell? ⟨gb172, 4, none⟩ = some (.int .i64 a1_4) := (blk_cell BK172.out 4).trans rfl; have hcz14_5 : w13.cell? ⟨gb172, 5, none⟩ = some (.slice A1_5 l1_5.length c1_5) := (blk_cell BK172.out 5).trans rfl; have hcz14_6 : w13.cell? ⟨gb172, 6, none⟩ = some (.slice A1_6 l1_6.length c1_6) := (blk_cell BK172.out 6).trans rfl; have hfz14_0 := blk_frozen BK172.out 0; have hfz14_1 := blk_frozen BK172.out 1; have hfz14_2 := blk_frozen BK172.out 2; have hfz14_3 := blk_frozen BK172.out 3; have hfz14_4 := blk_frozen BK172.out 4; have hfz14_5 := blk_frozen BK172.out 5; have hfz14_6 := blk_frozen BK172.out 6) | (go_at_call 14; (with_reducible refine (hopmeshref25_Check.calls a1_0 a1_1 a1_2 a1_3 a1_4 _ _ l1_5 _ _ l1_6 t174 _ ?side1 ?side2 ?side3 ?side4 A8.out).mono ?_); (case side1 => repeat (first | exact (Kd.C_below HR1_5.out HB.out) | (with_reducible refine Kd.C_alloc ?_ _) | (with_reducible refine Kd.C_drewN ?_ _) | (with_reducible refine Kd.C_drew ?_))); (case side2 => exact HC1_5.out); (case side3 => repeat (first | exact (Kd.C_below HR1_6.out HB.out) | (with_reducible refine Kd.C_alloc ?_ _) | (with_reducible refine Kd.C_drewN ?_ _) | (with_reducible refine Kd.C_drew ?_))); (case side4 => exact HC1_6.out); rintro e w15 ⟨rfl, hb⟩; have n0_ := Aside0.mk (blk_below (g := gb171) (o := .cells #[.int .i64 a0_0, .bool true, .int .i64 a0_2, .int .i64 a0_3, .int .i64 a0_4, .slice A0_5 l0_5.length c0_5, .slice A0_6 l0_6.length c0_6] 24 (0, 0)) (by (with_reducible repeat (first | refine blk_drewN ?_ _ | refine blk_drew ?_ | refine blk_alloc ?_ _)); exact BK171.out) hb); have n1_ := Aside0.mk (blk_below (g := gb172) (o := .cells #[.int .i64 a1_0, .bool a1_1, .int .i64 a1_2, .int .i64 a1_3, .int .i64 a1_4, .slice A1_5 l1_5.length c1_5, .slice A1_6 l1_6.length c1_6] 24 (0, 0)) (by (with_reducible repeat (first | refine blk_drewN ?_ _ | refine blk_drew ?_ | refine blk_alloc ?_ _)); exact BK172.out) hb); have n2_ := Aside0.mk (below_step (by repeat (first | (with_reducible first | exact HB.out | apply below_alloc | apply pw_below_drewN | apply below_drew1 | refine below_set ?_ GE171.out | refine below_set ?_ GE172.out) | exact HB.out)) hb); clear BK171; clear BK172; clear HB; have BK171 := n0_; have BK172 := n1_; have HB := n2_; clear n0_ n1_ n2_; (try clear hb); (try clear hb2); (try clear hk); (try clear hi); have hcz16_0 : w15.cell? ⟨gb171, 0, none⟩ = some (.int .i64 a0_0) := (blk_cell BK171.out 0).trans rfl; have hcz16_1 : w15.cell? ⟨gb171, 1, none⟩ = some (.bool true) := (blk_cell BK171.out 1).trans rfl; have hcz16_2 : w15.cell? ⟨gb171, 2, none⟩ = some (.int .i64 a0_2) := (blk_cell BK171.out 2).trans rfl; have hcz16_3 : w15.cell? ⟨gb171, 3, none⟩ = some (.int .i64 a0_3) := (blk_cell BK171.out 3).trans rfl; have hcz16_4 : w15.cell? ⟨gb171, 4, none⟩ = some (.int .i64 a0_4) := (blk_cell BK171.out 4).trans rfl; have hcz16_5 : w15.cell? ⟨gb171, 5, none⟩ = some (.slice A0_5 l0_5.length c0_5) := (blk_cell BK171.out 5).trans rfl; have hcz16_6 : w15.cell? ⟨gb171, 6, none⟩ = some (.slice A0_6 l0_6.length c0_6) := (blk_cell BK171.out 6).trans rfl; have hfz16_0 := blk_frozen BK171.out 0; have hfz16_1 := blk_frozen BK171.out 1; have hfz16_2 := blk_frozen BK171.out 2; have hfz16_3 := blk_frozen BK171.out 3; have hfz16_4 := blk_frozen BK171.out 4; have hfz16_5 := blk_frozen BK171.out 5; have hfz16_6 := blk_frozen BK171.out 6))
          go_meet
          case rel => exact ⟨_, (true), (by first | rfl | (simp; done) | (simp [*]; done)), H', ⟨by first | omega | exact Nat.le_refl _⟩, ⟨by (with_reducible repeat (first | refine blk_drewN ?_ _ | refine blk_drew ?_ | refine blk_alloc ?_ _)); exact BK171.out⟩, ⟨by (with_reducible repeat (first | refine blk_drewN ?_ _ | refine blk_drew ?_ | refine blk_alloc ?_ _)); exact BK172.out⟩, ⟨by repeat (first | (with_reducible first | exact HB.out | apply below_alloc | apply pw_below_drewN | apply below_drew1 | refine below_set ?_ GE171.out | refine below_set ?_ GE172.out) | exact HB.out)⟩⟩
        · replace c10 := Bool.eq_false_iff.mpr c10
          subst c10
          have H1 : (if a1_1 = true then (if a0_0 = a1_0 then (hopmeshref25_Answers.j0 k (a0_2 != a1_2) a0_0 false a0_2 a0_3 a0_4 l0_5 l0_6 a1_0 a1_1 a1_2 a1_3 a1_4 l1_5 l1_6) else (hopmeshref25_Answers.j0 k true a0_0 false a0_2 a0_3 a0_4 l0_5 l0_6 a1_0 a1_1 a1_2 a1_3 a1_4 l1_5 l1_6)) else (hopmeshref25_Answers.j0 k true a0_0 false a0_2 a0_3 a0_4 l0_5 l0_6 a1_0 a1_1 a1_2 a1_3 a1_4 l1_5 l1_6)) = some r := by rw [if_neg (show ¬ (false = true) by decide)] at H; exact H
          clear H
          have H := H1
          clear H1
          by_cases c17 : a1_1 = true
          · subst c17
            have H1 : (if a0_0 = a1_0 then (hopmeshref25_Answers.j0 k (a0_2 != a1_2) a0_0 false a0_2 a0_3 a0_4 l0_5 l0_6 a1_0 true a1_2 a1_3 a1_4 l1_5 l1_6) else (hopmeshref25_Answers.j0 k true a0_0 false a0_2 a0_3 a0_4 l0_5 l0_6 a1_0 true a1_2 a1_3 a1_4 l1_5 l1_6)) = some r := by rw [if_pos rfl] at H; exact H
            clear H
            have H := H1
            clear H1
            by_cases c18 : a0_0 = a1_0
            · rw [if_pos c18] at H
              have c18b0 : (a0_0 == a1_0) = true := beq_iff_eq.mpr c18
              have c18b1 : (a0_0 != a1_0) = false := bne_eq_false_iff_eq.mpr c18
              clear c18
              have H' := Aside0.mk H
              clear H
              have hnb19 := NB171_172.out
              have hnc19 := NB172_171.out
              have hcz20_0 : w5.cell? ⟨gb171, 0, none⟩ = some (.int .i64 a0_0) := (blk_cell BK171.out 0).trans rfl
              have hcz20_1 : w5.cell? ⟨gb171, 1, none⟩ = some (.bool false) := (blk_cell BK171.out 1).trans rfl
              have hcz20_2 : w5.cell? ⟨gb171, 2, none⟩ = some (.int .i64 a0_2) := (blk_cell BK171.out 2).trans rfl
              have hcz20_3 : w5.cell? ⟨gb171, 3, none⟩ = some (.int .i64 a0_3) := (blk_cell BK171.out 3).trans rfl
              have hcz20_4 : w5.cell? ⟨gb171, 4, none⟩ = some (.int .i64 a0_4) := (blk_cell BK171.out 4).trans rfl
              have hcz20_5 : w5.cell? ⟨gb171, 5, none⟩ = some (.slice A0_5 l0_5.length c0_5) := (blk_cell BK171.out 5).trans rfl
              have hcz20_6 : w5.cell? ⟨gb171, 6, none⟩ = some (.slice A0_6 l0_6.length c0_6) := (blk_cell BK171.out 6).trans rfl
              have hfz20_0 := blk_frozen BK171.out 0
              have hfz20_1 := blk_frozen BK171.out 1
              have hfz20_2 := blk_frozen BK171.out 2
              have hfz20_3 := blk_frozen BK171.out 3
              have hfz20_4 := blk_frozen BK171.out 4
              have hfz20_5 := blk_frozen BK171.out 5
              have hfz20_6 := blk_frozen BK171.out 6
              go_wp2_with (first | ((with_reducible refine gate_callee (f := 14) rfl ?_); refine goesL_ (some 6) rfl rfl Try.func14 (by kernel_rfl) rfl #[.agg #[.int .i64 a0_0, .bool false, .int .i64 a0_2, .int .i64 a0_3, .int .i64 a0_4, .slice A0_5 l0_5.length c0_5, .slice A0_6 l0_6.length c0_6]] rfl (by (try simp only [List.map_toArray, List.map_cons, List.map_nil]); first | done | rfl | (simp only [List.length_drop, List.length_take]; rfl)) ?_; (with_reducible refine (hopmeshref25_Check.calls a0_0 false a0_2 a0_3 a0_4 _ _ l0_5 _ _ l0_6 t173 _ ?side1 ?side2 ?side3 ?side4 A6.out).mono ?_); (case side1 => repeat (first | exact (Kd.C_below HR0_5.out HB.out) | (with_reducible refine Kd.C_alloc ?_ _) | (with_reducible refine Kd.C_drewN ?_ _) | (with_reducible refine Kd.C_drew ?_))); (case side2 => exact HC0_5.out); (case side3 => repeat (first | exact (Kd.C_below HR0_6.out HB.out) | (with_reducible refine Kd.C_alloc ?_ _) | (with_reducible refine Kd.C_drewN ?_ _) | (with_reducible refine Kd.C_drew ?_))); (case side4 => exact HC0_6.out); rintro e w21 ⟨rfl, hb⟩; refine ⟨_, rfl, ?_⟩; have n0_ := Aside0.mk (blk_below (g := gb171) (o := .cells #[.int .i64 a0_0, .bool false, .int .i64 a0_2, .int .i64 a0_3, .int .i64 a0_4, .slice A0_5 l0_5.length c0_5, .slice A0_6 l0_6.length c0_6] 24 (0, 0)) (by (with_reducible repeat (first | refine blk_drewN ?_ _ | refine blk_drew ?_ | refine blk_alloc ?_ _)); exact BK171.out) hb); have n1_ := Aside0.mk (blk_below (g := gb172) (o := .cells #[.int .i64 a1_0, .bool true, .int .i64 a1_2, .int .i64 a1_3, .int .i64 a1_4, .slice A1_5 l1_5.length c1_5, .slice A1_6 l1_6.length c1_6] 24 (0, 0)) (by (with_reducible repeat (first | refine blk_drewN ?_ _ | refine blk_drew ?_ | refine blk_alloc ?_ _)); exact BK172.out) hb); have n2_ := Aside0.mk (below_step (by repeat (first | (with_reducible first | exact HB.out | apply below_alloc | apply pw_below_drewN | apply below_drew1 | refine below_set ?_ GE171.out | refine below_set ?_ GE172.out) | exact HB.out)) hb); clear BK171; clear BK172; clear HB; have BK171 := n0_; have BK172 := n1_; have HB := n2_; clear n0_ n1_ n2_; (try clear hb); (try clear hb2); (try clear hk); (try clear hi); have hcz22_0 : w21.cell? ⟨gb172, 0, none⟩ = some (.int .i64 a1_0) := (blk_cell BK172.out 0).trans rfl; have hcz22_1 : w21.cell? ⟨gb172, 1, none⟩ = some (.bool true) := (blk_cell BK172.out 1).trans rfl; have hcz22_2 : w21.cell? ⟨gb172, 2, none⟩ = some (.int .i64 a1_2) := (blk_cell BK172.out 2).trans rfl; have hcz22_3 : w21.cell? ⟨gb172, 3, none⟩ = some (.int .i64 a1_3) := (blk_cell BK172.out 3).trans rfl; have hcz22_4 : w21.cell? ⟨gb172, 4, none⟩ = some (.int .i64 a1_4) := (blk_cell BK172.out 4).trans rfl; have hcz22_5 : w21.cell? ⟨gb172, 5, none⟩ = some (.slice A1_5 l1_5.length c1_5) := (blk_cell BK172.out 5).trans rfl; have hcz22_6 : w21.cell? ⟨gb172, 6, none⟩ = some (.slice A1_6 l1_6.length c1_6) := (blk_cell BK172.out 6).trans rfl; have hfz22_0 := blk_frozen BK172.out 0; have hfz22_1 := blk_frozen BK172.out 1; have hfz22_2 := blk_frozen BK172.out 2; have hfz22_3 := blk_frozen BK172.out 3; have hfz22_4 := blk_frozen BK172.out 4; have hfz22_5 := blk_frozen BK172.out 5; have hfz22_6 := blk_frozen BK172.out 6) | (go_at_call 14; (with_reducible refine (hopmeshref25_Check.calls a1_0 true a1_2 a1_3 a1_4 _ _ l1_5 _ _ l1_6 t174 _ ?side1 ?side2 ?side3 ?side4 A8.out).mono ?_); (case side1 => repeat (first | exact (Kd.C_below HR1_5.out HB.out) | (with_reducible refine Kd.C_alloc ?_ _) | (with_reducible refine Kd.C_drewN ?_ _) | (with_reducible refine Kd.C_drew ?_))); (case side2 => exact HC1_5.out); (case side3 => repeat (first | exact (Kd.C_below HR1_6.out HB.out) | (with_reducible refine Kd.C_alloc ?_ _) | (with_reducible refine Kd.C_drewN ?_ _) | (with_reducible refine Kd.C_drew ?_))); (case side4 => exact HC1_6.out); rintro e w23 ⟨rfl, hb⟩; have n0_ := Aside0.mk (blk_below (g := gb171) (o := .cells #[.int .i64 a0_0, .bool false, .int .i64 a0_2, .int .i64 a0_3, .int .i64 a0_4, .slice A0_5 l0_5.length c0_5, .slice A0_6 l0_6.length c0_6] 24 (0, 0)) (by (with_reducible repeat (first | refine blk_drewN ?_ _ | refine blk_drew ?_ | refine blk_alloc ?_ _)); exact BK171.out) hb); have n1_ := Aside0.mk (blk_below (g := gb172) (o := .cells #[.int .i64 a1_0, .bool true, .int .i64 a1_2, .int .i64 a1_3, .int .i64 a1_4, .slice A1_5 l1_5.length c1_5, .slice A1_6 l1_6.length c1_6] 24 (0, 0)) (by (with_reducible repeat (first | refine blk_drewN ?_ _ | refine blk_drew ?_ | refine blk_alloc ?_ _)); exact BK172.out) hb); have n2_ := Aside0.mk (below_step (by repeat (first | (with_reducible first | exact HB.out | apply below_alloc | apply pw_below_drewN | apply below_drew1 | refine below_set ?_ GE171.out | refine below_set ?_ GE172.out) | exact HB.out)) hb); clear BK171; clear BK172; clear HB; have BK171 := n0_; have BK172 := n1_; have HB := n2_; clear n0_ n1_ n2_; (try clear hb); (try clear hb2); (try clear hk); (try clear hi); have hcz24_0 : w23.cell? ⟨gb171, 0, none⟩ = some (.int .i64 a0_0) := (blk_cell BK171.out 0).trans rfl; have hcz24_1 : w23.cell? ⟨gb171, 1, none⟩ = some (.bool false) := (blk_cell BK171.out 1).trans rfl; have hcz24_2 : w23.cell? ⟨gb171, 2, none⟩ = some (.int .i64 a0_2) := (blk_cell BK171.out 2).trans rfl; have hcz24_3 : w23.cell? ⟨gb171, 3, none⟩ = some (.int .i64 a0_3) := (blk_cell BK171.out 3).trans rfl; have hcz24_4 : w23.cell? ⟨gb171, 4, none⟩ = some (.int .i64 a0_4) := (blk_cell BK171.out 4).trans rfl; have hcz24_5 : w23.cell? ⟨gb171, 5, none⟩ = some (.slice A0_5 l0_5.length c0_5) := (blk_cell BK171.out 5).trans rfl; have hcz24_6 : w23.cell? ⟨gb171, 6, none⟩ = some (.slice A0_6 l0_6.length c0_6) := (blk_cell BK171.out 6).trans rfl; have hfz24_0 := blk_frozen BK171.out 0; have hfz24_1 := blk_frozen BK171.out 1; have hfz24_2 := blk_frozen BK171.out 2; have hfz24_3 := blk_frozen BK171.out 3; have hfz24_4 := blk_frozen BK171.out 4; have hfz24_5 := blk_frozen BK171.out 5; have hfz24_6 := blk_frozen BK171.out 6; have hcz25_0 : w23.cell? ⟨gb172, 0, none⟩ = some (.int .i64 a1_0) := (blk_cell BK172.out 0).trans rfl; have hcz25_1 : w23.cell? ⟨gb172, 1, none⟩ = some (.bool true) := (blk_cell BK172.out 1).trans rfl; have hcz25_2 : w23.cell? ⟨gb172, 2, none⟩ = some (.int .i64 a1_2) := (blk_cell BK172.out 2).trans rfl; have hcz25_3 : w23.cell? ⟨gb172, 3, none⟩ = some (.int .i64 a1_3) := (blk_cell BK172.out 3).trans rfl; have hcz25_4 : w23.cell? ⟨gb172, 4, none⟩ = some (.int .i64 a1_4) := (blk_cell BK172.out 4).trans rfl; have hcz25_5 : w23.cell? ⟨gb172, 5, none⟩ = some (.slice A1_5 l1_5.length c1_5) := (blk_cell BK172.out 5).trans rfl; have hcz25_6 : w23.cell? ⟨gb172, 6, none⟩ = some (.slice A1_6 l1_6.length c1_6) := (blk_cell BK172.out 6).trans rfl; have hfz25_0 := blk_frozen BK172.out 0; have hfz25_1 := blk_frozen BK172.out 1; have hfz25_2 := blk_frozen BK172.out 2; have hfz25_3 := blk_frozen BK172.out 3; have hfz25_4 := blk_frozen BK172.out 4; have hfz25_5 := blk_frozen BK172.out 5; have hfz25_6 := blk_frozen BK172.out 6))
              go_meet
              case rel => exact ⟨_, ((a0_2 != a1_2)), (by first | rfl | (simp; done) | (simp [*]; done)), H', ⟨by first | omega | exact Nat.le_refl _⟩, ⟨by (with_reducible repeat (first | refine blk_drewN ?_ _ | refine blk_drew ?_ | refine blk_alloc ?_ _)); exact BK171.out⟩, ⟨by (with_reducible repeat (first | refine blk_drewN ?_ _ | refine blk_drew ?_ | refine blk_alloc ?_ _)); exact BK172.out⟩, ⟨by repeat (first | (with_reducible first | exact HB.out | apply below_alloc | apply pw_below_drewN | apply below_drew1 | refine below_set ?_ GE171.out | refine below_set ?_ GE172.out) | exact HB.out)⟩⟩
            · rw [if_neg c18] at H
              have c18b0 : (a0_0 == a1_0) = false := beq_eq_false_iff_ne.mpr c18
              have c18b1 : (a0_0 != a1_0) = true := bne_iff_ne.mpr c18
              have H' := Aside0.mk H
              clear H
              have hnb26 := NB171_172.out
              have hnc26 := NB172_171.out
              have hcz27_0 : w5.cell? ⟨gb171, 0, none⟩ = some (.int .i64 a0_0) := (blk_cell BK171.out 0).trans rfl
              have hcz27_1 : w5.cell? ⟨gb171, 1, none⟩ = some (.bool false) := (blk_cell BK171.out 1).trans rfl
              have hcz27_2 : w5.cell? ⟨gb171, 2, none⟩ = some (.int .i64 a0_2) := (blk_cell BK171.out 2).trans rfl
              have hcz27_3 : w5.cell? ⟨gb171, 3, none⟩ = some (.int .i64 a0_3) := (blk_cell BK171.out 3).trans rfl
              have hcz27_4 : w5.cell? ⟨gb171, 4, none⟩ = some (.int .i64 a0_4) := (blk_cell BK171.out 4).trans rfl
              have hcz27_5 : w5.cell? ⟨gb171, 5, none⟩ = some (.slice A0_5 l0_5.length c0_5) := (blk_cell BK171.out 5).trans rfl
              have hcz27_6 : w5.cell? ⟨gb171, 6, none⟩ = some (.slice A0_6 l0_6.length c0_6) := (blk_cell BK171.out 6).trans rfl
              have hfz27_0 := blk_frozen BK171.out 0
              have hfz27_1 := blk_frozen BK171.out 1
              have hfz27_2 := blk_frozen BK171.out 2
              have hfz27_3 := blk_frozen BK171.out 3
              have hfz27_4 := blk_frozen BK171.out 4
              have hfz27_5 := blk_frozen BK171.out 5
              have hfz27_6 := blk_frozen BK171.out 6
              go_wp2_with (first | ((with_reducible refine gate_callee (f := 14) rfl ?_); refine goesL_ (some 6) rfl rfl Try.func14 (by kernel_rfl) rfl #[.agg #[.int .i64 a0_0, .bool false, .int .i64 a0_2, .int .i64 a0_3, .int .i64 a0_4, .slice A0_5 l0_5.length c0_5, .slice A0_6 l0_6.length c0_6]] rfl (by (try simp only [List.map_toArray, List.map_cons, List.map_nil]); first | done | rfl | (simp only [List.length_drop, List.length_take]; rfl)) ?_; (with_reducible refine (hopmeshref25_Check.calls a0_0 false a0_2 a0_3 a0_4 _ _ l0_5 _ _ l0_6 t173 _ ?side1 ?side2 ?side3 ?side4 A6.out).mono ?_); (case side1 => repeat (first | exact (Kd.C_below HR0_5.out HB.out) | (with_reducible refine Kd.C_alloc ?_ _) | (with_reducible refine Kd.C_drewN ?_ _) | (with_reducible refine Kd.C_drew ?_))); (case side2 => exact HC0_5.out); (case side3 => repeat (first | exact (Kd.C_below HR0_6.out HB.out) | (with_reducible refine Kd.C_alloc ?_ _) | (with_reducible refine Kd.C_drewN ?_ _) | (with_reducible refine Kd.C_drew ?_))); (case side4 => exact HC0_6.out); rintro e w28 ⟨rfl, hb⟩; refine ⟨_, rfl, ?_⟩; have n0_ := Aside0.mk (blk_below (g := gb171) (o := .cells #[.int .i64 a0_0, .bool false, .int .i64 a0_2, .int .i64 a0_3, .int .i64 a0_4, .slice A0_5 l0_5.length c0_5, .slice A0_6 l0_6.length c0_6] 24 (0, 0)) (by (with_reducible repeat (first | refine blk_drewN ?_ _ | refine blk_drew ?_ | refine blk_alloc ?_ _)); exact BK171.out) hb); have n1_ := Aside0.mk (blk_below (g := gb172) (o := .cells #[.int .i64 a1_0, .bool true, .int .i64 a1_2, .int .i64 a1_3, .int .i64 a1_4, .slice A1_5 l1_5.length c1_5, .slice A1_6 l1_6.length c1_6] 24 (0, 0)) (by (with_reducible repeat (first | refine blk_drewN ?_ _ | refine blk_drew ?_ | refine blk_alloc ?_ _)); exact BK172.out) hb); have n2_ := Aside0.mk (below_step (by repeat (first | (with_reducible first | exact HB.out | apply below_alloc | apply pw_below_drewN | apply below_drew1 | refine below_set ?_ GE171.out | refine below_set ?_ GE172.out) | exact HB.out)) hb); clear BK171; clear BK172; clear HB; have BK171 := n0_; have BK172 := n1_; have HB := n2_; clear n0_ n1_ n2_; (try clear hb); (try clear hb2); (try clear hk); (try clear hi); have hcz29_0 : w28.cell? ⟨gb172, 0, none⟩ = some (.int .i64 a1_0) := (blk_cell BK172.out 0).trans rfl; have hcz29_1 : w28.cell? ⟨gb172, 1, none⟩ = some (.bool true) := (blk_cell BK172.out 1).trans rfl; have hcz29_2 : w28.cell? ⟨gb172, 2, none⟩ = some (.int .i64 a1_2) := (blk_cell BK172.out 2).trans rfl; have hcz29_3 : w28.cell? ⟨gb172, 3, none⟩ = some (.int .i64 a1_3) := (blk_cell BK172.out 3).trans rfl; have hcz29_4 : w28.cell? ⟨gb172, 4, none⟩ = some (.int .i64 a1_4) := (blk_cell BK172.out 4).trans rfl; have hcz29_5 : w28.cell? ⟨gb172, 5, none⟩ = some (.slice A1_5 l1_5.length c1_5) := (blk_cell BK172.out 5).trans rfl; have hcz29_6 : w28.cell? ⟨gb172, 6, none⟩ = some (.slice A1_6 l1_6.length c1_6) := (blk_cell BK172.out 6).trans rfl; have hfz29_0 := blk_frozen BK172.out 0; have hfz29_1 := blk_frozen BK172.out 1; have hfz29_2 := blk_frozen BK172.out 2; have hfz29_3 := blk_frozen BK172.out 3; have hfz29_4 := blk_frozen BK172.out 4; have hfz29_5 := blk_frozen BK172.out 5; have hfz29_6 := blk_frozen BK172.out 6) | (go_at_call 14; (with_reducible refine (hopmeshref25_Check.calls a1_0 true a1_2 a1_3 a1_4 _ _ l1_5 _ _ l1_6 t174 _ ?side1 ?side2 ?side3 ?side4 A8.out).mono ?_); (case side1 => repeat (first | exact (Kd.C_below HR1_5.out HB.out) | (with_reducible refine Kd.C_alloc ?_ _) | (with_reducible refine Kd.C_drewN ?_ _) | (with_reducible refine Kd.C_drew ?_))); (case side2 => exact HC1_5.out); (case side3 => repeat (first | exact (Kd.C_below HR1_6.out HB.out) | (with_reducible refine Kd.C_alloc ?_ _) | (with_reducible refine Kd.C_drewN ?_ _) | (with_reducible refine Kd.C_drew ?_))); (case side4 => exact HC1_6.out); rintro e w30 ⟨rfl, hb⟩; have n0_ := Aside0.mk (blk_below (g := gb171) (o := .cells #[.int .i64 a0_0, .bool false, .int .i64 a0_2, .int .i64 a0_3, .int .i64 a0_4, .slice A0_5 l0_5.length c0_5, .slice A0_6 l0_6.length c0_6] 24 (0, 0)) (by (with_reducible repeat (first | refine blk_drewN ?_ _ | refine blk_drew ?_ | refine blk_alloc ?_ _)); exact BK171.out) hb); have n1_ := Aside0.mk (blk_below (g := gb172) (o := .cells #[.int .i64 a1_0, .bool true, .int .i64 a1_2, .int .i64 a1_3, .int .i64 a1_4, .slice A1_5 l1_5.length c1_5, .slice A1_6 l1_6.length c1_6] 24 (0, 0)) (by (with_reducible repeat (first | refine blk_drewN ?_ _ | refine blk_drew ?_ | refine blk_alloc ?_ _)); exact BK172.out) hb); have n2_ := Aside0.mk (below_step (by repeat (first | (with_reducible first | exact HB.out | apply below_alloc | apply pw_below_drewN | apply below_drew1 | refine below_set ?_ GE171.out | refine below_set ?_ GE172.out) | exact HB.out)) hb); clear BK171; clear BK172; clear HB; have BK171 := n0_; have BK172 := n1_; have HB := n2_; clear n0_ n1_ n2_; (try clear hb); (try clear hb2); (try clear hk); (try clear hi); have hcz31_0 : w30.cell? ⟨gb171, 0, none⟩ = some (.int .i64 a0_0) := (blk_cell BK171.out 0).trans rfl; have hcz31_1 : w30.cell? ⟨gb171, 1, none⟩ = some (.bool false) := (blk_cell BK171.out 1).trans rfl; have hcz31_2 : w30.cell? ⟨gb171, 2, none⟩ = some (.int .i64 a0_2) := (blk_cell BK171.out 2).trans rfl; have hcz31_3 : w30.cell? ⟨gb171, 3, none⟩ = some (.int .i64 a0_3) := (blk_cell BK171.out 3).trans rfl; have hcz31_4 : w30.cell? ⟨gb171, 4, none⟩ = some (.int .i64 a0_4) := (blk_cell BK171.out 4).trans rfl; have hcz31_5 : w30.cell? ⟨gb171, 5, none⟩ = some (.slice A0_5 l0_5.length c0_5) := (blk_cell BK171.out 5).trans rfl; have hcz31_6 : w30.cell? ⟨gb171, 6, none⟩ = some (.slice A0_6 l0_6.length c0_6) := (blk_cell BK171.out 6).trans rfl; have hfz31_0 := blk_frozen BK171.out 0; have hfz31_1 := blk_frozen BK171.out 1; have hfz31_2 := blk_frozen BK171.out 2; have hfz31_3 := blk_frozen BK171.out 3; have hfz31_4 := blk_frozen BK171.out 4; have hfz31_5 := blk_frozen BK171.out 5; have hfz31_6 := blk_frozen BK171.out 6; have hcz32_0 : w30.cell? ⟨gb172, 0, none⟩ = some (.int .i64 a1_0) := (blk_cell BK172.out 0).trans rfl; have hcz32_1 : w30.cell? ⟨gb172, 1, none⟩ = some (.bool true) := (blk_cell BK172.out 1).trans rfl; have hcz32_2 : w30.cell? ⟨gb172, 2, none⟩ = some (.int .i64 a1_2) := (blk_cell BK172.out 2).trans rfl; have hcz32_3 : w30.cell? ⟨gb172, 3, none⟩ = some (.int .i64 a1_3) := (blk_cell BK172.out 3).trans rfl; have hcz32_4 : w30.cell? ⟨gb172, 4, none⟩ = some (.int .i64 a1_4) := (blk_cell BK172.out 4).trans rfl; have hcz32_5 : w30.cell? ⟨gb172, 5, none⟩ = some (.slice A1_5 l1_5.length c1_5) := (blk_cell BK172.out 5).trans rfl; have hcz32_6 : w30.cell? ⟨gb172, 6, none⟩ = some (.slice A1_6 l1_6.length c1_6) := (blk_cell BK172.out 6).trans rfl; have hfz32_0 := blk_frozen BK172.out 0; have hfz32_1 := blk_frozen BK172.out 1; have hfz32_2 := blk_frozen BK172.out 2; have hfz32_3 := blk_frozen BK172.out 3; have hfz32_4 := blk_frozen BK172.out 4; have hfz32_5 := blk_frozen BK172.out 5; have hfz32_6 := blk_frozen BK172.out 6))
              go_meet
              case rel => exact ⟨_, (true), (by first | rfl | (simp; done) | (simp [*]; done)), H', ⟨by first | omega | exact Nat.le_refl _⟩, ⟨by (with_reducible repeat (first | refine blk_drewN ?_ _ | refine blk_drew ?_ | refine blk_alloc ?_ _)); exact BK171.out⟩, ⟨by (with_reducible repeat (first | refine blk_drewN ?_ _ | refine blk_drew ?_ | refine blk_alloc ?_ _)); exact BK172.out⟩, ⟨by repeat (first | (with_reducible first | exact HB.out | apply below_alloc | apply pw_below_drewN | apply below_drew1 | refine below_set ?_ GE171.out | refine below_set ?_ GE172.out) | exact HB.out)⟩⟩
          · replace c17 := Bool.eq_false_iff.mpr c17
            subst c17
            have H1 : (hopmeshref25_Answers.j0 k true a0_0 false a0_2 a0_3 a0_4 l0_5 l0_6 a1_0 false a1_2 a1_3 a1_4 l1_5 l1_6) = some r := by rw [if_neg (show ¬ (false = true) by decide)] at H; exact H
            clear H
            have H := H1
            clear H1
            have H' := Aside0.mk H
            clear H
            have hnb33 := NB171_172.out
            have hnc33 := NB172_171.out
            have hcz34_0 : w5.cell? ⟨gb171, 0, none⟩ = some (.int .i64 a0_0) := (blk_cell BK171.out 0).trans rfl
            have hcz34_1 : w5.cell? ⟨gb171, 1, none⟩ = some (.bool false) := (blk_cell BK171.out 1).trans rfl
            have hcz34_2 : w5.cell? ⟨gb171, 2, none⟩ = some (.int .i64 a0_2) := (blk_cell BK171.out 2).trans rfl
            have hcz34_3 : w5.cell? ⟨gb171, 3, none⟩ = some (.int .i64 a0_3) := (blk_cell BK171.out 3).trans rfl
            have hcz34_4 : w5.cell? ⟨gb171, 4, none⟩ = some (.int .i64 a0_4) := (blk_cell BK171.out 4).trans rfl
            have hcz34_5 : w5.cell? ⟨gb171, 5, none⟩ = some (.slice A0_5 l0_5.length c0_5) := (blk_cell BK171.out 5).trans rfl
            have hcz34_6 : w5.cell? ⟨gb171, 6, none⟩ = some (.slice A0_6 l0_6.length c0_6) := (blk_cell BK171.out 6).trans rfl
            have hfz34_0 := blk_frozen BK171.out 0
            have hfz34_1 := blk_frozen BK171.out 1
            have hfz34_2 := blk_frozen BK171.out 2
            have hfz34_3 := blk_frozen BK171.out 3
            have hfz34_4 := blk_frozen BK171.out 4
            have hfz34_5 := blk_frozen BK171.out 5
            have hfz34_6 := blk_frozen BK171.out 6
            go_wp2_with (first | ((with_reducible refine gate_callee (f := 14) rfl ?_); refine goesL_ (some 6) rfl rfl Try.func14 (by kernel_rfl) rfl #[.agg #[.int .i64 a0_0, .bool false, .int .i64 a0_2, .int .i64 a0_3, .int .i64 a0_4, .slice A0_5 l0_5.length c0_5, .slice A0_6 l0_6.length c0_6]] rfl (by (try simp only [List.map_toArray, List.map_cons, List.map_nil]); first | done | rfl | (simp only [List.length_drop, List.length_take]; rfl)) ?_; (with_reducible refine (hopmeshref25_Check.calls a0_0 false a0_2 a0_3 a0_4 _ _ l0_5 _ _ l0_6 t173 _ ?side1 ?side2 ?side3 ?side4 A6.out).mono ?_); (case side1 => repeat (first | exact (Kd.C_below HR0_5.out HB.out) | (with_reducible refine Kd.C_alloc ?_ _) | (with_reducible refine Kd.C_drewN ?_ _) | (with_reducible refine Kd.C_drew ?_))); (case side2 => exact HC0_5.out); (case side3 => repeat (first | exact (Kd.C_below HR0_6.out HB.out) | (with_reducible refine Kd.C_alloc ?_ _) | (with_reducible refine Kd.C_drewN ?_ _) | (with_reducible refine Kd.C_drew ?_))); (case side4 => exact HC0_6.out); rintro e w35 ⟨rfl, hb⟩; refine ⟨_, rfl, ?_⟩; have n0_ := Aside0.mk (blk_below (g := gb171) (o := .cells #[.int .i64 a0_0, .bool false, .int .i64 a0_2, .int .i64 a0_3, .int .i64 a0_4, .slice A0_5 l0_5.length c0_5, .slice A0_6 l0_6.length c0_6] 24 (0, 0)) (by (with_reducible repeat (first | refine blk_drewN ?_ _ | refine blk_drew ?_ | refine blk_alloc ?_ _)); exact BK171.out) hb); have n1_ := Aside0.mk (blk_below (g := gb172) (o := .cells #[.int .i64 a1_0, .bool false, .int .i64 a1_2, .int .i64 a1_3, .int .i64 a1_4, .slice A1_5 l1_5.length c1_5, .slice A1_6 l1_6.length c1_6] 24 (0, 0)) (by (with_reducible repeat (first | refine blk_drewN ?_ _ | refine blk_drew ?_ | refine blk_alloc ?_ _)); exact BK172.out) hb); have n2_ := Aside0.mk (below_step (by repeat (first | (with_reducible first | exact HB.out | apply below_alloc | apply pw_below_drewN | apply below_drew1 | refine below_set ?_ GE171.out | refine below_set ?_ GE172.out) | exact HB.out)) hb); clear BK171; clear BK172; clear HB; have BK171 := n0_; have BK172 := n1_; have HB := n2_; clear n0_ n1_ n2_; (try clear hb); (try clear hb2); (try clear hk); (try clear hi); have hcz36_0 : w35.cell? ⟨gb172, 0, none⟩ = some (.int .i64 a1_0) := (blk_cell BK172.out 0).trans rfl; have hcz36_1 : w35.cell? ⟨gb172, 1, none⟩ = some (.bool false) := (blk_cell BK172.out 1).trans rfl; have hcz36_2 : w35.cell? ⟨gb172, 2, none⟩ = some (.int .i64 a1_2) := (blk_cell BK172.out 2).trans rfl; have hcz36_3 : w35.cell? ⟨gb172, 3, none⟩ = some (.int .i64 a1_3) := (blk_cell BK172.out 3).trans rfl; have hcz36_4 : w35.cell? ⟨gb172, 4, none⟩ = some (.int .i64 a1_4) := (blk_cell BK172.out 4).trans rfl; have hcz36_5 : w35.cell? ⟨gb172, 5, none⟩ = some (.slice A1_5 l1_5.length c1_5) := (blk_cell BK172.out 5).trans rfl; have hcz36_6 : w35.cell? ⟨gb172, 6, none⟩ = some (.slice A1_6 l1_6.length c1_6) := (blk_cell BK172.out 6).trans rfl; have hfz36_0 := blk_frozen BK172.out 0; have hfz36_1 := blk_frozen BK172.out 1; have hfz36_2 := blk_frozen BK172.out 2; have hfz36_3 := blk_frozen BK172.out 3; have hfz36_4 := blk_frozen BK172.out 4; have hfz36_5 := blk_frozen BK172.out 5; have hfz36_6 := blk_frozen BK172.out 6) | (go_at_call 14; (with_reducible refine (hopmeshref25_Check.calls a1_0 false a1_2 a1_3 a1_4 _ _ l1_5 _ _ l1_6 t174 _ ?side1 ?side2 ?side3 ?side4 A8.out).mono ?_); (case side1 => repeat (first | exact (Kd.C_below HR1_5.out HB.out) | (with_reducible refine Kd.C_alloc ?_ _) | (with_reducible refine Kd.C_drewN ?_ _) | (with_reducible refine Kd.C_drew ?_))); (case side2 => exact HC1_5.out); (case side3 => repeat (first | exact (Kd.C_below HR1_6.out HB.out) | (with_reducible refine Kd.C_alloc ?_ _) | (with_reducible refine Kd.C_drewN ?_ _) | (with_reducible refine Kd.C_drew ?_))); (case side4 => exact HC1_6.out); rintro e w37 ⟨rfl, hb⟩; have n0_ := Aside0.mk (blk_below (g := gb171) (o := .cells #[.int .i64 a0_0, .bool false, .int .i64 a0_2, .int .i64 a0_3, .int .i64 a0_4, .slice A0_5 l0_5.length c0_5, .slice A0_6 l0_6.length c0_6] 24 (0, 0)) (by (with_reducible repeat (first | refine blk_drewN ?_ _ | refine blk_drew ?_ | refine blk_alloc ?_ _)); exact BK171.out) hb); have n1_ := Aside0.mk (blk_below (g := gb172) (o := .cells #[.int .i64 a1_0, .bool false, .int .i64 a1_2, .int .i64 a1_3, .int .i64 a1_4, .slice A1_5 l1_5.length c1_5, .slice A1_6 l1_6.length c1_6] 24 (0, 0)) (by (with_reducible repeat (first | refine blk_drewN ?_ _ | refine blk_drew ?_ | refine blk_alloc ?_ _)); exact BK172.out) hb); have n2_ := Aside0.mk (below_step (by repeat (first | (with_reducible first | exact HB.out | apply below_alloc | apply pw_below_drewN | apply below_drew1 | refine below_set ?_ GE171.out | refine below_set ?_ GE172.out) | exact HB.out)) hb); clear BK171; clear BK172; clear HB; have BK171 := n0_; have BK172 := n1_; have HB := n2_; clear n0_ n1_ n2_; (try clear hb); (try clear hb2); (try clear hk); (try clear hi); have hcz38_0 : w37.cell? ⟨gb171, 0, none⟩ = some (.int .i64 a0_0) := (blk_cell BK171.out 0).trans rfl; have hcz38_1 : w37.cell? ⟨gb171, 1, none⟩ = some (.bool false) := (blk_cell BK171.out 1).trans rfl; have hcz38_2 : w37.cell? ⟨gb171, 2, none⟩ = some (.int .i64 a0_2) := (blk_cell BK171.out 2).trans rfl; have hcz38_3 : w37.cell? ⟨gb171, 3, none⟩ = some (.int .i64 a0_3) := (blk_cell BK171.out 3).trans rfl; have hcz38_4 : w37.cell? ⟨gb171, 4, none⟩ = some (.int .i64 a0_4) := (blk_cell BK171.out 4).trans rfl; have hcz38_5 : w37.cell? ⟨gb171, 5, none⟩ = some (.slice A0_5 l0_5.length c0_5) := (blk_cell BK171.out 5).trans rfl; have hcz38_6 : w37.cell? ⟨gb171, 6, none⟩ = some (.slice A0_6 l0_6.length c0_6) := (blk_cell BK171.out 6).trans rfl; have hfz38_0 := blk_frozen BK171.out 0; have hfz38_1 := blk_frozen BK171.out 1; have hfz38_2 := blk_frozen BK171.out 2; have hfz38_3 := blk_frozen BK171.out 3; have hfz38_4 := blk_frozen BK171.out 4; have hfz38_5 := blk_frozen BK171.out 5; have hfz38_6 := blk_frozen BK171.out 6; have hcz39_0 : w37.cell? ⟨gb172, 0, none⟩ = some (.int .i64 a1_0) := (blk_cell BK172.out 0).trans rfl; have hcz39_1 : w37.cell? ⟨gb172, 1, none⟩ = some (.bool false) := (blk_cell BK172.out 1).trans rfl; have hcz39_2 : w37.cell? ⟨gb172, 2, none⟩ = some (.int .i64 a1_2) := (blk_cell BK172.out 2).trans rfl; have hcz39_3 : w37.cell? ⟨gb172, 3, none⟩ = some (.int .i64 a1_3) := (blk_cell BK172.out 3).trans rfl; have hcz39_4 : w37.cell? ⟨gb172, 4, none⟩ = some (.int .i64 a1_4) := (blk_cell BK172.out 4).trans rfl; have hcz39_5 : w37.cell? ⟨gb172, 5, none⟩ = some (.slice A1_5 l1_5.length c1_5) := (blk_cell BK172.out 5).trans rfl; have hcz39_6 : w37.cell? ⟨gb172, 6, none⟩ = some (.slice A1_6 l1_6.length c1_6) := (blk_cell BK172.out 6).trans rfl; have hfz39_0 := blk_frozen BK172.out 0; have hfz39_1 := blk_frozen BK172.out 1; have hfz39_2 := blk_frozen BK172.out 2; have hfz39_3 := blk_frozen BK172.out 3; have hfz39_4 := blk_frozen BK172.out 4; have hfz39_5 := blk_frozen BK172.out 5; have hfz39_6 := blk_frozen BK172.out 6))
            go_meet
            case rel => exact ⟨_, (true), (by first | rfl | (simp; done) | (simp [*]; done)), H', ⟨by first | omega | exact Nat.le_refl _⟩, ⟨by (with_reducible repeat (first | refine blk_drewN ?_ _ | refine blk_drew ?_ | refine blk_alloc ?_ _)); exact BK171.out⟩, ⟨by (with_reducible repeat (first | refine blk_drewN ?_ _ | refine blk_drew ?_ | refine blk_alloc ?_ _)); exact BK172.out⟩, ⟨by repeat (first | (with_reducible first | exact HB.out | apply below_alloc | apply pw_below_drewN | apply below_drew1 | refine below_set ?_ GE171.out | refine below_set ?_ GE172.out) | exact HB.out)⟩⟩
      · rw [if_neg c9] at H
        have c9b0 : (t174 == 0) = false := beq_eq_false_iff_ne.mpr c9
        have c9b1 : (t174 != 0) = true := bne_iff_ne.mpr c9
        have H' := Aside0.mk H
        clear H
        have hnb40 := NB171_172.out
        have hnc40 := NB172_171.out
        have hcz41_0 : w5.cell? ⟨gb171, 0, none⟩ = some (.int .i64 a0_0) := (blk_cell BK171.out 0).trans rfl
        have hcz41_1 : w5.cell? ⟨gb171, 1, none⟩ = some (.bool a0_1) := (blk_cell BK171.out 1).trans rfl
        have hcz41_2 : w5.cell? ⟨gb171, 2, none⟩ = some (.int .i64 a0_2) := (blk_cell BK171.out 2).trans rfl
        have hcz41_3 : w5.cell? ⟨gb171, 3, none⟩ = some (.int .i64 a0_3) := (blk_cell BK171.out 3).trans rfl
        have hcz41_4 : w5.cell? ⟨gb171, 4, none⟩ = some (.int .i64 a0_4) := (blk_cell BK171.out 4).trans rfl
        have hcz41_5 : w5.cell? ⟨gb171, 5, none⟩ = some (.slice A0_5 l0_5.length c0_5) := (blk_cell BK171.out 5).trans rfl
        have hcz41_6 : w5.cell? ⟨gb171, 6, none⟩ = some (.slice A0_6 l0_6.length c0_6) := (blk_cell BK171.out 6).trans rfl
        have hfz41_0 := blk_frozen BK171.out 0
        have hfz41_1 := blk_frozen BK171.out 1
        have hfz41_2 := blk_frozen BK171.out 2
        have hfz41_3 := blk_frozen BK171.out 3
        have hfz41_4 := blk_frozen BK171.out 4
        have hfz41_5 := blk_frozen BK171.out 5
        have hfz41_6 := blk_frozen BK171.out 6
        go_wp2_with (first | ((with_reducible refine gate_callee (f := 14) rfl ?_); refine goesL_ (some 6) rfl rfl Try.func14 (by kernel_rfl) rfl #[.agg #[.int .i64 a0_0, .bool a0_1, .int .i64 a0_2, .int .i64 a0_3, .int .i64 a0_4, .slice A0_5 l0_5.length c0_5, .slice A0_6 l0_6.length c0_6]] rfl (by (try simp only [List.map_toArray, List.map_cons, List.map_nil]); first | done | rfl | (simp only [List.length_drop, List.length_take]; rfl)) ?_; (with_reducible refine (hopmeshref25_Check.calls a0_0 a0_1 a0_2 a0_3 a0_4 _ _ l0_5 _ _ l0_6 t173 _ ?side1 ?side2 ?side3 ?side4 A6.out).mono ?_); (case side1 => repeat (first | exact (Kd.C_below HR0_5.out HB.out) | (with_reducible refine Kd.C_alloc ?_ _) | (with_reducible refine Kd.C_drewN ?_ _) | (with_reducible refine Kd.C_drew ?_))); (case side2 => exact HC0_5.out); (case side3 => repeat (first | exact (Kd.C_below HR0_6.out HB.out) | (with_reducible refine Kd.C_alloc ?_ _) | (with_reducible refine Kd.C_drewN ?_ _) | (with_reducible refine Kd.C_drew ?_))); (case side4 => exact HC0_6.out); rintro e w42 ⟨rfl, hb⟩; refine ⟨_, rfl, ?_⟩; have n0_ := Aside0.mk (blk_below (g := gb171) (o := .cells #[.int .i64 a0_0, .bool a0_1, .int .i64 a0_2, .int .i64 a0_3, .int .i64 a0_4, .slice A0_5 l0_5.length c0_5, .slice A0_6 l0_6.length c0_6] 24 (0, 0)) (by (with_reducible repeat (first | refine blk_drewN ?_ _ | refine blk_drew ?_ | refine blk_alloc ?_ _)); exact BK171.out) hb); have n1_ := Aside0.mk (blk_below (g := gb172) (o := .cells #[.int .i64 a1_0, .bool a1_1, .int .i64 a1_2, .int .i64 a1_3, .int .i64 a1_4, .slice A1_5 l1_5.length c1_5, .slice A1_6 l1_6.length c1_6] 24 (0, 0)) (by (with_reducible repeat (first | refine blk_drewN ?_ _ | refine blk_drew ?_ | refine blk_alloc ?_ _)); exact BK172.out) hb); have n2_ := Aside0.mk (below_step (by repeat (first | (with_reducible first | exact HB.out | apply below_alloc | apply pw_below_drewN | apply below_drew1 | refine below_set ?_ GE171.out | refine below_set ?_ GE172.out) | exact HB.out)) hb); clear BK171; clear BK172; clear HB; have BK171 := n0_; have BK172 := n1_; have HB := n2_; clear n0_ n1_ n2_; (try clear hb); (try clear hb2); (try clear hk); (try clear hi); have hcz43_0 : w42.cell? ⟨gb172, 0, none⟩ = some (.int .i64 a1_0) := (blk_cell BK172.out 0).trans rfl; have hcz43_1 : w42.cell? ⟨gb172, 1, none⟩ = some (.bool a1_1) := (blk_cell BK172.out 1).trans rfl; have hcz43_2 : w42.cell? ⟨gb172, 2, none⟩ = some (.int .i64 a1_2) := (blk_cell BK172.out 2).trans rfl; have hcz43_3 : w42.cell? ⟨gb172, 3, none⟩ = some (.int .i64 a1_3) := (blk_cell BK172.out 3).trans rfl; have hcz43_4 : w42.cell? ⟨gb172, 4, none⟩ = some (.int .i64 a1_4) := (blk_cell BK172.out 4).trans rfl; have hcz43_5 : w42.cell? ⟨gb172, 5, none⟩ = some (.slice A1_5 l1_5.length c1_5) := (blk_cell BK172.out 5).trans rfl; have hcz43_6 : w42.cell? ⟨gb172, 6, none⟩ = some (.slice A1_6 l1_6.length c1_6) := (blk_cell BK172.out 6).trans rfl; have hfz43_0 := blk_frozen BK172.out 0; have hfz43_1 := blk_frozen BK172.out 1; have hfz43_2 := blk_frozen BK172.out 2; have hfz43_3 := blk_frozen BK172.out 3; have hfz43_4 := blk_frozen BK172.out 4; have hfz43_5 := blk_frozen BK172.out 5; have hfz43_6 := blk_frozen BK172.out 6) | (go_at_call 14; (with_reducible refine (hopmeshref25_Check.calls a1_0 a1_1 a1_2 a1_3 a1_4 _ _ l1_5 _ _ l1_6 t174 _ ?side1 ?side2 ?side3 ?side4 A8.out).mono ?_); (case side1 => repeat (first | exact (Kd.C_below HR1_5.out HB.out) | (with_reducible refine Kd.C_alloc ?_ _) | (with_reducible refine Kd.C_drewN ?_ _) | (with_reducible refine Kd.C_drew ?_))); (case side2 => exact HC1_5.out); (case side3 => repeat (first | exact (Kd.C_below HR1_6.out HB.out) | (with_reducible refine Kd.C_alloc ?_ _) | (with_reducible refine Kd.C_drewN ?_ _) | (with_reducible refine Kd.C_drew ?_))); (case side4 => exact HC1_6.out); rintro e w44 ⟨rfl, hb⟩; have n0_ := Aside0.mk (blk_below (g := gb171) (o := .cells #[.int .i64 a0_0, .bool a0_1, .int .i64 a0_2, .int .i64 a0_3, .int .i64 a0_4, .slice A0_5 l0_5.length c0_5, .slice A0_6 l0_6.length c0_6] 24 (0, 0)) (by (with_reducible repeat (first | refine blk_drewN ?_ _ | refine blk_drew ?_ | refine blk_alloc ?_ _)); exact BK171.out) hb); have n1_ := Aside0.mk (blk_below (g := gb172) (o := .cells #[.int .i64 a1_0, .bool a1_1, .int .i64 a1_2, .int .i64 a1_3, .int .i64 a1_4, .slice A1_5 l1_5.length c1_5, .slice A1_6 l1_6.length c1_6] 24 (0, 0)) (by (with_reducible repeat (first | refine blk_drewN ?_ _ | refine blk_drew ?_ | refine blk_alloc ?_ _)); exact BK172.out) hb); have n2_ := Aside0.mk (below_step (by repeat (first | (with_reducible first | exact HB.out | apply below_alloc | apply pw_below_drewN | apply below_drew1 | refine below_set ?_ GE171.out | refine below_set ?_ GE172.out) | exact HB.out)) hb); clear BK171; clear BK172; clear HB; have BK171 := n0_; have BK172 := n1_; have HB := n2_; clear n0_ n1_ n2_; (try clear hb); (try clear hb2); (try clear hk); (try clear hi)))
        go_meet
        case rel => exact ⟨_, (true), (by first | rfl | (simp; done) | (simp [*]; done)), H', ⟨by first | omega | exact Nat.le_refl _⟩, ⟨by (with_reducible repeat (first | refine blk_drewN ?_ _ | refine blk_drew ?_ | refine blk_alloc ?_ _)); exact BK171.out⟩, ⟨by (with_reducible repeat (first | refine blk_drewN ?_ _ | refine blk_drew ?_ | refine blk_alloc ?_ _)); exact BK172.out⟩, ⟨by repeat (first | (with_reducible first | exact HB.out | apply below_alloc | apply pw_below_drewN | apply below_drew1 | refine below_set ?_ GE171.out | refine below_set ?_ GE172.out) | exact HB.out)⟩⟩
    · rw [if_neg c7] at H
      have c7b0 : (t173 == 0) = false := beq_eq_false_iff_ne.mpr c7
      have c7b1 : (t173 != 0) = true := bne_iff_ne.mpr c7
      (first | rw [c7b0] | (simp only [i64_w, i32_w]; rw [c7b0]) | skip)
      have H' := Aside0.mk H
      clear H
      have hnb45 := NB171_172.out
      have hnc45 := NB172_171.out
      have hcz46_0 : w5.cell? ⟨gb171, 0, none⟩ = some (.int .i64 a0_0) := (blk_cell BK171.out 0).trans rfl
      have hcz46_1 : w5.cell? ⟨gb171, 1, none⟩ = some (.bool a0_1) := (blk_cell BK171.out 1).trans rfl
      have hcz46_2 : w5.cell? ⟨gb171, 2, none⟩ = some (.int .i64 a0_2) := (blk_cell BK171.out 2).trans rfl
      have hcz46_3 : w5.cell? ⟨gb171, 3, none⟩ = some (.int .i64 a0_3) := (blk_cell BK171.out 3).trans rfl
      have hcz46_4 : w5.cell? ⟨gb171, 4, none⟩ = some (.int .i64 a0_4) := (blk_cell BK171.out 4).trans rfl
      have hcz46_5 : w5.cell? ⟨gb171, 5, none⟩ = some (.slice A0_5 l0_5.length c0_5) := (blk_cell BK171.out 5).trans rfl
      have hcz46_6 : w5.cell? ⟨gb171, 6, none⟩ = some (.slice A0_6 l0_6.length c0_6) := (blk_cell BK171.out 6).trans rfl
      have hfz46_0 := blk_frozen BK171.out 0
      have hfz46_1 := blk_frozen BK171.out 1
      have hfz46_2 := blk_frozen BK171.out 2
      have hfz46_3 := blk_frozen BK171.out 3
      have hfz46_4 := blk_frozen BK171.out 4
      have hfz46_5 := blk_frozen BK171.out 5
      have hfz46_6 := blk_frozen BK171.out 6
      go_wp2_with (first | ((with_reducible refine gate_callee (f := 14) rfl ?_); refine goesL_ (some 6) rfl rfl Try.func14 (by kernel_rfl) rfl #[.agg #[.int .i64 a0_0, .bool a0_1, .int .i64 a0_2, .int .i64 a0_3, .int .i64 a0_4, .slice A0_5 l0_5.length c0_5, .slice A0_6 l0_6.length c0_6]] rfl (by (try simp only [List.map_toArray, List.map_cons, List.map_nil]); first | done | rfl | (simp only [List.length_drop, List.length_take]; rfl)) ?_; (with_reducible refine (hopmeshref25_Check.calls a0_0 a0_1 a0_2 a0_3 a0_4 _ _ l0_5 _ _ l0_6 t173 _ ?side1 ?side2 ?side3 ?side4 A6.out).mono ?_); (case side1 => repeat (first | exact (Kd.C_below HR0_5.out HB.out) | (with_reducible refine Kd.C_alloc ?_ _) | (with_reducible refine Kd.C_drewN ?_ _) | (with_reducible refine Kd.C_drew ?_))); (case side2 => exact HC0_5.out); (case side3 => repeat (first | exact (Kd.C_below HR0_6.out HB.out) | (with_reducible refine Kd.C_alloc ?_ _) | (with_reducible refine Kd.C_drewN ?_ _) | (with_reducible refine Kd.C_drew ?_))); (case side4 => exact HC0_6.out); rintro e w47 ⟨rfl, hb⟩; refine ⟨_, rfl, ?_⟩; have n0_ := Aside0.mk (blk_below (g := gb171) (o := .cells #[.int .i64 a0_0, .bool a0_1, .int .i64 a0_2, .int .i64 a0_3, .int .i64 a0_4, .slice A0_5 l0_5.length c0_5, .slice A0_6 l0_6.length c0_6] 24 (0, 0)) (by (with_reducible repeat (first | refine blk_drewN ?_ _ | refine blk_drew ?_ | refine blk_alloc ?_ _)); exact BK171.out) hb); have n1_ := Aside0.mk (blk_below (g := gb172) (o := .cells #[.int .i64 a1_0, .bool a1_1, .int .i64 a1_2, .int .i64 a1_3, .int .i64 a1_4, .slice A1_5 l1_5.length c1_5, .slice A1_6 l1_6.length c1_6] 24 (0, 0)) (by (with_reducible repeat (first | refine blk_drewN ?_ _ | refine blk_drew ?_ | refine blk_alloc ?_ _)); exact BK172.out) hb); have n2_ := Aside0.mk (below_step (by repeat (first | (with_reducible first | exact HB.out | apply below_alloc | apply pw_below_drewN | apply below_drew1 | refine below_set ?_ GE171.out | refine below_set ?_ GE172.out) | exact HB.out)) hb); clear BK171; clear BK172; clear HB; have BK171 := n0_; have BK172 := n1_; have HB := n2_; clear n0_ n1_ n2_; (try clear hb); (try clear hb2); (try clear hk); (try clear hi)))
      go_meet
      case rel => exact ⟨_, (true), (by first | rfl | (simp; done) | (simp [*]; done)), H', ⟨by first | omega | exact Nat.le_refl _⟩, ⟨by (with_reducible repeat (first | refine blk_drewN ?_ _ | refine blk_drew ?_ | refine blk_alloc ?_ _)); exact BK171.out⟩, ⟨by (with_reducible repeat (first | refine blk_drewN ?_ _ | refine blk_drew ?_ | refine blk_alloc ?_ _)); exact BK172.out⟩, ⟨by repeat (first | (with_reducible first | exact HB.out | apply below_alloc | apply pw_below_drewN | apply below_drew1 | refine below_set ?_ GE171.out | refine below_set ?_ GE172.out) | exact HB.out)⟩⟩
  case rest =>
    clear HC3
    try clear c1
    try clear c2
    try clear p2
    try clear c3
    try clear c4
    try clear c7
    try clear c7b0
    try clear c7b1
    try clear c9
    try clear c9b0
    try clear c9b1
    try clear c10
    try clear c11
    try clear c14
    try clear c17
    try clear c18
    try clear c18b0
    try clear c18b1
    try clear c19
    try clear c26
    try clear c33
    try clear c40
    try clear c45
    try clear hcz12_0
    try clear hcz12_1
    try clear hcz12_2
    try clear hcz12_3
    try clear hcz12_4
    try clear hcz12_5
    try clear hcz12_6
    try clear hcz14_0
    try clear hcz14_1
    try clear hcz14_2
    try clear hcz14_3
    try clear hcz14_4
    try clear hcz14_5
    try clear hcz14_6
    try clear hcz16_0
    try clear hcz16_1
    try clear hcz16_2
    try clear hcz16_3
    try clear hcz16_4
    try clear hcz16_5
    try clear hcz16_6
    try clear hcz20_0
    try clear hcz20_1
    try clear hcz20_2
    try clear hcz20_3
    try clear hcz20_4
    try clear hcz20_5
    try clear hcz20_6
    try clear hcz22_0
    try clear hcz22_1
    try clear hcz22_2
    try clear hcz22_3
    try clear hcz22_4
    try clear hcz22_5
    try clear hcz22_6
    try clear hcz24_0
    try clear hcz24_1
    try clear hcz24_2
    try clear hcz24_3
    try clear hcz24_4
    try clear hcz24_5
    try clear hcz24_6
    try clear hcz25_0
    try clear hcz25_1
    try clear hcz25_2
    try clear hcz25_3
    try clear hcz25_4
    try clear hcz25_5
    try clear hcz25_6
    try clear hcz27_0
    try clear hcz27_1
    try clear hcz27_2
    try clear hcz27_3
    try clear hcz27_4
    try clear hcz27_5
    try clear hcz27_6
    try clear hcz29_0
    try clear hcz29_1
    try clear hcz29_2
    try clear hcz29_3
    try clear hcz29_4
    try clear hcz29_5
    try clear hcz29_6
    try clear hcz31_0
    try clear hcz31_1
    try clear hcz31_2
    try clear hcz31_3
    try clear hcz31_4
    try clear hcz31_5
    try clear hcz31_6
    try clear hcz32_0
    try clear hcz32_1
    try clear hcz32_2
    try clear hcz32_3
    try clear hcz32_4
    try clear hcz32_5
    try clear hcz32_6
    try clear hcz34_0
    try clear hcz34_1
    try clear hcz34_2
    try clear hcz34_3
    try clear hcz34_4
    try clear hcz34_5
    try clear hcz34_6
    try clear hcz36_0
    try clear hcz36_1
    try clear hcz36_2
    try clear hcz36_3
    try clear hcz36_4
    try clear hcz36_5
    try clear hcz36_6
    try clear hcz38_0
    try clear hcz38_1
    try clear hcz38_2
    try clear hcz38_3
    try clear hcz38_4
    try clear hcz38_5
    try clear hcz38_6
    try clear hcz39_0
    try clear hcz39_1
    try clear hcz39_2
    try clear hcz39_3
    try clear hcz39_4
    try clear hcz39_5
    try clear hcz39_6
    try clear hcz41_0
    try clear hcz41_1
    try clear hcz41_2
    try clear hcz41_3
    try clear hcz41_4
    try clear hcz41_5
    try clear hcz41_6
    try clear hcz43_0
    try clear hcz43_1
    try clear hcz43_2
    try clear hcz43_3
    try clear hcz43_4
    try clear hcz43_5
    try clear hcz43_6
    try clear hcz46_0
    try clear hcz46_1
    try clear hcz46_2
    try clear hcz46_3
    try clear hcz46_4
    try clear hcz46_5
    try clear hcz46_6
    try clear hfz12_0
    try clear hfz12_1
    try clear hfz12_2
    try clear hfz12_3
    try clear hfz12_4
    try clear hfz12_5
    try clear hfz12_6
    try clear hfz14_0
    try clear hfz14_1
    try clear hfz14_2
    try clear hfz14_3
    try clear hfz14_4
    try clear hfz14_5
    try clear hfz14_6
    try clear hfz16_0
    try clear hfz16_1
    try clear hfz16_2
    try clear hfz16_3
    try clear hfz16_4
    try clear hfz16_5
    try clear hfz16_6
    try clear hfz20_0
    try clear hfz20_1
    try clear hfz20_2
    try clear hfz20_3
    try clear hfz20_4
    try clear hfz20_5
    try clear hfz20_6
    try clear hfz22_0
    try clear hfz22_1
    try clear hfz22_2
    try clear hfz22_3
    try clear hfz22_4
    try clear hfz22_5
    try clear hfz22_6
    try clear hfz24_0
    try clear hfz24_1
    try clear hfz24_2
    try clear hfz24_3
    try clear hfz24_4
    try clear hfz24_5
    try clear hfz24_6
    try clear hfz25_0
    try clear hfz25_1
    try clear hfz25_2
    try clear hfz25_3
    try clear hfz25_4
    try clear hfz25_5
    try clear hfz25_6
    try clear hfz27_0
    try clear hfz27_1
    try clear hfz27_2
    try clear hfz27_3
    try clear hfz27_4
    try clear hfz27_5
    try clear hfz27_6
    try clear hfz29_0
    try clear hfz29_1
    try clear hfz29_2
    try clear hfz29_3
    try clear hfz29_4
    try clear hfz29_5
    try clear hfz29_6
    try clear hfz31_0
    try clear hfz31_1
    try clear hfz31_2
    try clear hfz31_3
    try clear hfz31_4
    try clear hfz31_5
    try clear hfz31_6
    try clear hfz32_0
    try clear hfz32_1
    try clear hfz32_2
    try clear hfz32_3
    try clear hfz32_4
    try clear hfz32_5
    try clear hfz32_6
    try clear hfz34_0
    try clear hfz34_1
    try clear hfz34_2
    try clear hfz34_3
    try clear hfz34_4
    try clear hfz34_5
    try clear hfz34_6
    try clear hfz36_0
    try clear hfz36_1
    try clear hfz36_2
    try clear hfz36_3
    try clear hfz36_4
    try clear hfz36_5
    try clear hfz36_6
    try clear hfz38_0
    try clear hfz38_1
    try clear hfz38_2
    try clear hfz38_3
    try clear hfz38_4
    try clear hfz38_5
    try clear hfz38_6
    try clear hfz39_0
    try clear hfz39_1
    try clear hfz39_2
    try clear hfz39_3
    try clear hfz39_4
    try clear hfz39_5
    try clear hfz39_6
    try clear hfz41_0
    try clear hfz41_1
    try clear hfz41_2
    try clear hfz41_3
    try clear hfz41_4
    try clear hfz41_5
    try clear hfz41_6
    try clear hfz43_0
    try clear hfz43_1
    try clear hfz43_2
    try clear hfz43_3
    try clear hfz43_4
    try clear hfz43_5
    try clear hfz43_6
    try clear hfz46_0
    try clear hfz46_1
    try clear hfz46_2
    try clear hfz46_3
    try clear hfz46_4
    try clear hfz46_5
    try clear hfz46_6
    obtain ⟨kq, x35_2, rfl, HA, HJ2, BK171, BK172, HB⟩ := hcut
    cases kq with
    | zero => exact absurd HA.out (by simp [hopmeshref25_Answers.j0])
    | succ kj2 =>
      have H := HA.out
      clear HA
      simp only [hopmeshref25_Answers.j0] at H
      by_cases c48 : x35_2 = true
      · subst c48
        have H1 : (some false) = some r := by rw [if_pos rfl] at H; exact H
        clear H
        have H := H1
        clear H1
        obtain rfl := Option.some.inj H
        go_wp2
        go_ret
        exact ⟨by first | rfl | (simp [errW_none, errW_some] <;> rfl) | (simp [*, errW_none, errW_some] <;> rfl), by repeat (first | (with_reducible first | exact HB.out | apply below_alloc | apply pw_below_drewN | apply below_drew1 | refine below_set ?_ GE171.out | refine below_set ?_ GE172.out) | exact HB.out)⟩
      · replace c48 := Bool.eq_false_iff.mpr c48
        subst c48
        have H1 : (if a1_3 = 0 then (if a1_0 = 1 then (hopmeshref25_Answers.j1 kj2 a1_0 (a1_0 == 1) a0_0 a0_1 a0_2 a0_3 a0_4 l0_5 l0_6 a1_0 a1_1 a1_2 a1_3 a1_4 l1_5 l1_6) else (hopmeshref25_Answers.j1 kj2 a1_0 (a1_0 == 3) a0_0 a0_1 a0_2 a0_3 a0_4 l0_5 l0_6 a1_0 a1_1 a1_2 a1_3 a1_4 l1_5 l1_6)) else (some true)) = some r := by rw [if_neg (show ¬ (false = true) by decide)] at H; exact H
        clear H
        have H := H1
        clear H1
        by_cases c49 : a1_3 = 0
        · rw [if_pos c49] at H
          have c49b0 : (a1_3 == 0) = true := beq_iff_eq.mpr c49
          have c49b1 : (a1_3 != 0) = false := bne_eq_false_iff_eq.mpr c49
          clear c49
          have HC50 := Aside0.mk H
          clear H
          have hnb51 := NB172_171.out
          have hnc51 := NB171_172.out
          have hcz52_0 : wc.cell? ⟨gb172, 0, none⟩ = some (.int .i64 a1_0) := (blk_cell BK172.out 0).trans rfl
          have hcz52_1 : wc.cell? ⟨gb172, 1, none⟩ = some (.bool a1_1) := (blk_cell BK172.out 1).trans rfl
          have hcz52_2 : wc.cell? ⟨gb172, 2, none⟩ = some (.int .i64 a1_2) := (blk_cell BK172.out 2).trans rfl
          have hcz52_3 : wc.cell? ⟨gb172, 3, none⟩ = some (.int .i64 a1_3) := (blk_cell BK172.out 3).trans rfl
          have hcz52_4 : wc.cell? ⟨gb172, 4, none⟩ = some (.int .i64 a1_4) := (blk_cell BK172.out 4).trans rfl
          have hcz52_5 : wc.cell? ⟨gb172, 5, none⟩ = some (.slice A1_5 l1_5.length c1_5) := (blk_cell BK172.out 5).trans rfl
          have hcz52_6 : wc.cell? ⟨gb172, 6, none⟩ = some (.slice A1_6 l1_6.length c1_6) := (blk_cell BK172.out 6).trans rfl
          have hfz52_0 := blk_frozen BK172.out 0
          have hfz52_1 := blk_frozen BK172.out 1
          have hfz52_2 := blk_frozen BK172.out 2
          have hfz52_3 := blk_frozen BK172.out 3
          have hfz52_4 := blk_frozen BK172.out 4
          have hfz52_5 := blk_frozen BK172.out 5
          have hfz52_6 := blk_frozen BK172.out 6
          go_upto_if 41 with (fail)
          go_cut [41] (fun v41 wc => ∃ (kq : Nat) (x41_49 : Bool), v41 = .bool x41_49 ∧ Aside0 (hopmeshref25_Answers.j1 kq a1_0 x41_49 a0_0 a0_1 a0_2 a0_3 a0_4 l0_5 l0_6 a1_0 a1_1 a1_2 a1_3 a1_4 l1_5 l1_6 = some r) ∧ Aside0 (kq ≤ kj2) ∧ Aside0 (wc.heap[gb171]? = some (.cells #[.int .i64 a0_0, .bool a0_1, .int .i64 a0_2, .int .i64 a0_3, .int .i64 a0_4, (.slice A0_5 l0_5.length c0_5), (.slice A0_6 l0_6.length c0_6)] 24 (0, 0))) ∧ Aside0 (wc.heap[gb172]? = some (.cells #[.int .i64 a1_0, .bool a1_1, .int .i64 a1_2, .int .i64 a1_3, .int .i64 a1_4, (.slice A1_5 l1_5.length c1_5), (.slice A1_6 l1_6.length c1_6)] 24 (0, 0))) ∧ Aside0 (Below w.heap.size w wc))
          case first =>
            have H := HC50.out
            clear HC50
            by_cases c53 : a1_0 = 1
            · rw [if_pos c53] at H
              have c53b0 : (a1_0 == 1) = true := beq_iff_eq.mpr c53
              have c53b1 : (a1_0 != 1) = false := bne_eq_false_iff_eq.mpr c53
              clear c53
              (first | rw [c53b0] | (simp only [i64_w, i32_w]; rw [c53b0]) | skip)
              have H' := Aside0.mk H
              clear H
              go_wp2
              go_meet
              case rel => exact ⟨_, ((a1_0 == 1)), (by first | rfl | (simp; done) | (simp [*]; done)), H', ⟨by have := HJ2.out; first | omega | exact Nat.le_refl _⟩, ⟨by (with_reducible repeat (first | refine blk_drewN ?_ _ | refine blk_drew ?_ | refine blk_alloc ?_ _)); exact BK171.out⟩, ⟨by (with_reducible repeat (first | refine blk_drewN ?_ _ | refine blk_drew ?_ | refine blk_alloc ?_ _)); exact BK172.out⟩, ⟨by repeat (first | (with_reducible first | exact HB.out | apply below_alloc | apply pw_below_drewN | apply below_drew1 | refine below_set ?_ GE171.out | refine below_set ?_ GE172.out) | exact HB.out)⟩⟩
            · rw [if_neg c53] at H
              have c53b0 : (a1_0 == 1) = false := beq_eq_false_iff_ne.mpr c53
              have c53b1 : (a1_0 != 1) = true := bne_iff_ne.mpr c53
              (first | rw [c53b0] | (simp only [i64_w, i32_w]; rw [c53b0]) | skip)
              have H' := Aside0.mk H
              clear H
              go_wp2
              go_meet
              case rel => exact ⟨_, ((a1_0 == 3)), (by first | rfl | (simp; done) | (simp [*]; done)), H', ⟨by have := HJ2.out; first | omega | exact Nat.le_refl _⟩, ⟨by (with_reducible repeat (first | refine blk_drewN ?_ _ | refine blk_drew ?_ | refine blk_alloc ?_ _)); exact BK171.out⟩, ⟨by (with_reducible repeat (first | refine blk_drewN ?_ _ | refine blk_drew ?_ | refine blk_alloc ?_ _)); exact BK172.out⟩, ⟨by repeat (first | (with_reducible first | exact HB.out | apply below_alloc | apply pw_below_drewN | apply below_drew1 | refine below_set ?_ GE171.out | refine below_set ?_ GE172.out) | exact HB.out)⟩⟩
          case rest =>
            clear HC50
            try clear c1
            try clear c2
            try clear p2
            try clear c3
            try clear c4
            try clear c5
            try clear c7
            try clear c7b0
            try clear c7b1
            try clear c9
            try clear c9b0
            try clear c9b1
            try clear c10
            try clear c11
            try clear c14
            try clear c17
            try clear c18
            try clear c18b0
            try clear c18b1
            try clear c19
            try clear c26
            try clear c33
            try clear c40
            try clear c45
            try clear c48
            try clear c49
            try clear c49b0
            try clear c49b1
            try clear c51
            try clear c53
            try clear c53b0
            try clear c53b1
            try clear hcz12_0
            try clear hcz12_1
            try clear hcz12_2
            try clear hcz12_3
            try clear hcz12_4
            try clear hcz12_5
            try clear hcz12_6
            try clear hcz14_0
            try clear hcz14_1
            try clear hcz14_2
            try clear hcz14_3
            try clear hcz14_4
            try clear hcz14_5
            try clear hcz14_6
            try clear hcz16_0
            try clear hcz16_1
            try clear hcz16_2
            try clear hcz16_3
            try clear hcz16_4
            try clear hcz16_5
            try clear hcz16_6
            try clear hcz20_0
            try clear hcz20_1
            try clear hcz20_2
            try clear hcz20_3
            try clear hcz20_4
            try clear hcz20_5
            try clear hcz20_6
            try clear hcz22_0
            try clear hcz22_1
            try clear hcz22_2
            try clear hcz22_3
            try clear hcz22_4
            try clear hcz22_5
            try clear hcz22_6
            try clear hcz24_0
            try clear hcz24_1
            try clear hcz24_2
            try clear hcz24_3
            try clear hcz24_4
            try clear hcz24_5
            try clear hcz24_6
            try clear hcz25_0
            try clear hcz25_1
            try clear hcz25_2
            try clear hcz25_3
            try clear hcz25_4
            try clear hcz25_5
            try clear hcz25_6
            try clear hcz27_0
            try clear hcz27_1
            try clear hcz27_2
            try clear hcz27_3
            try clear hcz27_4
            try clear hcz27_5
            try clear hcz27_6
            try clear hcz29_0
            try clear hcz29_1
            try clear hcz29_2
            try clear hcz29_3
            try clear hcz29_4
            try clear hcz29_5
            try clear hcz29_6
            try clear hcz31_0
            try clear hcz31_1
            try clear hcz31_2
            try clear hcz31_3
            try clear hcz31_4
            try clear hcz31_5
            try clear hcz31_6
            try clear hcz32_0
            try clear hcz32_1
            try clear hcz32_2
            try clear hcz32_3
            try clear hcz32_4
            try clear hcz32_5
            try clear hcz32_6
            try clear hcz34_0
            try clear hcz34_1
            try clear hcz34_2
            try clear hcz34_3
            try clear hcz34_4
            try clear hcz34_5
            try clear hcz34_6
            try clear hcz36_0
            try clear hcz36_1
            try clear hcz36_2
            try clear hcz36_3
            try clear hcz36_4
            try clear hcz36_5
            try clear hcz36_6
            try clear hcz38_0
            try clear hcz38_1
            try clear hcz38_2
            try clear hcz38_3
            try clear hcz38_4
            try clear hcz38_5
            try clear hcz38_6
            try clear hcz39_0
            try clear hcz39_1
            try clear hcz39_2
            try clear hcz39_3
            try clear hcz39_4
            try clear hcz39_5
            try clear hcz39_6
            try clear hcz41_0
            try clear hcz41_1
            try clear hcz41_2
            try clear hcz41_3
            try clear hcz41_4
            try clear hcz41_5
            try clear hcz41_6
            try clear hcz43_0
            try clear hcz43_1
            try clear hcz43_2
            try clear hcz43_3
            try clear hcz43_4
            try clear hcz43_5
            try clear hcz43_6
            try clear hcz46_0
            try clear hcz46_1
            try clear hcz46_2
            try clear hcz46_3
            try clear hcz46_4
            try clear hcz46_5
            try clear hcz46_6
            try clear hcz52_0
            try clear hcz52_1
            try clear hcz52_2
            try clear hcz52_3
            try clear hcz52_4
            try clear hcz52_5
            try clear hcz52_6
            try clear hfz12_0
            try clear hfz12_1
            try clear hfz12_2
            try clear hfz12_3
            try clear hfz12_4
            try clear hfz12_5
            try clear hfz12_6
            try clear hfz14_0
            try clear hfz14_1
            try clear hfz14_2
            try clear hfz14_3
            try clear hfz14_4
            try clear hfz14_5
            try clear hfz14_6
            try clear hfz16_0
            try clear hfz16_1
            try clear hfz16_2
            try clear hfz16_3
            try clear hfz16_4
            try clear hfz16_5
            try clear hfz16_6
            try clear hfz20_0
            try clear hfz20_1
            try clear hfz20_2
            try clear hfz20_3
            try clear hfz20_4
            try clear hfz20_5
            try clear hfz20_6
            try clear hfz22_0
            try clear hfz22_1
            try clear hfz22_2
            try clear hfz22_3
            try clear hfz22_4
            try clear hfz22_5
            try clear hfz22_6
            try clear hfz24_0
            try clear hfz24_1
            try clear hfz24_2
            try clear hfz24_3
            try clear hfz24_4
            try clear hfz24_5
            try clear hfz24_6
            try clear hfz25_0
            try clear hfz25_1
            try clear hfz25_2
            try clear hfz25_3
            try clear hfz25_4
            try clear hfz25_5
            try clear hfz25_6
            try clear hfz27_0
            try clear hfz27_1
            try clear hfz27_2
            try clear hfz27_3
            try clear hfz27_4
            try clear hfz27_5
            try clear hfz27_6
            try clear hfz29_0
            try clear hfz29_1
            try clear hfz29_2
            try clear hfz29_3
            try clear hfz29_4
            try clear hfz29_5
            try clear hfz29_6
            try clear hfz31_0
            try clear hfz31_1
            try clear hfz31_2
            try clear hfz31_3
            try clear hfz31_4
            try clear hfz31_5
            try clear hfz31_6
            try clear hfz32_0
            try clear hfz32_1
            try clear hfz32_2
            try clear hfz32_3
            try clear hfz32_4
            try clear hfz32_5
            try clear hfz32_6
            try clear hfz34_0
            try clear hfz34_1
            try clear hfz34_2
            try clear hfz34_3
            try clear hfz34_4
            try clear hfz34_5
            try clear hfz34_6
            try clear hfz36_0
            try clear hfz36_1
            try clear hfz36_2
            try clear hfz36_3
            try clear hfz36_4
            try clear hfz36_5
            try clear hfz36_6
            try clear hfz38_0
            try clear hfz38_1
            try clear hfz38_2
            try clear hfz38_3
            try clear hfz38_4
            try clear hfz38_5
            try clear hfz38_6
            try clear hfz39_0
            try clear hfz39_1
            try clear hfz39_2
            try clear hfz39_3
            try clear hfz39_4
            try clear hfz39_5
            try clear hfz39_6
            try clear hfz41_0
            try clear hfz41_1
            try clear hfz41_2
            try clear hfz41_3
            try clear hfz41_4
            try clear hfz41_5
            try clear hfz41_6
            try clear hfz43_0
            try clear hfz43_1
            try clear hfz43_2
            try clear hfz43_3
            try clear hfz43_4
            try clear hfz43_5
            try clear hfz43_6
            try clear hfz46_0
            try clear hfz46_1
            try clear hfz46_2
            try clear hfz46_3
            try clear hfz46_4
            try clear hfz46_5
            try clear hfz46_6
            try clear hfz52_0
            try clear hfz52_1
            try clear hfz52_2
            try clear hfz52_3
            try clear hfz52_4
            try clear hfz52_5
            try clear hfz52_6
            try clear p2
            obtain ⟨kq, x41_49, rfl, HA, HJ49, BK171, BK172, HB⟩ := hcut
            cases kq with
            | zero => exact absurd HA.out (by simp [hopmeshref25_Answers.j1])
            | succ kj49 =>
              have H := HA.out
              clear HA
              simp only [hopmeshref25_Answers.j1] at H
              by_cases c54 : x41_49 = true
              · subst c54
                have H1 : (if a1_4 ≤ a0_4 then ((hopmeshref25_among.f kj49 l1_5 l0_5).bind fun t175 => (if t175 = true then ((hopmeshref25_among.f kj49 l1_6 l0_6).bind fun t176 => (some t176)) else (some false))) else (some false)) = some r := by rw [if_pos rfl] at H; exact H
                clear H
                have H := H1
                clear H1
                by_cases c55 : a1_4 ≤ a0_4
                · rw [if_pos c55] at H
                  have c55b0 : decide (a1_4 ≤ a0_4) = true := decide_eq_true c55
                  clear c55
                  replace H := Option.bind_eq_some_iff.mp H
                  obtain ⟨t175, A560, H⟩ := H
                  replace H : (if t175 = true then ((hopmeshref25_among.f kj49 l1_6 l0_6).bind fun t176 => (some t176)) else (some false)) = some r := H
                  have A56 := Aside0.mk A560
                  clear A560
                  by_cases c57 : t175 = true
                  · subst c57
                    have H1 : ((hopmeshref25_among.f kj49 l1_6 l0_6).bind fun t176 => (some t176)) = some r := by rw [if_pos rfl] at H; exact H
                    clear H
                    have H := H1
                    clear H1
                    replace H := Option.bind_eq_some_iff.mp H
                    obtain ⟨t176, A580, H⟩ := H
                    replace H : (some t176) = some r := H
                    have A58 := Aside0.mk A580
                    clear A580
                    obtain rfl := Option.some.inj H
                    have hnb59 := NB172_171.out
                    have hnc59 := NB171_172.out
                    have hcz60_0 : wc.cell? ⟨gb172, 0, none⟩ = some (.int .i64 a1_0) := (blk_cell BK172.out 0).trans rfl
                    have hcz60_1 : wc.cell? ⟨gb172, 1, none⟩ = some (.bool a1_1) := (blk_cell BK172.out 1).trans rfl
                    have hcz60_2 : wc.cell? ⟨gb172, 2, none⟩ = some (.int .i64 a1_2) := (blk_cell BK172.out 2).trans rfl
                    have hcz60_3 : wc.cell? ⟨gb172, 3, none⟩ = some (.int .i64 a1_3) := (blk_cell BK172.out 3).trans rfl
                    have hcz60_4 : wc.cell? ⟨gb172, 4, none⟩ = some (.int .i64 a1_4) := (blk_cell BK172.out 4).trans rfl
                    have hcz60_5 : wc.cell? ⟨gb172, 5, none⟩ = some (.slice A1_5 l1_5.length c1_5) := (blk_cell BK172.out 5).trans rfl
                    have hcz60_6 : wc.cell? ⟨gb172, 6, none⟩ = some (.slice A1_6 l1_6.length c1_6) := (blk_cell BK172.out 6).trans rfl
                    have hfz60_0 := blk_frozen BK172.out 0
                    have hfz60_1 := blk_frozen BK172.out 1
                    have hfz60_2 := blk_frozen BK172.out 2
                    have hfz60_3 := blk_frozen BK172.out 3
                    have hfz60_4 := blk_frozen BK172.out 4
                    have hfz60_5 := blk_frozen BK172.out 5
                    have hfz60_6 := blk_frozen BK172.out 6
                    have hcz61_0 : wc.cell? ⟨gb171, 0, none⟩ = some (.int .i64 a0_0) := (blk_cell BK171.out 0).trans rfl
                    have hcz61_1 : wc.cell? ⟨gb171, 1, none⟩ = some (.bool a0_1) := (blk_cell BK171.out 1).trans rfl
                    have hcz61_2 : wc.cell? ⟨gb171, 2, none⟩ = some (.int .i64 a0_2) := (blk_cell BK171.out 2).trans rfl
                    have hcz61_3 : wc.cell? ⟨gb171, 3, none⟩ = some (.int .i64 a0_3) := (blk_cell BK171.out 3).trans rfl
                    have hcz61_4 : wc.cell? ⟨gb171, 4, none⟩ = some (.int .i64 a0_4) := (blk_cell BK171.out 4).trans rfl
                    have hcz61_5 : wc.cell? ⟨gb171, 5, none⟩ = some (.slice A0_5 l0_5.length c0_5) := (blk_cell BK171.out 5).trans rfl
                    have hcz61_6 : wc.cell? ⟨gb171, 6, none⟩ = some (.slice A0_6 l0_6.length c0_6) := (blk_cell BK171.out 6).trans rfl
                    have hfz61_0 := blk_frozen BK171.out 0
                    have hfz61_1 := blk_frozen BK171.out 1
                    have hfz61_2 := blk_frozen BK171.out 2
                    have hfz61_3 := blk_frozen BK171.out 3
                    have hfz61_4 := blk_frozen BK171.out 4
                    have hfz61_5 := blk_frozen BK171.out 5
                    have hfz61_6 := blk_frozen BK171.out 6
                    go_wp2_with (first | (go_at_call 41; (with_reducible refine (hopmeshref25_among.calls kj49 _ _ l1_5 _ _ l0_5 true _ ?side1 ?side2 ?side3 ?side4 A56.out).mono ?_); (case side1 => repeat (first | exact (Kd.C_below HR1_5.out HB.out) | (with_reducible refine Kd.C_alloc ?_ _) | (with_reducible refine Kd.C_drewN ?_ _) | (with_reducible refine Kd.C_drew ?_))); (case side2 => exact HC1_5.out); (case side3 => repeat (first | exact (Kd.C_below HR0_5.out HB.out) | (with_reducible refine Kd.C_alloc ?_ _) | (with_reducible refine Kd.C_drewN ?_ _) | (with_reducible refine Kd.C_drew ?_))); (case side4 => exact HC0_5.out); rintro e w62 ⟨rfl, hb⟩; have n0_ := Aside0.mk (blk_below (g := gb171) (o := .cells #[.int .i64 a0_0, .bool a0_1, .int .i64 a0_2, .int .i64 a0_3, .int .i64 a0_4, .slice A0_5 l0_5.length c0_5, .slice A0_6 l0_6.length c0_6] 24 (0, 0)) (by (with_reducible repeat (first | refine blk_drewN ?_ _ | refine blk_drew ?_ | refine blk_alloc ?_ _)); exact BK171.out) hb); have n1_ := Aside0.mk (blk_below (g := gb172) (o := .cells #[.int .i64 a1_0, .bool a1_1, .int .i64 a1_2, .int .i64 a1_3, .int .i64 a1_4, .slice A1_5 l1_5.length c1_5, .slice A1_6 l1_6.length c1_6] 24 (0, 0)) (by (with_reducible repeat (first | refine blk_drewN ?_ _ | refine blk_drew ?_ | refine blk_alloc ?_ _)); exact BK172.out) hb); have n2_ := Aside0.mk (below_step (by repeat (first | (with_reducible first | exact HB.out | apply below_alloc | apply pw_below_drewN | apply below_drew1 | refine below_set ?_ GE171.out | refine below_set ?_ GE172.out) | exact HB.out)) hb); clear BK171; clear BK172; clear HB; have BK171 := n0_; have BK172 := n1_; have HB := n2_; clear n0_ n1_ n2_; (try clear hb); (try clear hb2); (try clear hk); (try clear hi); have hcz63_0 : w62.cell? ⟨gb172, 0, none⟩ = some (.int .i64 a1_0) := (blk_cell BK172.out 0).trans rfl; have hcz63_1 : w62.cell? ⟨gb172, 1, none⟩ = some (.bool a1_1) := (blk_cell BK172.out 1).trans rfl; have hcz63_2 : w62.cell? ⟨gb172, 2, none⟩ = some (.int .i64 a1_2) := (blk_cell BK172.out 2).trans rfl; have hcz63_3 : w62.cell? ⟨gb172, 3, none⟩ = some (.int .i64 a1_3) := (blk_cell BK172.out 3).trans rfl; have hcz63_4 : w62.cell? ⟨gb172, 4, none⟩ = some (.int .i64 a1_4) := (blk_cell BK172.out 4).trans rfl; have hcz63_5 : w62.cell? ⟨gb172, 5, none⟩ = some (.slice A1_5 l1_5.length c1_5) := (blk_cell BK172.out 5).trans rfl; have hcz63_6 : w62.cell? ⟨gb172, 6, none⟩ = some (.slice A1_6 l1_6.length c1_6) := (blk_cell BK172.out 6).trans rfl; have hfz63_0 := blk_frozen BK172.out 0; have hfz63_1 := blk_frozen BK172.out 1; have hfz63_2 := blk_frozen BK172.out 2; have hfz63_3 := blk_frozen BK172.out 3; have hfz63_4 := blk_frozen BK172.out 4; have hfz63_5 := blk_frozen BK172.out 5; have hfz63_6 := blk_frozen BK172.out 6; have hcz64_0 : w62.cell? ⟨gb171, 0, none⟩ = some (.int .i64 a0_0) := (blk_cell BK171.out 0).trans rfl; have hcz64_1 : w62.cell? ⟨gb171, 1, none⟩ = some (.bool a0_1) := (blk_cell BK171.out 1).trans rfl; have hcz64_2 : w62.cell? ⟨gb171, 2, none⟩ = some (.int .i64 a0_2) := (blk_cell BK171.out 2).trans rfl; have hcz64_3 : w62.cell? ⟨gb171, 3, none⟩ = some (.int .i64 a0_3) := (blk_cell BK171.out 3).trans rfl; have hcz64_4 : w62.cell? ⟨gb171, 4, none⟩ = some (.int .i64 a0_4) := (blk_cell BK171.out 4).trans rfl; have hcz64_5 : w62.cell? ⟨gb171, 5, none⟩ = some (.slice A0_5 l0_5.length c0_5) := (blk_cell BK171.out 5).trans rfl; have hcz64_6 : w62.cell? ⟨gb171, 6, none⟩ = some (.slice A0_6 l0_6.length c0_6) := (blk_cell BK171.out 6).trans rfl; have hfz64_0 := blk_frozen BK171.out 0; have hfz64_1 := blk_frozen BK171.out 1; have hfz64_2 := blk_frozen BK171.out 2; have hfz64_3 := blk_frozen BK171.out 3; have hfz64_4 := blk_frozen BK171.out 4; have hfz64_5 := blk_frozen BK171.out 5; have hfz64_6 := blk_frozen BK171.out 6) | (go_at_call 41; (with_reducible refine (hopmeshref25_among.calls kj49 _ _ l1_6 _ _ l0_6 t176 _ ?side1 ?side2 ?side3 ?side4 A58.out).mono ?_); (case side1 => repeat (first | exact (Kd.C_below HR1_6.out HB.out) | (with_reducible refine Kd.C_alloc ?_ _) | (with_reducible refine Kd.C_drewN ?_ _) | (with_reducible refine Kd.C_drew ?_))); (case side2 => exact HC1_6.out); (case side3 => repeat (first | exact (Kd.C_below HR0_6.out HB.out) | (with_reducible refine Kd.C_alloc ?_ _) | (with_reducible refine Kd.C_drewN ?_ _) | (with_reducible refine Kd.C_drew ?_))); (case side4 => exact HC0_6.out); rintro e w65 ⟨rfl, hb⟩; have n0_ := Aside0.mk (blk_below (g := gb171) (o := .cells #[.int .i64 a0_0, .bool a0_1, .int .i64 a0_2, .int .i64 a0_3, .int .i64 a0_4, .slice A0_5 l0_5.length c0_5, .slice A0_6 l0_6.length c0_6] 24 (0, 0)) (by (with_reducible repeat (first | refine blk_drewN ?_ _ | refine blk_drew ?_ | refine blk_alloc ?_ _)); exact BK171.out) hb); have n1_ := Aside0.mk (blk_below (g := gb172) (o := .cells #[.int .i64 a1_0, .bool a1_1, .int .i64 a1_2, .int .i64 a1_3, .int .i64 a1_4, .slice A1_5 l1_5.length c1_5, .slice A1_6 l1_6.length c1_6] 24 (0, 0)) (by (with_reducible repeat (first | refine blk_drewN ?_ _ | refine blk_drew ?_ | refine blk_alloc ?_ _)); exact BK172.out) hb); have n2_ := Aside0.mk (below_step (by repeat (first | (with_reducible first | exact HB.out | apply below_alloc | apply pw_below_drewN | apply below_drew1 | refine below_set ?_ GE171.out | refine below_set ?_ GE172.out) | exact HB.out)) hb); clear BK171; clear BK172; clear HB; have BK171 := n0_; have BK172 := n1_; have HB := n2_; clear n0_ n1_ n2_; (try clear hb); (try clear hb2); (try clear hk); (try clear hi)))
                    go_ret
                    exact ⟨by first | rfl | (simp [errW_none, errW_some] <;> rfl) | (simp [*, errW_none, errW_some] <;> rfl), by repeat (first | (with_reducible first | exact HB.out | apply below_alloc | apply pw_below_drewN | apply below_drew1 | refine below_set ?_ GE171.out | refine below_set ?_ GE172.out) | exact HB.out)⟩
                  · replace c57 := Bool.eq_false_iff.mpr c57
                    subst c57
                    have H1 : (some false) = some r := by rw [if_neg (show ¬ (false = true) by decide)] at H; exact H
                    clear H
                    have H := H1
                    clear H1
                    obtain rfl := Option.some.inj H
                    have hnb66 := NB172_171.out
                    have hnc66 := NB171_172.out
                    have hcz67_0 : wc.cell? ⟨gb172, 0, none⟩ = some (.int .i64 a1_0) := (blk_cell BK172.out 0).trans rfl
                    have hcz67_1 : wc.cell? ⟨gb172, 1, none⟩ = some (.bool a1_1) := (blk_cell BK172.out 1).trans rfl
                    have hcz67_2 : wc.cell? ⟨gb172, 2, none⟩ = some (.int .i64 a1_2) := (blk_cell BK172.out 2).trans rfl
                    have hcz67_3 : wc.cell? ⟨gb172, 3, none⟩ = some (.int .i64 a1_3) := (blk_cell BK172.out 3).trans rfl
                    have hcz67_4 : wc.cell? ⟨gb172, 4, none⟩ = some (.int .i64 a1_4) := (blk_cell BK172.out 4).trans rfl
                    have hcz67_5 : wc.cell? ⟨gb172, 5, none⟩ = some (.slice A1_5 l1_5.length c1_5) := (blk_cell BK172.out 5).trans rfl
                    have hcz67_6 : wc.cell? ⟨gb172, 6, none⟩ = some (.slice A1_6 l1_6.length c1_6) := (blk_cell BK172.out 6).trans rfl
                    have hfz67_0 := blk_frozen BK172.out 0
                    have hfz67_1 := blk_frozen BK172.out 1
                    have hfz67_2 := blk_frozen BK172.out 2
                    have hfz67_3 := blk_frozen BK172.out 3
                    have hfz67_4 := blk_frozen BK172.out 4
                    have hfz67_5 := blk_frozen BK172.out 5
                    have hfz67_6 := blk_frozen BK172.out 6
                    have hcz68_0 : wc.cell? ⟨gb171, 0, none⟩ = some (.int .i64 a0_0) := (blk_cell BK171.out 0).trans rfl
                    have hcz68_1 : wc.cell? ⟨gb171, 1, none⟩ = some (.bool a0_1) := (blk_cell BK171.out 1).trans rfl
                    have hcz68_2 : wc.cell? ⟨gb171, 2, none⟩ = some (.int .i64 a0_2) := (blk_cell BK171.out 2).trans rfl
                    have hcz68_3 : wc.cell? ⟨gb171, 3, none⟩ = some (.int .i64 a0_3) := (blk_cell BK171.out 3).trans rfl
                    have hcz68_4 : wc.cell? ⟨gb171, 4, none⟩ = some (.int .i64 a0_4) := (blk_cell BK171.out 4).trans rfl
                    have hcz68_5 : wc.cell? ⟨gb171, 5, none⟩ = some (.slice A0_5 l0_5.length c0_5) := (blk_cell BK171.out 5).trans rfl
                    have hcz68_6 : wc.cell? ⟨gb171, 6, none⟩ = some (.slice A0_6 l0_6.length c0_6) := (blk_cell BK171.out 6).trans rfl
                    have hfz68_0 := blk_frozen BK171.out 0
                    have hfz68_1 := blk_frozen BK171.out 1
                    have hfz68_2 := blk_frozen BK171.out 2
                    have hfz68_3 := blk_frozen BK171.out 3
                    have hfz68_4 := blk_frozen BK171.out 4
                    have hfz68_5 := blk_frozen BK171.out 5
                    have hfz68_6 := blk_frozen BK171.out 6
                    go_wp2_with (first | (go_at_call 41; (with_reducible refine (hopmeshref25_among.calls kj49 _ _ l1_5 _ _ l0_5 false _ ?side1 ?side2 ?side3 ?side4 A56.out).mono ?_); (case side1 => repeat (first | exact (Kd.C_below HR1_5.out HB.out) | (with_reducible refine Kd.C_alloc ?_ _) | (with_reducible refine Kd.C_drewN ?_ _) | (with_reducible refine Kd.C_drew ?_))); (case side2 => exact HC1_5.out); (case side3 => repeat (first | exact (Kd.C_below HR0_5.out HB.out) | (with_reducible refine Kd.C_alloc ?_ _) | (with_reducible refine Kd.C_drewN ?_ _) | (with_reducible refine Kd.C_drew ?_))); (case side4 => exact HC0_5.out); rintro e w69 ⟨rfl, hb⟩; have n0_ := Aside0.mk (blk_below (g := gb171) (o := .cells #[.int .i64 a0_0, .bool a0_1, .int .i64 a0_2, .int .i64 a0_3, .int .i64 a0_4, .slice A0_5 l0_5.length c0_5, .slice A0_6 l0_6.length c0_6] 24 (0, 0)) (by (with_reducible repeat (first | refine blk_drewN ?_ _ | refine blk_drew ?_ | refine blk_alloc ?_ _)); exact BK171.out) hb); have n1_ := Aside0.mk (blk_below (g := gb172) (o := .cells #[.int .i64 a1_0, .bool a1_1, .int .i64 a1_2, .int .i64 a1_3, .int .i64 a1_4, .slice A1_5 l1_5.length c1_5, .slice A1_6 l1_6.length c1_6] 24 (0, 0)) (by (with_reducible repeat (first | refine blk_drewN ?_ _ | refine blk_drew ?_ | refine blk_alloc ?_ _)); exact BK172.out) hb); have n2_ := Aside0.mk (below_step (by repeat (first | (with_reducible first | exact HB.out | apply below_alloc | apply pw_below_drewN | apply below_drew1 | refine below_set ?_ GE171.out | refine below_set ?_ GE172.out) | exact HB.out)) hb); clear BK171; clear BK172; clear HB; have BK171 := n0_; have BK172 := n1_; have HB := n2_; clear n0_ n1_ n2_; (try clear hb); (try clear hb2); (try clear hk); (try clear hi)))
                    go_ret
                    exact ⟨by first | rfl | (simp [errW_none, errW_some] <;> rfl) | (simp [*, errW_none, errW_some] <;> rfl), by repeat (first | (with_reducible first | exact HB.out | apply below_alloc | apply pw_below_drewN | apply below_drew1 | refine below_set ?_ GE171.out | refine below_set ?_ GE172.out) | exact HB.out)⟩
                · rw [if_neg c55] at H
                  have c55b0 : decide (a1_4 ≤ a0_4) = false := decide_eq_false c55
                  clear c55
                  obtain rfl := Option.some.inj H
                  have hnb70 := NB172_171.out
                  have hnc70 := NB171_172.out
                  have hcz71_0 : wc.cell? ⟨gb172, 0, none⟩ = some (.int .i64 a1_0) := (blk_cell BK172.out 0).trans rfl
                  have hcz71_1 : wc.cell? ⟨gb172, 1, none⟩ = some (.bool a1_1) := (blk_cell BK172.out 1).trans rfl
                  have hcz71_2 : wc.cell? ⟨gb172, 2, none⟩ = some (.int .i64 a1_2) := (blk_cell BK172.out 2).trans rfl
                  have hcz71_3 : wc.cell? ⟨gb172, 3, none⟩ = some (.int .i64 a1_3) := (blk_cell BK172.out 3).trans rfl
                  have hcz71_4 : wc.cell? ⟨gb172, 4, none⟩ = some (.int .i64 a1_4) := (blk_cell BK172.out 4).trans rfl
                  have hcz71_5 : wc.cell? ⟨gb172, 5, none⟩ = some (.slice A1_5 l1_5.length c1_5) := (blk_cell BK172.out 5).trans rfl
                  have hcz71_6 : wc.cell? ⟨gb172, 6, none⟩ = some (.slice A1_6 l1_6.length c1_6) := (blk_cell BK172.out 6).trans rfl
                  have hfz71_0 := blk_frozen BK172.out 0
                  have hfz71_1 := blk_frozen BK172.out 1
                  have hfz71_2 := blk_frozen BK172.out 2
                  have hfz71_3 := blk_frozen BK172.out 3
                  have hfz71_4 := blk_frozen BK172.out 4
                  have hfz71_5 := blk_frozen BK172.out 5
                  have hfz71_6 := blk_frozen BK172.out 6
                  have hcz72_0 : wc.cell? ⟨gb171, 0, none⟩ = some (.int .i64 a0_0) := (blk_cell BK171.out 0).trans rfl
                  have hcz72_1 : wc.cell? ⟨gb171, 1, none⟩ = some (.bool a0_1) := (blk_cell BK171.out 1).trans rfl
                  have hcz72_2 : wc.cell? ⟨gb171, 2, none⟩ = some (.int .i64 a0_2) := (blk_cell BK171.out 2).trans rfl
                  have hcz72_3 : wc.cell? ⟨gb171, 3, none⟩ = some (.int .i64 a0_3) := (blk_cell BK171.out 3).trans rfl
                  have hcz72_4 : wc.cell? ⟨gb171, 4, none⟩ = some (.int .i64 a0_4) := (blk_cell BK171.out 4).trans rfl
                  have hcz72_5 : wc.cell? ⟨gb171, 5, none⟩ = some (.slice A0_5 l0_5.length c0_5) := (blk_cell BK171.out 5).trans rfl
                  have hcz72_6 : wc.cell? ⟨gb171, 6, none⟩ = some (.slice A0_6 l0_6.length c0_6) := (blk_cell BK171.out 6).trans rfl
                  have hfz72_0 := blk_frozen BK171.out 0
                  have hfz72_1 := blk_frozen BK171.out 1
                  have hfz72_2 := blk_frozen BK171.out 2
                  have hfz72_3 := blk_frozen BK171.out 3
                  have hfz72_4 := blk_frozen BK171.out 4
                  have hfz72_5 := blk_frozen BK171.out 5
                  have hfz72_6 := blk_frozen BK171.out 6
                  go_wp2
                  go_ret
                  exact ⟨by first | rfl | (simp [errW_none, errW_some] <;> rfl) | (simp [*, errW_none, errW_some] <;> rfl), by repeat (first | (with_reducible first | exact HB.out | apply below_alloc | apply pw_below_drewN | apply below_drew1 | refine below_set ?_ GE171.out | refine below_set ?_ GE172.out) | exact HB.out)⟩
              · replace c54 := Bool.eq_false_iff.mpr c54
                subst c54
                have H1 : (if a1_0 = 2 then (if (l1_6.length : Int) = (l0_6.length : Int) then ((hopmeshref25_among.f kj49 l1_6 l0_6).bind fun t177 => (some t177)) else (some false)) else (some true)) = some r := by rw [if_neg (show ¬ (false = true) by decide)] at H; exact H
                clear H
                have H := H1
                clear H1
                by_cases c73 : a1_0 = 2
                · rw [if_pos c73] at H
                  have c73b0 : (a1_0 == 2) = true := beq_iff_eq.mpr c73
                  have c73b1 : (a1_0 != 2) = false := bne_eq_false_iff_eq.mpr c73
                  clear c73
                  by_cases c74 : (l1_6.length : Int) = (l0_6.length : Int)
                  · rw [if_pos c74] at H
                    have c74b0 : ((l1_6.length : Int) == (l0_6.length : Int)) = true := beq_iff_eq.mpr c74
                    have c74b1 : ((l1_6.length : Int) != (l0_6.length : Int)) = false := bne_eq_false_iff_eq.mpr c74
                    have c74b2 : (l1_6.length == l0_6.length) = true := by first | simpa using c74 | (simp at c74 ⊢; omega)
                    clear c74
                    replace H := Option.bind_eq_some_iff.mp H
                    obtain ⟨t177, A750, H⟩ := H
                    replace H : (some t177) = some r := H
                    have A75 := Aside0.mk A750
                    clear A750
                    obtain rfl := Option.some.inj H
                    have hnb76 := NB172_171.out
                    have hnc76 := NB171_172.out
                    have hcz77_0 : wc.cell? ⟨gb172, 0, none⟩ = some (.int .i64 a1_0) := (blk_cell BK172.out 0).trans rfl
                    have hcz77_1 : wc.cell? ⟨gb172, 1, none⟩ = some (.bool a1_1) := (blk_cell BK172.out 1).trans rfl
                    have hcz77_2 : wc.cell? ⟨gb172, 2, none⟩ = some (.int .i64 a1_2) := (blk_cell BK172.out 2).trans rfl
                    have hcz77_3 : wc.cell? ⟨gb172, 3, none⟩ = some (.int .i64 a1_3) := (blk_cell BK172.out 3).trans rfl
                    have hcz77_4 : wc.cell? ⟨gb172, 4, none⟩ = some (.int .i64 a1_4) := (blk_cell BK172.out 4).trans rfl
                    have hcz77_5 : wc.cell? ⟨gb172, 5, none⟩ = some (.slice A1_5 l1_5.length c1_5) := (blk_cell BK172.out 5).trans rfl
                    have hcz77_6 : wc.cell? ⟨gb172, 6, none⟩ = some (.slice A1_6 l1_6.length c1_6) := (blk_cell BK172.out 6).trans rfl
                    have hfz77_0 := blk_frozen BK172.out 0
                    have hfz77_1 := blk_frozen BK172.out 1
                    have hfz77_2 := blk_frozen BK172.out 2
                    have hfz77_3 := blk_frozen BK172.out 3
                    have hfz77_4 := blk_frozen BK172.out 4
                    have hfz77_5 := blk_frozen BK172.out 5
                    have hfz77_6 := blk_frozen BK172.out 6
                    have hcz78_0 : wc.cell? ⟨gb171, 0, none⟩ = some (.int .i64 a0_0) := (blk_cell BK171.out 0).trans rfl
                    have hcz78_1 : wc.cell? ⟨gb171, 1, none⟩ = some (.bool a0_1) := (blk_cell BK171.out 1).trans rfl
                    have hcz78_2 : wc.cell? ⟨gb171, 2, none⟩ = some (.int .i64 a0_2) := (blk_cell BK171.out 2).trans rfl
                    have hcz78_3 : wc.cell? ⟨gb171, 3, none⟩ = some (.int .i64 a0_3) := (blk_cell BK171.out 3).trans rfl
                    have hcz78_4 : wc.cell? ⟨gb171, 4, none⟩ = some (.int .i64 a0_4) := (blk_cell BK171.out 4).trans rfl
                    have hcz78_5 : wc.cell? ⟨gb171, 5, none⟩ = some (.slice A0_5 l0_5.length c0_5) := (blk_cell BK171.out 5).trans rfl
                    have hcz78_6 : wc.cell? ⟨gb171, 6, none⟩ = some (.slice A0_6 l0_6.length c0_6) := (blk_cell BK171.out 6).trans rfl
                    have hfz78_0 := blk_frozen BK171.out 0
                    have hfz78_1 := blk_frozen BK171.out 1
                    have hfz78_2 := blk_frozen BK171.out 2
                    have hfz78_3 := blk_frozen BK171.out 3
                    have hfz78_4 := blk_frozen BK171.out 4
                    have hfz78_5 := blk_frozen BK171.out 5
                    have hfz78_6 := blk_frozen BK171.out 6
                    go_wp2_with (first | (go_at_call 41; (with_reducible refine (hopmeshref25_among.calls kj49 _ _ l1_6 _ _ l0_6 t177 _ ?side1 ?side2 ?side3 ?side4 A75.out).mono ?_); (case side1 => repeat (first | exact (Kd.C_below HR1_6.out HB.out) | (with_reducible refine Kd.C_alloc ?_ _) | (with_reducible refine Kd.C_drewN ?_ _) | (with_reducible refine Kd.C_drew ?_))); (case side2 => exact HC1_6.out); (case side3 => repeat (first | exact (Kd.C_below HR0_6.out HB.out) | (with_reducible refine Kd.C_alloc ?_ _) | (with_reducible refine Kd.C_drewN ?_ _) | (with_reducible refine Kd.C_drew ?_))); (case side4 => exact HC0_6.out); rintro e w79 ⟨rfl, hb⟩; have n0_ := Aside0.mk (blk_below (g := gb171) (o := .cells #[.int .i64 a0_0, .bool a0_1, .int .i64 a0_2, .int .i64 a0_3, .int .i64 a0_4, .slice A0_5 l0_5.length c0_5, .slice A0_6 l0_6.length c0_6] 24 (0, 0)) (by (with_reducible repeat (first | refine blk_drewN ?_ _ | refine blk_drew ?_ | refine blk_alloc ?_ _)); exact BK171.out) hb); have n1_ := Aside0.mk (blk_below (g := gb172) (o := .cells #[.int .i64 a1_0, .bool a1_1, .int .i64 a1_2, .int .i64 a1_3, .int .i64 a1_4, .slice A1_5 l1_5.length c1_5, .slice A1_6 l1_6.length c1_6] 24 (0, 0)) (by (with_reducible repeat (first | refine blk_drewN ?_ _ | refine blk_drew ?_ | refine blk_alloc ?_ _)); exact BK172.out) hb); have n2_ := Aside0.mk (below_step (by repeat (first | (with_reducible first | exact HB.out | apply below_alloc | apply pw_below_drewN | apply below_drew1 | refine below_set ?_ GE171.out | refine below_set ?_ GE172.out) | exact HB.out)) hb); clear BK171; clear BK172; clear HB; have BK171 := n0_; have BK172 := n1_; have HB := n2_; clear n0_ n1_ n2_; (try clear hb); (try clear hb2); (try clear hk); (try clear hi)))
                    go_ret
                    exact ⟨by first | rfl | (simp [errW_none, errW_some] <;> rfl) | (simp [*, errW_none, errW_some] <;> rfl), by repeat (first | (with_reducible first | exact HB.out | apply below_alloc | apply pw_below_drewN | apply below_drew1 | refine below_set ?_ GE171.out | refine below_set ?_ GE172.out) | exact HB.out)⟩
                  · rw [if_neg c74] at H
                    have c74b0 : ((l1_6.length : Int) == (l0_6.length : Int)) = false := beq_eq_false_iff_ne.mpr c74
                    have c74b1 : ((l1_6.length : Int) != (l0_6.length : Int)) = true := bne_iff_ne.mpr c74
                    have c74b2 : (l1_6.length == l0_6.length) = false := by first | simpa using c74 | (simp at c74 ⊢; omega)
                    obtain rfl := Option.some.inj H
                    have hnb80 := NB172_171.out
                    have hnc80 := NB171_172.out
                    have hcz81_0 : wc.cell? ⟨gb172, 0, none⟩ = some (.int .i64 a1_0) := (blk_cell BK172.out 0).trans rfl
                    have hcz81_1 : wc.cell? ⟨gb172, 1, none⟩ = some (.bool a1_1) := (blk_cell BK172.out 1).trans rfl
                    have hcz81_2 : wc.cell? ⟨gb172, 2, none⟩ = some (.int .i64 a1_2) := (blk_cell BK172.out 2).trans rfl
                    have hcz81_3 : wc.cell? ⟨gb172, 3, none⟩ = some (.int .i64 a1_3) := (blk_cell BK172.out 3).trans rfl
                    have hcz81_4 : wc.cell? ⟨gb172, 4, none⟩ = some (.int .i64 a1_4) := (blk_cell BK172.out 4).trans rfl
                    have hcz81_5 : wc.cell? ⟨gb172, 5, none⟩ = some (.slice A1_5 l1_5.length c1_5) := (blk_cell BK172.out 5).trans rfl
                    have hcz81_6 : wc.cell? ⟨gb172, 6, none⟩ = some (.slice A1_6 l1_6.length c1_6) := (blk_cell BK172.out 6).trans rfl
                    have hfz81_0 := blk_frozen BK172.out 0
                    have hfz81_1 := blk_frozen BK172.out 1
                    have hfz81_2 := blk_frozen BK172.out 2
                    have hfz81_3 := blk_frozen BK172.out 3
                    have hfz81_4 := blk_frozen BK172.out 4
                    have hfz81_5 := blk_frozen BK172.out 5
                    have hfz81_6 := blk_frozen BK172.out 6
                    have hcz82_0 : wc.cell? ⟨gb171, 0, none⟩ = some (.int .i64 a0_0) := (blk_cell BK171.out 0).trans rfl
                    have hcz82_1 : wc.cell? ⟨gb171, 1, none⟩ = some (.bool a0_1) := (blk_cell BK171.out 1).trans rfl
                    have hcz82_2 : wc.cell? ⟨gb171, 2, none⟩ = some (.int .i64 a0_2) := (blk_cell BK171.out 2).trans rfl
                    have hcz82_3 : wc.cell? ⟨gb171, 3, none⟩ = some (.int .i64 a0_3) := (blk_cell BK171.out 3).trans rfl
                    have hcz82_4 : wc.cell? ⟨gb171, 4, none⟩ = some (.int .i64 a0_4) := (blk_cell BK171.out 4).trans rfl
                    have hcz82_5 : wc.cell? ⟨gb171, 5, none⟩ = some (.slice A0_5 l0_5.length c0_5) := (blk_cell BK171.out 5).trans rfl
                    have hcz82_6 : wc.cell? ⟨gb171, 6, none⟩ = some (.slice A0_6 l0_6.length c0_6) := (blk_cell BK171.out 6).trans rfl
                    have hfz82_0 := blk_frozen BK171.out 0
                    have hfz82_1 := blk_frozen BK171.out 1
                    have hfz82_2 := blk_frozen BK171.out 2
                    have hfz82_3 := blk_frozen BK171.out 3
                    have hfz82_4 := blk_frozen BK171.out 4
                    have hfz82_5 := blk_frozen BK171.out 5
                    have hfz82_6 := blk_frozen BK171.out 6
                    go_wp2
                    go_ret
                    exact ⟨by first | rfl | (simp [errW_none, errW_some] <;> rfl) | (simp [*, errW_none, errW_some] <;> rfl), by repeat (first | (with_reducible first | exact HB.out | apply below_alloc | apply pw_below_drewN | apply below_drew1 | refine below_set ?_ GE171.out | refine below_set ?_ GE172.out) | exact HB.out)⟩
                · rw [if_neg c73] at H
                  have c73b0 : (a1_0 == 2) = false := beq_eq_false_iff_ne.mpr c73
                  have c73b1 : (a1_0 != 2) = true := bne_iff_ne.mpr c73
                  obtain rfl := Option.some.inj H
                  go_wp2
                  go_ret
                  exact ⟨by first | rfl | (simp [errW_none, errW_some] <;> rfl) | (simp [*, errW_none, errW_some] <;> rfl), by repeat (first | (with_reducible first | exact HB.out | apply below_alloc | apply pw_below_drewN | apply below_drew1 | refine below_set ?_ GE171.out | refine below_set ?_ GE172.out) | exact HB.out)⟩
        · rw [if_neg c49] at H
          have c49b0 : (a1_3 == 0) = false := beq_eq_false_iff_ne.mpr c49
          have c49b1 : (a1_3 != 0) = true := bne_iff_ne.mpr c49
          obtain rfl := Option.some.inj H
          have hnb83 := NB172_171.out
          have hnc83 := NB171_172.out
          have hcz84_0 : wc.cell? ⟨gb172, 0, none⟩ = some (.int .i64 a1_0) := (blk_cell BK172.out 0).trans rfl
          have hcz84_1 : wc.cell? ⟨gb172, 1, none⟩ = some (.bool a1_1) := (blk_cell BK172.out 1).trans rfl
          have hcz84_2 : wc.cell? ⟨gb172, 2, none⟩ = some (.int .i64 a1_2) := (blk_cell BK172.out 2).trans rfl
          have hcz84_3 : wc.cell? ⟨gb172, 3, none⟩ = some (.int .i64 a1_3) := (blk_cell BK172.out 3).trans rfl
          have hcz84_4 : wc.cell? ⟨gb172, 4, none⟩ = some (.int .i64 a1_4) := (blk_cell BK172.out 4).trans rfl
          have hcz84_5 : wc.cell? ⟨gb172, 5, none⟩ = some (.slice A1_5 l1_5.length c1_5) := (blk_cell BK172.out 5).trans rfl
          have hcz84_6 : wc.cell? ⟨gb172, 6, none⟩ = some (.slice A1_6 l1_6.length c1_6) := (blk_cell BK172.out 6).trans rfl
          have hfz84_0 := blk_frozen BK172.out 0
          have hfz84_1 := blk_frozen BK172.out 1
          have hfz84_2 := blk_frozen BK172.out 2
          have hfz84_3 := blk_frozen BK172.out 3
          have hfz84_4 := blk_frozen BK172.out 4
          have hfz84_5 := blk_frozen BK172.out 5
          have hfz84_6 := blk_frozen BK172.out 6
          go_wp2
          go_ret
          exact ⟨by first | rfl | (simp [errW_none, errW_some] <;> rfl) | (simp [*, errW_none, errW_some] <;> rfl), by repeat (first | (with_reducible first | exact HB.out | apply below_alloc | apply pw_below_drewN | apply below_drew1 | refine below_set ?_ GE171.out | refine below_set ?_ GE172.out) | exact HB.out)⟩
end Go.Proofs.Ytjjcgjpmhhkeaaa.B
