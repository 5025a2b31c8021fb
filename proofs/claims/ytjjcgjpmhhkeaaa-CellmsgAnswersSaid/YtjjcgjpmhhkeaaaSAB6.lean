/- ! ### hopmeshref25_among: function 41 (cut to what is reached: wip/tools/slimout.py) -/
import Derived.Test.YtjjcgjpmhhkeaaaSAB0
import Derived.Test.YtjjcgjpmhhkeaaaSAB1
import Derived.Test.YtjjcgjpmhhkeaaaSAB2
import Derived.Test.YtjjcgjpmhhkeaaaSAB3
import Derived.Test.YtjjcgjpmhhkeaaaSAB5
namespace Go.Proofs.Ytjjcgjpmhhkeaaa.B
open Go.RowKit Go.Proofs.YtjjcgjpmhhkeaaaW.PrintWords Go.Proofs.YtjjcgjpmhhkeaaaW.PrintLast Go.Proofs.YtjjcgjpmhhkeaaaW.PrintMore
attribute [local go_sem] max2_int min2_int max_two min_two max_three min_three max_four min_four   -- for this text's walks alone
set_option linter.unusedVariables false
set_option linter.unusedSimpArgs false
attribute [local go_sem high] eqA37
def hopmeshlaw25_awake.f (k : Nat)  : Option (Bool) := (some (([(⟨3, 1⟩ : S37), (⟨7, 0⟩ : S37)] : List (S37)) : List (S37))).bind fun y122 => ((cellmsg_Encode.f 1 false 5 0 1 y122 ([] : List (S37))).bind fun bt126 => ((cellmsg_Accept.f k 1 false 5 0 1 y122 ([] : List (S37)) 1 (([(⟨7, 0⟩ : S37)] : List (S37))) ([] : List (S37))).bind fun bt131 => ((cellmsg_Accept.f k 1 false 5 0 1 y122 ([] : List (S37)) 1 (([(⟨7, 1⟩ : S37)] : List (S37))) ([] : List (S37))).bind fun bt147 => (if bt126.2 = 0 then (if bt131.2.2.2.2.2.2.2 = 0 then (if bt147.2.2.2.2.2.2.2 = 12 then (if (bt126.1.size : Int) = 8 then (if 0 < (bt126.1.size : Int) then (if (bt bt126.1 0) = 32 then (if 1 < (bt126.1.size : Int) then (if (bt bt126.1 1) = 80 then ((cellmsg_Answers.f k 1 false 5 0 1 y122 ([] : List (S37)) bt131.1 bt131.2.1 bt131.2.2.1 bt131.2.2.2.1 bt131.2.2.2.2.1 bt131.2.2.2.2.2.1 bt131.2.2.2.2.2.2.1).bind fun t160 => (some t160)) else (some false)) else (none)) else (some false)) else (none)) else (some false)) else (some false)) else (some false)) else (some false)))))
theorem hopmeshlaw25_awake.mono : ∀ k, LeO (hopmeshlaw25_awake.f k ) (hopmeshlaw25_awake.f (k + 1) ) := by
  intro  k
  unfold hopmeshlaw25_awake.f
  repeat' first
      | (with_reducible exact cellmsg_Accept.mono _ _ _ _ _ _ _ _ _ _ _)
      | (with_reducible exact cellmsg_Answers.mono _ _ _ _ _ _ _ _ _ _ _ _ _ _ _)
      | (with_reducible exact LeO.refl _)
      | (with_reducible exact LeO.none _)
      | (with_reducible refine LeO.ite ?_ ?_)
      | (with_reducible refine LeO.bind ?_ (fun _ => ?_))
      | exact cellmsg_Accept.mono _ _ _ _ _ _ _ _ _ _ _
      | exact cellmsg_Answers.mono _ _ _ _ _ _ _ _ _ _ _ _ _ _ _
      | exact LeO.none _
      | refine LeO.ite ?_ ?_
      | refine LeO.bind ?_ (fun _ => ?_)
set_option maxHeartbeats 8000000 in
set_option maxRecDepth 100000 in
theorem hopmeshlaw25_awake.way (k : Nat)  (r : Bool) (w : World) (hz : Aside0 (r = true)) (h : hopmeshlaw25_awake.f k  = some r) :
    Calls Try.prog 11 #[] w fun e w' => e = .returned (.bool r) ∧ Below w.heap.size w w' := by
  have hu37 := Try.underlying37
  have hu24 := Try.underlying24
  have HB := Aside0.mk (Below.refl w.heap.size w)
  have H : ((some (([(⟨3, 1⟩ : S37), (⟨7, 0⟩ : S37)] : List (S37)) : List (S37))).bind fun y122 => ((cellmsg_Encode.f 1 false 5 0 1 y122 ([] : List (S37))).bind fun bt126 => ((cellmsg_Accept.f k 1 false 5 0 1 y122 ([] : List (S37)) 1 (([(⟨7, 0⟩ : S37)] : List (S37))) ([] : List (S37))).bind fun bt131 => ((cellmsg_Accept.f k 1 false 5 0 1 y122 ([] : List (S37)) 1 (([(⟨7, 1⟩ : S37)] : List (S37))) ([] : List (S37))).bind fun bt147 => (if bt126.2 = 0 then (if bt131.2.2.2.2.2.2.2 = 0 then (if bt147.2.2.2.2.2.2.2 = 12 then (if (bt126.1.size : Int) = 8 then (if 0 < (bt126.1.size : Int) then (if (bt bt126.1 0) = 32 then (if 1 < (bt126.1.size : Int) then (if (bt bt126.1 1) = 80 then ((cellmsg_Answers.f k 1 false 5 0 1 y122 ([] : List (S37)) bt131.1 bt131.2.1 bt131.2.2.1 bt131.2.2.2.1 bt131.2.2.2.2.1 bt131.2.2.2.2.2.1 bt131.2.2.2.2.2.2.1).bind fun t160 => (some t160)) else (some false)) else (none)) else (some false)) else (none)) else (some false)) else (some false)) else (some false)) else (some false)))))) = some r := h
  clear h
  obtain ⟨y122, hy122⟩ : ∃ y_ : List (S37), y_ = (([(⟨3, 1⟩ : S37), (⟨7, 0⟩ : S37)] : List (S37))) := ⟨_, rfl⟩
  replace H : ((cellmsg_Encode.f 1 false 5 0 1 y122 ([] : List (S37))).bind fun bt126 => ((cellmsg_Accept.f k 1 false 5 0 1 y122 ([] : List (S37)) 1 (([(⟨7, 0⟩ : S37)] : List (S37))) ([] : List (S37))).bind fun bt131 => ((cellmsg_Accept.f k 1 false 5 0 1 y122 ([] : List (S37)) 1 (([(⟨7, 1⟩ : S37)] : List (S37))) ([] : List (S37))).bind fun bt147 => (if bt126.2 = 0 then (if bt131.2.2.2.2.2.2.2 = 0 then (if bt147.2.2.2.2.2.2.2 = 12 then (if (bt126.1.size : Int) = 8 then (if 0 < (bt126.1.size : Int) then (if (bt bt126.1 0) = 32 then (if 1 < (bt126.1.size : Int) then (if (bt bt126.1 1) = 80 then ((cellmsg_Answers.f k 1 false 5 0 1 y122 ([] : List (S37)) bt131.1 bt131.2.1 bt131.2.2.1 bt131.2.2.2.1 bt131.2.2.2.2.1 bt131.2.2.2.2.2.1 bt131.2.2.2.2.2.2.1).bind fun t160 => (some t160)) else (some false)) else (none)) else (some false)) else (none)) else (some false)) else (some false)) else (some false)) else (some false))))) = some r := by first | (rw [hy122]; with_reducible exact H) | (have H2_ := (Option.bind_some _ _).symm.trans H; rw [hy122]; with_reducible exact H2_) | (have H2_ := (Option.bind_some _ _).symm.trans H; with_reducible exact H2_) | with_reducible exact H | (rw [hy122]; exact H) | exact H
  have Ny122 := Aside0.mk hy122
  clear hy122
  replace H := Option.bind_eq_some_iff.mp H
  obtain ⟨⟨t126, t127⟩, A10, H⟩ := H
  replace H : ((cellmsg_Accept.f k 1 false 5 0 1 y122 ([] : List (S37)) 1 (([(⟨7, 0⟩ : S37)] : List (S37))) ([] : List (S37))).bind fun bt131 => ((cellmsg_Accept.f k 1 false 5 0 1 y122 ([] : List (S37)) 1 (([(⟨7, 1⟩ : S37)] : List (S37))) ([] : List (S37))).bind fun bt147 => (if t127 = 0 then (if bt131.2.2.2.2.2.2.2 = 0 then (if bt147.2.2.2.2.2.2.2 = 12 then (if (t126.size : Int) = 8 then (if 0 < (t126.size : Int) then (if (bt t126 0) = 32 then (if 1 < (t126.size : Int) then (if (bt t126 1) = 80 then ((cellmsg_Answers.f k 1 false 5 0 1 y122 ([] : List (S37)) bt131.1 bt131.2.1 bt131.2.2.1 bt131.2.2.2.1 bt131.2.2.2.2.1 bt131.2.2.2.2.2.1 bt131.2.2.2.2.2.2.1).bind fun t160 => (some t160)) else (some false)) else (none)) else (some false)) else (none)) else (some false)) else (some false)) else (some false)) else (some false)))) = some r := H
  have A1 := Aside0.mk A10
  clear A10
  obtain ⟨y128, hy128⟩ : ∃ y_ : List (S37), y_ = (([(⟨7, 0⟩ : S37)] : List (S37))) := ⟨_, rfl⟩
  replace H : ((cellmsg_Accept.f k 1 false 5 0 1 y122 ([] : List (S37)) 1 y128 ([] : List (S37))).bind fun bt131 => ((cellmsg_Accept.f k 1 false 5 0 1 y122 ([] : List (S37)) 1 (([(⟨7, 1⟩ : S37)] : List (S37))) ([] : List (S37))).bind fun bt147 => (if t127 = 0 then (if bt131.2.2.2.2.2.2.2 = 0 then (if bt147.2.2.2.2.2.2.2 = 12 then (if (t126.size : Int) = 8 then (if 0 < (t126.size : Int) then (if (bt t126 0) = 32 then (if 1 < (t126.size : Int) then (if (bt t126 1) = 80 then ((cellmsg_Answers.f k 1 false 5 0 1 y122 ([] : List (S37)) bt131.1 bt131.2.1 bt131.2.2.1 bt131.2.2.2.1 bt131.2.2.2.2.1 bt131.2.2.2.2.2.1 bt131.2.2.2.2.2.2.1).bind fun t160 => (some t160)) else (some false)) else (none)) else (some false)) else (none)) else (some false)) else (some false)) else (some false)) else (some false)))) = some r := by first | (rw [hy128]; with_reducible exact H) | (have H2_ := (Option.bind_some _ _).symm.trans H; rw [hy128]; with_reducible exact H2_) | (have H2_ := (Option.bind_some _ _).symm.trans H; with_reducible exact H2_) | with_reducible exact H | (rw [hy128]; exact H) | exact H
  have Ny128 := Aside0.mk hy128
  clear hy128
  replace H := Option.bind_eq_some_iff.mp H
  obtain ⟨⟨t131, t132, t133, t134, t135, t136, t139, t142⟩, A20, H⟩ := H
  replace H : ((cellmsg_Accept.f k 1 false 5 0 1 y122 ([] : List (S37)) 1 (([(⟨7, 1⟩ : S37)] : List (S37))) ([] : List (S37))).bind fun bt147 => (if t127 = 0 then (if t142 = 0 then (if bt147.2.2.2.2.2.2.2 = 12 then (if (t126.size : Int) = 8 then (if 0 < (t126.size : Int) then (if (bt t126 0) = 32 then (if 1 < (t126.size : Int) then (if (bt t126 1) = 80 then ((cellmsg_Answers.f k 1 false 5 0 1 y122 ([] : List (S37)) t131 t132 t133 t134 t135 t136 t139).bind fun t160 => (some t160)) else (some false)) else (none)) else (some false)) else (none)) else (some false)) else (some false)) else (some false)) else (some false))) = some r := H
  have A2 := Aside0.mk A20
  clear A20
  obtain ⟨y144, hy144⟩ : ∃ y_ : List (S37), y_ = (([(⟨7, 1⟩ : S37)] : List (S37))) := ⟨_, rfl⟩
  replace H : ((cellmsg_Accept.f k 1 false 5 0 1 y122 ([] : List (S37)) 1 y144 ([] : List (S37))).bind fun bt147 => (if t127 = 0 then (if t142 = 0 then (if bt147.2.2.2.2.2.2.2 = 12 then (if (t126.size : Int) = 8 then (if 0 < (t126.size : Int) then (if (bt t126 0) = 32 then (if 1 < (t126.size : Int) then (if (bt t126 1) = 80 then ((cellmsg_Answers.f k 1 false 5 0 1 y122 ([] : List (S37)) t131 t132 t133 t134 t135 t136 t139).bind fun t160 => (some t160)) else (some false)) else (none)) else (some false)) else (none)) else (some false)) else (some false)) else (some false)) else (some false))) = some r := by first | (rw [hy144]; with_reducible exact H) | (have H2_ := (Option.bind_some _ _).symm.trans H; rw [hy144]; with_reducible exact H2_) | (have H2_ := (Option.bind_some _ _).symm.trans H; with_reducible exact H2_) | with_reducible exact H | (rw [hy144]; exact H) | exact H
  have Ny144 := Aside0.mk hy144
  clear hy144
  replace H := Option.bind_eq_some_iff.mp H
  obtain ⟨⟨t147, t148, t149, t150, t151, t152, t155, t158⟩, A30, H⟩ := H
  replace H : (if t127 = 0 then (if t142 = 0 then (if t158 = 12 then (if (t126.size : Int) = 8 then (if 0 < (t126.size : Int) then (if (bt t126 0) = 32 then (if 1 < (t126.size : Int) then (if (bt t126 1) = 80 then ((cellmsg_Answers.f k 1 false 5 0 1 y122 ([] : List (S37)) t131 t132 t133 t134 t135 t136 t139).bind fun t160 => (some t160)) else (some false)) else (none)) else (some false)) else (none)) else (some false)) else (some false)) else (some false)) else (some false)) = some r := H
  have A3 := Aside0.mk A30
  clear A30
  by_cases c4 : t127 = 0
  · rw [if_pos c4] at H
    have c4b0 : (t127 == 0) = true := beq_iff_eq.mpr c4
    have c4b1 : (t127 != 0) = false := bne_eq_false_iff_eq.mpr c4
    clear c4
    by_cases c5 : t142 = 0
    · rw [if_pos c5] at H
      have c5b0 : (t142 == 0) = true := beq_iff_eq.mpr c5
      have c5b1 : (t142 != 0) = false := bne_eq_false_iff_eq.mpr c5
      clear c5
      by_cases c6 : t158 = 12
      · rw [if_pos c6] at H
        have c6b0 : (t158 == 12) = true := beq_iff_eq.mpr c6
        have c6b1 : (t158 != 12) = false := bne_eq_false_iff_eq.mpr c6
        clear c6
        by_cases c7 : (t126.size : Int) = 8
        · rw [if_pos c7] at H
          have c7b0 : ((t126.size : Int) == 8) = true := beq_iff_eq.mpr c7
          have c7b1 : ((t126.size : Int) != 8) = false := bne_eq_false_iff_eq.mpr c7
          clear c7
          by_cases c8 : 0 < (t126.size : Int)
          · rw [if_pos c8] at H
            have c8b0 : decide (0 < (t126.size : Int)) = true := decide_eq_true c8
            have c8b1 : decide (0 < t126.size) = true := decide_eq_true (by omega)
            clear c8
            by_cases c10 : (bt t126 0) = 32
            · rw [if_pos c10] at H
              have c10b0 : ((bt t126 0) == 32) = true := beq_iff_eq.mpr c10
              have c10b1 : ((bt t126 0) != 32) = false := bne_eq_false_iff_eq.mpr c10
              clear c10
              by_cases c11 : 1 < (t126.size : Int)
              · rw [if_pos c11] at H
                have c11b0 : decide (1 < (t126.size : Int)) = true := decide_eq_true c11
                have c11b1 : decide (1 < t126.size) = true := decide_eq_true (by omega)
                clear c11
                by_cases c13 : (bt t126 1) = 80
                · rw [if_pos c13] at H
                  have c13b0 : ((bt t126 1) == 80) = true := beq_iff_eq.mpr c13
                  have c13b1 : ((bt t126 1) != 80) = false := bne_eq_false_iff_eq.mpr c13
                  clear c13
                  replace H := Option.bind_eq_some_iff.mp H
                  obtain ⟨t160, A140, H⟩ := H
                  replace H : (some t160) = some r := H
                  have A14 := Aside0.mk A140
                  clear A140
                  obtain rfl := Option.some.inj H
                  go_enter Try.func11, Try.ntmps11
                  go_wp2_with (first | ((with_reducible refine gate_dst (N := 10) rfl ?_); (try (refine gate_guard (by rfl) ?_; dsimp only)); refine Kd.R_lit k37 _ 37 ?hg (N := 10) ?hd (xs := ([(⟨3, 1⟩ : S37), (⟨7, 0⟩ : S37)] : List (S37))) (inner := [.int .i64 3, .int .i64 1, .int .i64 7, .int .i64 0]) (ok := fun _ => True) (okp := fun _ => True) ?hr ?hp (fun _ hk => hk) trivial (Below.refl _ _) (Nat.le_refl _) (by simp) ?_; (case hd => rfl); (case hg => rfl); (case hr => first | (go_simp; done) | (go_simp; rfl)); (case hp => exact (Reps.c2 (show Kd.M k37 _ _ _ (⟨3, 1⟩ : S37) [.int .i64 3, .int .i64 1] from (k37_mkM _ _ _ (⟨3, 1⟩ : S37) )) (Reps.c2 (show Kd.M k37 _ _ _ (⟨7, 0⟩ : S37) [.int .i64 7, .int .i64 0] from (k37_mkM _ _ _ (⟨7, 0⟩ : S37) )) (Reps.none _ _)))); intro v123 w15 ho16 hb hg_ hnew_; clear hg_ hnew_; (first | rw [← Ny122.out] at ho16 | (simp only [Int.reduceToNat] at ho16; rw [← Ny122.out] at ho16)); have n0_ := Aside0.mk (Kd.R_lower ho16 (below_size (by repeat (first | (with_reducible first | exact HB.out | apply below_alloc | apply pw_below_drewN | apply below_drew1) | exact HB.out)))); have n1_ := Aside0.mk (below_step (by repeat (first | (with_reducible first | exact HB.out | apply below_alloc | apply pw_below_drewN | apply below_drew1) | exact HB.out)) hb); clear HB; have HO124 := n0_; have HB := n1_; clear n0_ n1_; clear hb ho16; obtain ⟨Ao17, co17, eo17⟩ := Kd.R_slice HO124.out; subst eo17) | ((with_reducible refine gate_dst (N := 1) rfl ?_); (try (refine gate_guard (by rfl) ?_; dsimp only)); refine box_event ?hg (N := 1) ?hd (cs := #[.int .i64 0, .bool false, .int .i64 0, .int .i64 0, .int .i64 0, .slice none 0 0, .slice none 0 0]) (t := 24) ?hr ?_; (case hd => rfl); (case hg => rfl); (case hr => first | (go_simp; done) | (go_simp; rfl)); intro gb125 hg w18 hbox hb; have n0_ := Aside0.mk (Kd.R_below (by (with_reducible repeat (first | apply Kd.R_alloc | apply Kd.R_drewN | apply Kd.R_drew)); exact HO124.out) hb); have n1_ := Aside0.mk (below_step (by repeat (first | (with_reducible first | exact HB.out | apply below_alloc | apply pw_below_drewN | apply below_drew1) | exact HB.out)) hb); have n2_ := Aside0.mk (hbox); have n3_ := Aside0.mk ((by rw [hg]; exact (below_size (by repeat (first | (with_reducible first | exact HB.out | apply below_alloc | apply pw_below_drewN | apply below_drew1) | exact HB.out))) : w.heap.size ≤ gb125)); have n4_ := Aside0.mk ((by rw [hg]; exact (below_size (by repeat (first | (with_reducible first | exact HB.out | apply below_alloc | apply pw_below_drewN | apply below_drew1) | exact HB.out))) : w.heap.size ≤ gb125)); clear HO124; clear HB; have HO124 := n0_; have HB := n1_; have BK125 := n2_; have GW125 := n3_; have GE125 := n4_; clear n0_ n1_ n2_ n3_ n4_; clear hb hbox hg; have hcz19_0 : w18.cell? ⟨gb125, 0, none⟩ = some (.int .i64 0) := (blk_cell BK125.out 0).trans rfl; have hcz19_1 : w18.cell? ⟨gb125, 1, none⟩ = some (.bool false) := (blk_cell BK125.out 1).trans rfl; have hcz19_2 : w18.cell? ⟨gb125, 2, none⟩ = some (.int .i64 0) := (blk_cell BK125.out 2).trans rfl; have hcz19_3 : w18.cell? ⟨gb125, 3, none⟩ = some (.int .i64 0) := (blk_cell BK125.out 3).trans rfl; have hcz19_4 : w18.cell? ⟨gb125, 4, none⟩ = some (.int .i64 0) := (blk_cell BK125.out 4).trans rfl; have hcz19_5 : w18.cell? ⟨gb125, 5, none⟩ = some (.slice none 0 0) := (blk_cell BK125.out 5).trans rfl; have hcz19_6 : w18.cell? ⟨gb125, 6, none⟩ = some (.slice none 0 0) := (blk_cell BK125.out 6).trans rfl; have hfz19_0 := blk_frozen BK125.out 0; have hfz19_1 := blk_frozen BK125.out 1; have hfz19_2 := blk_frozen BK125.out 2; have hfz19_3 := blk_frozen BK125.out 3; have hfz19_4 := blk_frozen BK125.out 4; have hfz19_5 := blk_frozen BK125.out 5; have hfz19_6 := blk_frozen BK125.out 6) | ((with_reducible refine gate_callee (f := 15) rfl ?_); refine goesL_ (some 14) rfl rfl Try.func15 (by kernel_rfl) rfl #[.agg #[.int .i64 1, .bool false, .int .i64 5, .int .i64 0, .int .i64 1, .slice Ao17 y122.length co17, .slice none 0 0]] rfl (by (try simp only [List.map_toArray, List.map_cons, List.map_nil]); first | done | rfl | (simp only [List.length_drop, List.length_take]; rfl)) ?_; (refine (cellmsg_Encode.calls 1 false 5 0 1 _ _ y122 _ _ ([] : List (S37)) t126 t127 _ ?side1 ?side2 ?side3 ?side4 A1.out).mono ?_); (case side1 => refine (Kd.R_reads' (e := 37) (base := w.heap.size) (ok := fun k_ => True) (n := y122.length) (c := co17) ?_).2.2; exact (by (with_reducible repeat (first | apply Kd.R_alloc | apply Kd.R_drewN | apply Kd.R_drew)); exact (Kd.R_mono (Kd.R_far (p := ⟨gb125, 6, none⟩) (Kd.R_far (p := ⟨gb125, 5, none⟩) (Kd.R_far (p := ⟨gb125, 4, none⟩) (Kd.R_far (p := ⟨gb125, 3, none⟩) (Kd.R_far (p := ⟨gb125, 2, none⟩) (Kd.R_far (p := ⟨gb125, 1, none⟩) (Kd.R_far (p := ⟨gb125, 0, none⟩) (Kd.R_types HO124.out BK125.out (by decide)) (fun _ hk => hk.2) (.int .i64 1)) (fun _ hk => hk.2) (.bool false)) (fun _ hk => hk.2) (.int .i64 5)) (fun _ hk => hk.2) (.int .i64 0)) (fun _ hk => hk.2) (.int .i64 1)) (fun _ hk => hk.2) (.slice Ao17 y122.length co17)) (fun _ hk => hk.2) (.slice none 0 0)) (fun _ h_ => h_.1)))); (case side2 => exact (Kd.R_reads' HO124.out).2.1); (case side3 => exact Kd.C_nil _ _); (case side4 => exact Nat.le_refl _); rintro e w20 ⟨rfl, hb⟩; refine ⟨_, rfl, ?_⟩; have n0_ := Aside0.mk (Kd.R_below (by (with_reducible repeat (first | apply Kd.R_alloc | apply Kd.R_drewN | apply Kd.R_drew)); exact (Kd.R_mono (Kd.R_far (p := ⟨gb125, 6, none⟩) (Kd.R_far (p := ⟨gb125, 5, none⟩) (Kd.R_far (p := ⟨gb125, 4, none⟩) (Kd.R_far (p := ⟨gb125, 3, none⟩) (Kd.R_far (p := ⟨gb125, 2, none⟩) (Kd.R_far (p := ⟨gb125, 1, none⟩) (Kd.R_far (p := ⟨gb125, 0, none⟩) (Kd.R_types HO124.out BK125.out (by decide)) (fun _ hk => hk.2) (.int .i64 1)) (fun _ hk => hk.2) (.bool false)) (fun _ hk => hk.2) (.int .i64 5)) (fun _ hk => hk.2) (.int .i64 0)) (fun _ hk => hk.2) (.int .i64 1)) (fun _ hk => hk.2) (.slice Ao17 y122.length co17)) (fun _ hk => hk.2) (.slice none 0 0)) (fun _ h_ => h_.1))) hb); have n1_ := Aside0.mk (blk_below (g := gb125) (o := .cells #[.int .i64 1, .bool false, .int .i64 5, .int .i64 0, .int .i64 1, .slice Ao17 y122.length co17, .slice none 0 0] 24 (0, 0)) (by (with_reducible repeat (first | refine blk_drewN ?_ _ | refine blk_drew ?_ | refine blk_alloc ?_ _)); refine blk_put (cs := #[.int .i64 1, .bool false, .int .i64 5, .int .i64 0, .int .i64 1, .slice Ao17 y122.length co17, .slice none 0 0]) ?_ 6 _ rfl; (with_reducible repeat (first | refine blk_drewN ?_ _ | refine blk_drew ?_ | refine blk_alloc ?_ _)); refine blk_put (cs := #[.int .i64 1, .bool false, .int .i64 5, .int .i64 0, .int .i64 1, .slice none 0 0, .slice none 0 0]) ?_ 5 _ rfl; (with_reducible repeat (first | refine blk_drewN ?_ _ | refine blk_drew ?_ | refine blk_alloc ?_ _)); refine blk_put (cs := #[.int .i64 1, .bool false, .int .i64 5, .int .i64 0, .int .i64 0, .slice none 0 0, .slice none 0 0]) ?_ 4 _ rfl; (with_reducible repeat (first | refine blk_drewN ?_ _ | refine blk_drew ?_ | refine blk_alloc ?_ _)); refine blk_put (cs := #[.int .i64 1, .bool false, .int .i64 5, .int .i64 0, .int .i64 0, .slice none 0 0, .slice none 0 0]) ?_ 3 _ rfl; (with_reducible repeat (first | refine blk_drewN ?_ _ | refine blk_drew ?_ | refine blk_alloc ?_ _)); refine blk_put (cs := #[.int .i64 1, .bool false, .int .i64 0, .int .i64 0, .int .i64 0, .slice none 0 0, .slice none 0 0]) ?_ 2 _ rfl; (with_reducible repeat (first | refine blk_drewN ?_ _ | refine blk_drew ?_ | refine blk_alloc ?_ _)); refine blk_put (cs := #[.int .i64 1, .bool false, .int .i64 0, .int .i64 0, .int .i64 0, .slice none 0 0, .slice none 0 0]) ?_ 1 _ rfl; (with_reducible repeat (first | refine blk_drewN ?_ _ | refine blk_drew ?_ | refine blk_alloc ?_ _)); refine blk_put (cs := #[.int .i64 0, .bool false, .int .i64 0, .int .i64 0, .int .i64 0, .slice none 0 0, .slice none 0 0]) ?_ 0 _ rfl; (with_reducible repeat (first | refine blk_drewN ?_ _ | refine blk_drew ?_ | refine blk_alloc ?_ _)); exact BK125.out) hb); have n2_ := Aside0.mk (below_step (by repeat (first | (with_reducible first | exact HB.out | apply below_alloc | apply pw_below_drewN | apply below_drew1 | refine below_set ?_ GE125.out) | exact HB.out)) hb); clear HO124; clear BK125; clear HB; have HO124 := n0_; have BK125 := n1_; have HB := n2_; clear n0_ n1_ n2_; (try clear hb); (try clear hb2); (try clear hk); (try clear hi); have hcz21_0 : w20.cell? ⟨gb125, 0, none⟩ = some (.int .i64 1) := (blk_cell BK125.out 0).trans rfl; have hcz21_1 : w20.cell? ⟨gb125, 1, none⟩ = some (.bool false) := (blk_cell BK125.out 1).trans rfl; have hcz21_2 : w20.cell? ⟨gb125, 2, none⟩ = some (.int .i64 5) := (blk_cell BK125.out 2).trans rfl; have hcz21_3 : w20.cell? ⟨gb125, 3, none⟩ = some (.int .i64 0) := (blk_cell BK125.out 3).trans rfl; have hcz21_4 : w20.cell? ⟨gb125, 4, none⟩ = some (.int .i64 1) := (blk_cell BK125.out 4).trans rfl; have hcz21_5 : w20.cell? ⟨gb125, 5, none⟩ = some (.slice Ao17 y122.length co17) := (blk_cell BK125.out 5).trans rfl; have hcz21_6 : w20.cell? ⟨gb125, 6, none⟩ = some (.slice none 0 0) := (blk_cell BK125.out 6).trans rfl; have hfz21_0 := blk_frozen BK125.out 0; have hfz21_1 := blk_frozen BK125.out 1; have hfz21_2 := blk_frozen BK125.out 2; have hfz21_3 := blk_frozen BK125.out 3; have hfz21_4 := blk_frozen BK125.out 4; have hfz21_5 := blk_frozen BK125.out 5; have hfz21_6 := blk_frozen BK125.out 6) | ((with_reducible refine gate_dst (N := 20) rfl ?_); (try (refine gate_guard (by rfl) ?_; dsimp only)); refine Kd.R_lit k37 _ 37 ?hg (N := 20) ?hd (xs := ([(⟨7, 0⟩ : S37)] : List (S37))) (inner := [.int .i64 7, .int .i64 0]) (ok := fun _ => True) (okp := fun _ => True) ?hr ?hp (fun _ hk => hk) trivial (Below.refl _ _) (Nat.le_refl _) (by simp) ?_; (case hd => rfl); (case hg => rfl); (case hr => first | (go_simp; done) | (go_simp; rfl)); (case hp => exact (Reps.c2 (show Kd.M k37 _ _ _ (⟨7, 0⟩ : S37) [.int .i64 7, .int .i64 0] from (k37_mkM _ _ _ (⟨7, 0⟩ : S37) )) (Reps.none _ _))); intro v129 w22 ho23 hb hg_ hnew_; clear hg_ hnew_; (first | rw [← Ny128.out] at ho23 | (simp only [Int.reduceToNat] at ho23; rw [← Ny128.out] at ho23)); have n0_ := Aside0.mk (Kd.R_elder' (by (with_reducible repeat (first | apply Kd.R_alloc | apply Kd.R_drewN | apply Kd.R_drew)); exact HO124.out) (Kd.R_base ho23) hb); have n1_ := Aside0.mk (Kd.R_lower (Kd.R_new' ho23 (Kd.R_lt (by (with_reducible repeat (first | apply Kd.R_alloc | apply Kd.R_drewN | apply Kd.R_drew)); exact HO124.out))) (below_size (by repeat (first | (with_reducible first | exact HB.out | apply below_alloc | apply pw_below_drewN | apply below_drew1 | refine below_set ?_ GE125.out) | exact HB.out)))); have n2_ := Aside0.mk (blk_below (g := gb125) (o := .cells #[.int .i64 1, .bool false, .int .i64 5, .int .i64 0, .int .i64 1, .slice Ao17 y122.length co17, .slice none 0 0] 24 (0, 0)) (by (with_reducible repeat (first | refine blk_drewN ?_ _ | refine blk_drew ?_ | refine blk_alloc ?_ _)); exact BK125.out) hb); have n3_ := Aside0.mk (below_step (by repeat (first | (with_reducible first | exact HB.out | apply below_alloc | apply pw_below_drewN | apply below_drew1 | refine below_set ?_ GE125.out) | exact HB.out)) hb); clear HO124; clear BK125; clear HB; have HO124 := n0_; have HO130 := n1_; have BK125 := n2_; have HB := n3_; clear n0_ n1_ n2_ n3_; clear hb ho23; obtain ⟨Ao24, co24, eo24⟩ := Kd.R_slice HO130.out; subst eo24) | ((with_reducible refine gate_callee (f := 19) rfl ?_); refine goesL_ (some 21) rfl rfl Try.func19 (by kernel_rfl) rfl #[.agg #[.int .i64 1, .bool false, .int .i64 5, .int .i64 0, .int .i64 1, .slice Ao17 y122.length co17, .slice none 0 0], .int .i64 1, .slice Ao24 y128.length co24, .slice none 0 0] rfl (by (try simp only [List.map_toArray, List.map_cons, List.map_nil]); first | done | rfl | (simp only [List.length_drop, List.length_take]; rfl)) ?_; (refine (cellmsg_Accept.calls k 1 false 5 0 1 _ _ y122 _ _ ([] : List (S37)) 1 _ _ y128 _ _ ([] : List (S37)) t131 t132 t133 t134 t135 t136 t139 t142 _ ?side1 ?side2 ?side3 ?side4 ?side5 ?side6 ?side7 ?side8 A2.out).mono ?_); (case side1 => repeat (first | exact (Kd.R_reads' HO124.out).2.2 | (with_reducible refine Kd.C_alloc ?_ _) | (with_reducible refine Kd.C_drewN ?_ _) | (with_reducible refine Kd.C_drew ?_))); (case side2 => exact (Kd.R_reads' HO124.out).2.1); (case side3 => exact Kd.C_nil _ _); (case side4 => exact Nat.le_refl _); (case side5 => repeat (first | exact (Kd.R_reads' HO130.out).2.2 | (with_reducible refine Kd.C_alloc ?_ _) | (with_reducible refine Kd.C_drewN ?_ _) | (with_reducible refine Kd.C_drew ?_))); (case side6 => exact (Kd.R_reads' HO130.out).2.1); (case side7 => exact Kd.C_nil _ _); (case side8 => exact Nat.le_refl _); rintro e w25 ⟨v137, v140, rfl, ho0, ho1, hb⟩; refine ⟨_, rfl, ?_⟩; have n0_ := Aside0.mk (Kd.R_mono (Kd.R_told (Kd.R_told (Kd.R_old (by (with_reducible repeat (first | apply Kd.R_alloc | apply Kd.R_drewN | apply Kd.R_drew)); exact HO124.out) hb) (Kd.R_base ho0)) (Kd.R_base ho1)) (fun _ h_ => h_.1)); have n1_ := Aside0.mk (Kd.R_mono (Kd.R_told (Kd.R_told (Kd.R_old (by (with_reducible repeat (first | apply Kd.R_alloc | apply Kd.R_drewN | apply Kd.R_drew)); exact HO130.out) hb) (Kd.R_base ho0)) (Kd.R_base ho1)) (fun _ h_ => h_.1)); have n2_ := Aside0.mk (Kd.R_lower (Kd.R_new' (Kd.R_new' ho0 (Kd.R_lt (by (with_reducible repeat (first | apply Kd.R_alloc | apply Kd.R_drewN | apply Kd.R_drew)); exact HO124.out))) (Kd.R_lt (by (with_reducible repeat (first | apply Kd.R_alloc | apply Kd.R_drewN | apply Kd.R_drew)); exact HO130.out))) (below_size (by repeat (first | (with_reducible first | exact HB.out | apply below_alloc | apply pw_below_drewN | apply below_drew1 | refine below_set ?_ GE125.out) | exact HB.out)))); have n3_ := Aside0.mk (Kd.R_lower (Kd.R_new' (Kd.R_new' ho1 (Kd.R_lt (by (with_reducible repeat (first | apply Kd.R_alloc | apply Kd.R_drewN | apply Kd.R_drew)); exact HO124.out))) (Kd.R_lt (by (with_reducible repeat (first | apply Kd.R_alloc | apply Kd.R_drewN | apply Kd.R_drew)); exact HO130.out))) (below_size (by repeat (first | (with_reducible first | exact HB.out | apply below_alloc | apply pw_below_drewN | apply below_drew1 | refine below_set ?_ GE125.out) | exact HB.out)))); have n4_ := Aside0.mk (blk_below (g := gb125) (o := .cells #[.int .i64 1, .bool false, .int .i64 5, .int .i64 0, .int .i64 1, .slice Ao17 y122.length co17, .slice none 0 0] 24 (0, 0)) (by (with_reducible repeat (first | refine blk_drewN ?_ _ | refine blk_drew ?_ | refine blk_alloc ?_ _)); exact BK125.out) hb); have n5_ := Aside0.mk (below_step (by repeat (first | (with_reducible first | exact HB.out | apply below_alloc | apply pw_below_drewN | apply below_drew1 | refine below_set ?_ GE125.out) | exact HB.out)) hb); clear HO124; clear HO130; clear BK125; clear HB; have HO124 := n0_; have HO130 := n1_; have HO138 := n2_; have HO141 := n3_; have BK125 := n4_; have HB := n5_; clear n0_ n1_ n2_ n3_ n4_ n5_; (try clear hb); (try clear hb2); (try clear hk); (try clear hi); (try clear ho0); (try clear ho1)) | ((with_reducible refine gate_dst (N := 4) rfl ?_); (try (refine gate_guard (by rfl) ?_; dsimp only)); refine box_event ?hg (N := 4) ?hd (cs := #[.int .i64 0, .bool false, .int .i64 0, .int .i64 0, .int .i64 0, .slice none 0 0, .slice none 0 0]) (t := 24) ?hr ?_; (case hd => rfl); (case hg => rfl); (case hr => first | (go_simp; done) | (go_simp; rfl)); intro gb143 hg w26 hbox hb; have n0_ := Aside0.mk (Kd.R_below (by (with_reducible repeat (first | apply Kd.R_alloc | apply Kd.R_drewN | apply Kd.R_drew)); exact HO124.out) hb); have n1_ := Aside0.mk (Kd.R_below (by (with_reducible repeat (first | apply Kd.R_alloc | apply Kd.R_drewN | apply Kd.R_drew)); exact HO130.out) hb); have n2_ := Aside0.mk (Kd.R_below (by (with_reducible repeat (first | apply Kd.R_alloc | apply Kd.R_drewN | apply Kd.R_drew)); exact HO138.out) hb); have n3_ := Aside0.mk (Kd.R_below (by (with_reducible repeat (first | apply Kd.R_alloc | apply Kd.R_drewN | apply Kd.R_drew)); exact HO141.out) hb); have n4_ := Aside0.mk (blk_below (g := gb125) (o := .cells #[.int .i64 1, .bool false, .int .i64 5, .int .i64 0, .int .i64 1, .slice Ao17 y122.length co17, .slice none 0 0] 24 (0, 0)) (by (with_reducible repeat (first | refine blk_drewN ?_ _ | refine blk_drew ?_ | refine blk_alloc ?_ _)); exact BK125.out) hb); have n5_ := Aside0.mk (below_step (by repeat (first | (with_reducible first | exact HB.out | apply below_alloc | apply pw_below_drewN | apply below_drew1 | refine below_set ?_ GE125.out) | exact HB.out)) hb); have n6_ := Aside0.mk (hbox); have n7_ := Aside0.mk ((by rw [hg]; exact (below_size (by repeat (first | (with_reducible first | exact HB.out | apply below_alloc | apply pw_below_drewN | apply below_drew1 | refine below_set ?_ GE125.out) | exact HB.out))) : w.heap.size ≤ gb143)); have n8_ := Aside0.mk ((by rw [hg]; exact (below_size (by repeat (first | (with_reducible first | exact HB.out | apply below_alloc | apply pw_below_drewN | apply below_drew1 | refine below_set ?_ GE125.out) | exact HB.out))) : w.heap.size ≤ gb143)); have n9_ := Aside0.mk ((by rw [hg]; exact Nat.ne_of_lt (blk_lt (g := gb125) (o := .cells #[.int .i64 1, .bool false, .int .i64 5, .int .i64 0, .int .i64 1, .slice Ao17 y122.length co17, .slice none 0 0] 24 (0, 0)) (by (with_reducible repeat (first | refine blk_drewN ?_ _ | refine blk_drew ?_ | refine blk_alloc ?_ _)); exact BK125.out)) : gb125 ≠ gb143)); have n10_ := Aside0.mk ((by rw [hg]; exact Nat.ne_of_gt (blk_lt (g := gb125) (o := .cells #[.int .i64 1, .bool false, .int .i64 5, .int .i64 0, .int .i64 1, .slice Ao17 y122.length co17, .slice none 0 0] 24 (0, 0)) (by (with_reducible repeat (first | refine blk_drewN ?_ _ | refine blk_drew ?_ | refine blk_alloc ?_ _)); exact BK125.out)) : gb143 ≠ gb125)); clear HO124; clear HO130; clear HO138; clear HO141; clear BK125; clear HB; have HO124 := n0_; have HO130 := n1_; have HO138 := n2_; have HO141 := n3_; have BK125 := n4_; have HB := n5_; have BK143 := n6_; have GW143 := n7_; have GE143 := n8_; have NB125_143 := n9_; have NB143_125 := n10_; clear n0_ n1_ n2_ n3_ n4_ n5_ n6_ n7_ n8_ n9_ n10_; clear hb hbox hg; have hnb27 := NB143_125.out; have hnc27 := NB125_143.out; have hcz28_0 : w26.cell? ⟨gb143, 0, none⟩ = some (.int .i64 0) := (blk_cell BK143.out 0).trans rfl; have hcz28_1 : w26.cell? ⟨gb143, 1, none⟩ = some (.bool false) := (blk_cell BK143.out 1).trans rfl; have hcz28_2 : w26.cell? ⟨gb143, 2, none⟩ = some (.int .i64 0) := (blk_cell BK143.out 2).trans rfl; have hcz28_3 : w26.cell? ⟨gb143, 3, none⟩ = some (.int .i64 0) := (blk_cell BK143.out 3).trans rfl; have hcz28_4 : w26.cell? ⟨gb143, 4, none⟩ = some (.int .i64 0) := (blk_cell BK143.out 4).trans rfl; have hcz28_5 : w26.cell? ⟨gb143, 5, none⟩ = some (.slice none 0 0) := (blk_cell BK143.out 5).trans rfl; have hcz28_6 : w26.cell? ⟨gb143, 6, none⟩ = some (.slice none 0 0) := (blk_cell BK143.out 6).trans rfl; have hfz28_0 := blk_frozen BK143.out 0; have hfz28_1 := blk_frozen BK143.out 1; have hfz28_2 := blk_frozen BK143.out 2; have hfz28_3 := blk_frozen BK143.out 3; have hfz28_4 := blk_frozen BK143.out 4; have hfz28_5 := blk_frozen BK143.out 5; have hfz28_6 := blk_frozen BK143.out 6; obtain ⟨Ao29, co29, eo29⟩ := Kd.R_slice HO138.out; subst eo29; obtain ⟨Ao30, co30, eo30⟩ := Kd.R_slice HO141.out; subst eo30; have hcz31_0 : w26.cell? ⟨gb125, 0, none⟩ = some (.int .i64 1) := (blk_cell BK125.out 0).trans rfl; have hcz31_1 : w26.cell? ⟨gb125, 1, none⟩ = some (.bool false) := (blk_cell BK125.out 1).trans rfl; have hcz31_2 : w26.cell? ⟨gb125, 2, none⟩ = some (.int .i64 5) := (blk_cell BK125.out 2).trans rfl; have hcz31_3 : w26.cell? ⟨gb125, 3, none⟩ = some (.int .i64 0) := (blk_cell BK125.out 3).trans rfl; have hcz31_4 : w26.cell? ⟨gb125, 4, none⟩ = some (.int .i64 1) := (blk_cell BK125.out 4).trans rfl; have hcz31_5 : w26.cell? ⟨gb125, 5, none⟩ = some (.slice Ao17 y122.length co17) := (blk_cell BK125.out 5).trans rfl; have hcz31_6 : w26.cell? ⟨gb125, 6, none⟩ = some (.slice none 0 0) := (blk_cell BK125.out 6).trans rfl; have hfz31_0 := blk_frozen BK125.out 0; have hfz31_1 := blk_frozen BK125.out 1; have hfz31_2 := blk_frozen BK125.out 2; have hfz31_3 := blk_frozen BK125.out 3; have hfz31_4 := blk_frozen BK125.out 4; have hfz31_5 := blk_frozen BK125.out 5; have hfz31_6 := blk_frozen BK125.out 6) | ((with_reducible refine gate_dst (N := 27) rfl ?_); (try (refine gate_guard (by rfl) ?_; dsimp only)); refine Kd.R_lit k37 _ 37 ?hg (N := 27) ?hd (xs := ([(⟨7, 1⟩ : S37)] : List (S37))) (inner := [.int .i64 7, .int .i64 1]) (ok := fun _ => True) (okp := fun _ => True) ?hr ?hp (fun _ hk => hk) trivial (Below.refl _ _) (Nat.le_refl _) (by simp) ?_; (case hd => rfl); (case hg => rfl); (case hr => first | (go_simp; done) | (go_simp; rfl)); (case hp => exact (Reps.c2 (show Kd.M k37 _ _ _ (⟨7, 1⟩ : S37) [.int .i64 7, .int .i64 1] from (k37_mkM _ _ _ (⟨7, 1⟩ : S37) )) (Reps.none _ _))); intro v145 w32 ho33 hb hg_ hnew_; clear hg_ hnew_; (first | rw [← Ny144.out] at ho33 | (simp only [Int.reduceToNat] at ho33; rw [← Ny144.out] at ho33)); have n0_ := Aside0.mk (Kd.R_elder' (by (with_reducible repeat (first | apply Kd.R_alloc | apply Kd.R_drewN | apply Kd.R_drew)); exact (Kd.R_mono (Kd.R_far (p := ⟨gb143, 6, none⟩) (Kd.R_far (p := ⟨gb143, 5, none⟩) (Kd.R_far (p := ⟨gb143, 4, none⟩) (Kd.R_far (p := ⟨gb143, 3, none⟩) (Kd.R_far (p := ⟨gb143, 2, none⟩) (Kd.R_far (p := ⟨gb143, 1, none⟩) (Kd.R_far (p := ⟨gb143, 0, none⟩) (Kd.R_types HO124.out BK143.out (by decide)) (fun _ hk => hk.2) (.int .i64 t131)) (fun _ hk => hk.2) (.bool t132)) (fun _ hk => hk.2) (.int .i64 t133)) (fun _ hk => hk.2) (.int .i64 t134)) (fun _ hk => hk.2) (.int .i64 t135)) (fun _ hk => hk.2) (.slice Ao29 t136.length co29)) (fun _ hk => hk.2) (.slice Ao30 t139.length co30)) (fun _ h_ => h_.1))) (Kd.R_base ho33) hb); have n1_ := Aside0.mk (Kd.R_elder' (by (with_reducible repeat (first | apply Kd.R_alloc | apply Kd.R_drewN | apply Kd.R_drew)); exact (Kd.R_mono (Kd.R_far (p := ⟨gb143, 6, none⟩) (Kd.R_far (p := ⟨gb143, 5, none⟩) (Kd.R_far (p := ⟨gb143, 4, none⟩) (Kd.R_far (p := ⟨gb143, 3, none⟩) (Kd.R_far (p := ⟨gb143, 2, none⟩) (Kd.R_far (p := ⟨gb143, 1, none⟩) (Kd.R_far (p := ⟨gb143, 0, none⟩) (Kd.R_types HO130.out BK143.out (by decide)) (fun _ hk => hk.2) (.int .i64 t131)) (fun _ hk => hk.2) (.bool t132)) (fun _ hk => hk.2) (.int .i64 t133)) (fun _ hk => hk.2) (.int .i64 t134)) (fun _ hk => hk.2) (.int .i64 t135)) (fun _ hk => hk.2) (.slice Ao29 t136.length co29)) (fun _ hk => hk.2) (.slice Ao30 t139.length co30)) (fun _ h_ => h_.1))) (Kd.R_base ho33) hb); have n2_ := Aside0.mk (Kd.R_elder' (by (with_reducible repeat (first | apply Kd.R_alloc | apply Kd.R_drewN | apply Kd.R_drew)); exact (Kd.R_mono (Kd.R_far (p := ⟨gb143, 6, none⟩) (Kd.R_far (p := ⟨gb143, 5, none⟩) (Kd.R_far (p := ⟨gb143, 4, none⟩) (Kd.R_far (p := ⟨gb143, 3, none⟩) (Kd.R_far (p := ⟨gb143, 2, none⟩) (Kd.R_far (p := ⟨gb143, 1, none⟩) (Kd.R_far (p := ⟨gb143, 0, none⟩) (Kd.R_types HO138.out BK143.out (by decide)) (fun _ hk => hk.2) (.int .i64 t131)) (fun _ hk => hk.2) (.bool t132)) (fun _ hk => hk.2) (.int .i64 t133)) (fun _ hk => hk.2) (.int .i64 t134)) (fun _ hk => hk.2) (.int .i64 t135)) (fun _ hk => hk.2) (.slice Ao29 t136.length co29)) (fun _ hk => hk.2) (.slice Ao30 t139.length co30)) (fun _ h_ => h_.1))) (Kd.R_base ho33) hb); have n3_ := Aside0.mk (Kd.R_elder' (by (with_reducible repeat (first | apply Kd.R_alloc | apply Kd.R_drewN | apply Kd.R_drew)); exact (Kd.R_mono (Kd.R_far (p := ⟨gb143, 6, none⟩) (Kd.R_far (p := ⟨gb143, 5, none⟩) (Kd.R_far (p := ⟨gb143, 4, none⟩) (Kd.R_far (p := ⟨gb143, 3, none⟩) (Kd.R_far (p := ⟨gb143, 2, none⟩) (Kd.R_far (p := ⟨gb143, 1, none⟩) (Kd.R_far (p := ⟨gb143, 0, none⟩) (Kd.R_types HO141.out BK143.out (by decide)) (fun _ hk => hk.2) (.int .i64 t131)) (fun _ hk => hk.2) (.bool t132)) (fun _ hk => hk.2) (.int .i64 t133)) (fun _ hk => hk.2) (.int .i64 t134)) (fun _ hk => hk.2) (.int .i64 t135)) (fun _ hk => hk.2) (.slice Ao29 t136.length co29)) (fun _ hk => hk.2) (.slice Ao30 t139.length co30)) (fun _ h_ => h_.1))) (Kd.R_base ho33) hb); have n4_ := Aside0.mk (Kd.R_lower (Kd.R_new' (Kd.R_new' (Kd.R_new' (Kd.R_new' ho33 (Kd.R_lt (by (with_reducible repeat (first | apply Kd.R_alloc | apply Kd.R_drewN | apply Kd.R_drew)); exact (Kd.R_mono (Kd.R_far (p := ⟨gb143, 6, none⟩) (Kd.R_far (p := ⟨gb143, 5, none⟩) (Kd.R_far (p := ⟨gb143, 4, none⟩) (Kd.R_far (p := ⟨gb143, 3, none⟩) (Kd.R_far (p := ⟨gb143, 2, none⟩) (Kd.R_far (p := ⟨gb143, 1, none⟩) (Kd.R_far (p := ⟨gb143, 0, none⟩) (Kd.R_types HO124.out BK143.out (by decide)) (fun _ hk => hk.2) (.int .i64 t131)) (fun _ hk => hk.2) (.bool t132)) (fun _ hk => hk.2) (.int .i64 t133)) (fun _ hk => hk.2) (.int .i64 t134)) (fun _ hk => hk.2) (.int .i64 t135)) (fun _ hk => hk.2) (.slice Ao29 t136.length co29)) (fun _ hk => hk.2) (.slice Ao30 t139.length co30)) (fun _ h_ => h_.1))))) (Kd.R_lt (by (with_reducible repeat (first | apply Kd.R_alloc | apply Kd.R_drewN | apply Kd.R_drew)); exact (Kd.R_mono (Kd.R_far (p := ⟨gb143, 6, none⟩) (Kd.R_far (p := ⟨gb143, 5, none⟩) (Kd.R_far (p := ⟨gb143, 4, none⟩) (Kd.R_far (p := ⟨gb143, 3, none⟩) (Kd.R_far (p := ⟨gb143, 2, none⟩) (Kd.R_far (p := ⟨gb143, 1, none⟩) (Kd.R_far (p := ⟨gb143, 0, none⟩) (Kd.R_types HO130.out BK143.out (by decide)) (fun _ hk => hk.2) (.int .i64 t131)) (fun _ hk => hk.2) (.bool t132)) (fun _ hk => hk.2) (.int .i64 t133)) (fun _ hk => hk.2) (.int .i64 t134)) (fun _ hk => hk.2) (.int .i64 t135)) (fun _ hk => hk.2) (.slice Ao29 t136.length co29)) (fun _ hk => hk.2) (.slice Ao30 t139.length co30)) (fun _ h_ => h_.1))))) (Kd.R_lt (by (with_reducible repeat (first | apply Kd.R_alloc | apply Kd.R_drewN | apply Kd.R_drew)); exact (Kd.R_mono (Kd.R_far (p := ⟨gb143, 6, none⟩) (Kd.R_far (p := ⟨gb143, 5, none⟩) (Kd.R_far (p := ⟨gb143, 4, none⟩) (Kd.R_far (p := ⟨gb143, 3, none⟩) (Kd.R_far (p := ⟨gb143, 2, none⟩) (Kd.R_far (p := ⟨gb143, 1, none⟩) (Kd.R_far (p := ⟨gb143, 0, none⟩) (Kd.R_types HO138.out BK143.out (by decide)) (fun _ hk => hk.2) (.int .i64 t131)) (fun _ hk => hk.2) (.bool t132)) (fun _ hk => hk.2) (.int .i64 t133)) (fun _ hk => hk.2) (.int .i64 t134)) (fun _ hk => hk.2) (.int .i64 t135)) (fun _ hk => hk.2) (.slice Ao29 t136.length co29)) (fun _ hk => hk.2) (.slice Ao30 t139.length co30)) (fun _ h_ => h_.1))))) (Kd.R_lt (by (with_reducible repeat (first | apply Kd.R_alloc | apply Kd.R_drewN | apply Kd.R_drew)); exact (Kd.R_mono (Kd.R_far (p := ⟨gb143, 6, none⟩) (Kd.R_far (p := ⟨gb143, 5, none⟩) (Kd.R_far (p := ⟨gb143, 4, none⟩) (Kd.R_far (p := ⟨gb143, 3, none⟩) (Kd.R_far (p := ⟨gb143, 2, none⟩) (Kd.R_far (p := ⟨gb143, 1, none⟩) (Kd.R_far (p := ⟨gb143, 0, none⟩) (Kd.R_types HO141.out BK143.out (by decide)) (fun _ hk => hk.2) (.int .i64 t131)) (fun _ hk => hk.2) (.bool t132)) (fun _ hk => hk.2) (.int .i64 t133)) (fun _ hk => hk.2) (.int .i64 t134)) (fun _ hk => hk.2) (.int .i64 t135)) (fun _ hk => hk.2) (.slice Ao29 t136.length co29)) (fun _ hk => hk.2) (.slice Ao30 t139.length co30)) (fun _ h_ => h_.1))))) (below_size (by repeat (first | (with_reducible first | exact HB.out | apply below_alloc | apply pw_below_drewN | apply below_drew1 | refine below_set ?_ GE125.out | refine below_set ?_ GE143.out) | exact HB.out)))); have n5_ := Aside0.mk (blk_below (g := gb125) (o := .cells #[.int .i64 1, .bool false, .int .i64 5, .int .i64 0, .int .i64 1, .slice Ao17 y122.length co17, .slice none 0 0] 24 (0, 0)) (by (with_reducible repeat (first | refine blk_drewN ?_ _ | refine blk_drew ?_ | refine blk_alloc ?_ _)); refine blk_far ?_ NB125_143.out _; (with_reducible repeat (first | refine blk_drewN ?_ _ | refine blk_drew ?_ | refine blk_alloc ?_ _)); refine blk_far ?_ NB125_143.out _; (with_reducible repeat (first | refine blk_drewN ?_ _ | refine blk_drew ?_ | refine blk_alloc ?_ _)); refine blk_far ?_ NB125_143.out _; (with_reducible repeat (first | refine blk_drewN ?_ _ | refine blk_drew ?_ | refine blk_alloc ?_ _)); refine blk_far ?_ NB125_143.out _; (with_reducible repeat (first | refine blk_drewN ?_ _ | refine blk_drew ?_ | refine blk_alloc ?_ _)); refine blk_far ?_ NB125_143.out _; (with_reducible repeat (first | refine blk_drewN ?_ _ | refine blk_drew ?_ | refine blk_alloc ?_ _)); refine blk_far ?_ NB125_143.out _; (with_reducible repeat (first | refine blk_drewN ?_ _ | refine blk_drew ?_ | refine blk_alloc ?_ _)); refine blk_far ?_ NB125_143.out _; (with_reducible repeat (first | refine blk_drewN ?_ _ | refine blk_drew ?_ | refine blk_alloc ?_ _)); exact BK125.out) hb); have n6_ := Aside0.mk (blk_below (g := gb143) (o := .cells #[.int .i64 t131, .bool t132, .int .i64 t133, .int .i64 t134, .int .i64 t135, .slice Ao29 t136.length co29, .slice Ao30 t139.length co30] 24 (0, 0)) (by (with_reducible repeat (first | refine blk_drewN ?_ _ | refine blk_drew ?_ | refine blk_alloc ?_ _)); refine blk_put (cs := #[.int .i64 t131, .bool t132, .int .i64 t133, .int .i64 t134, .int .i64 t135, .slice Ao29 t136.length co29, .slice none 0 0]) ?_ 6 _ rfl; (with_reducible repeat (first | refine blk_drewN ?_ _ | refine blk_drew ?_ | refine blk_alloc ?_ _)); refine blk_put (cs := #[.int .i64 t131, .bool t132, .int .i64 t133, .int .i64 t134, .int .i64 t135, .slice none 0 0, .slice none 0 0]) ?_ 5 _ rfl; (with_reducible repeat (first | refine blk_drewN ?_ _ | refine blk_drew ?_ | refine blk_alloc ?_ _)); refine blk_put (cs := #[.int .i64 t131, .bool t132, .int .i64 t133, .int .i64 t134, .int .i64 0, .slice none 0 0, .slice none 0 0]) ?_ 4 _ rfl; (with_reducible repeat (first | refine blk_drewN ?_ _ | refine blk_drew ?_ | refine blk_alloc ?_ _)); refine blk_put (cs := #[.int .i64 t131, .bool t132, .int .i64 t133, .int .i64 0, .int .i64 0, .slice none 0 0, .slice none 0 0]) ?_ 3 _ rfl; (with_reducible repeat (first | refine blk_drewN ?_ _ | refine blk_drew ?_ | refine blk_alloc ?_ _)); refine blk_put (cs := #[.int .i64 t131, .bool t132, .int .i64 0, .int .i64 0, .int .i64 0, .slice none 0 0, .slice none 0 0]) ?_ 2 _ rfl; (with_reducible repeat (first | refine blk_drewN ?_ _ | refine blk_drew ?_ | refine blk_alloc ?_ _)); refine blk_put (cs := #[.int .i64 t131, .bool false, .int .i64 0, .int .i64 0, .int .i64 0, .slice none 0 0, .slice none 0 0]) ?_ 1 _ rfl; (with_reducible repeat (first | refine blk_drewN ?_ _ | refine blk_drew ?_ | refine blk_alloc ?_ _)); refine blk_put (cs := #[.int .i64 0, .bool false, .int .i64 0, .int .i64 0, .int .i64 0, .slice none 0 0, .slice none 0 0]) ?_ 0 _ rfl; (with_reducible repeat (first | refine blk_drewN ?_ _ | refine blk_drew ?_ | refine blk_alloc ?_ _)); exact BK143.out) hb); have n7_ := Aside0.mk (below_step (by repeat (first | (with_reducible first | exact HB.out | apply below_alloc | apply pw_below_drewN | apply below_drew1 | refine below_set ?_ GE125.out | refine below_set ?_ GE143.out) | exact HB.out)) hb); clear HO124; clear HO130; clear HO138; clear HO141; clear BK125; clear BK143; clear HB; have HO124 := n0_; have HO130 := n1_; have HO138 := n2_; have HO141 := n3_; have HO146 := n4_; have BK125 := n5_; have BK143 := n6_; have HB := n7_; clear n0_ n1_ n2_ n3_ n4_ n5_ n6_ n7_; clear hb ho33; obtain ⟨Ao34, co34, eo34⟩ := Kd.R_slice HO146.out; subst eo34) | ((with_reducible refine gate_callee (f := 19) rfl ?_); refine goesL_ (some 28) rfl rfl Try.func19 (by kernel_rfl) rfl #[.agg #[.int .i64 1, .bool false, .int .i64 5, .int .i64 0, .int .i64 1, .slice Ao17 y122.length co17, .slice none 0 0], .int .i64 1, .slice Ao34 y144.length co34, .slice none 0 0] rfl (by (try simp only [List.map_toArray, List.map_cons, List.map_nil]); first | done | rfl | (simp only [List.length_drop, List.length_take]; rfl)) ?_; (refine (cellmsg_Accept.calls k 1 false 5 0 1 _ _ y122 _ _ ([] : List (S37)) 1 _ _ y144 _ _ ([] : List (S37)) t147 t148 t149 t150 t151 t152 t155 t158 _ ?side1 ?side2 ?side3 ?side4 ?side5 ?side6 ?side7 ?side8 A3.out).mono ?_); (case side1 => repeat (first | exact (Kd.R_reads' HO124.out).2.2 | (with_reducible refine Kd.C_alloc ?_ _) | (with_reducible refine Kd.C_drewN ?_ _) | (with_reducible refine Kd.C_drew ?_))); (case side2 => exact (Kd.R_reads' HO124.out).2.1); (case side3 => exact Kd.C_nil _ _); (case side4 => exact Nat.le_refl _); (case side5 => repeat (first | exact (Kd.R_reads' HO146.out).2.2 | (with_reducible refine Kd.C_alloc ?_ _) | (with_reducible refine Kd.C_drewN ?_ _) | (with_reducible refine Kd.C_drew ?_))); (case side6 => exact (Kd.R_reads' HO146.out).2.1); (case side7 => exact Kd.C_nil _ _); (case side8 => exact Nat.le_refl _); rintro e w35 ⟨v153, v156, rfl, ho0, ho1, hb⟩; refine ⟨_, rfl, ?_⟩; have n0_ := Aside0.mk (Kd.R_mono (Kd.R_told (Kd.R_told (Kd.R_old (by (with_reducible repeat (first | apply Kd.R_alloc | apply Kd.R_drewN | apply Kd.R_drew)); exact HO124.out) hb) (Kd.R_base ho0)) (Kd.R_base ho1)) (fun _ h_ => h_.1)); have n1_ := Aside0.mk (Kd.R_mono (Kd.R_told (Kd.R_told (Kd.R_old (by (with_reducible repeat (first | apply Kd.R_alloc | apply Kd.R_drewN | apply Kd.R_drew)); exact HO130.out) hb) (Kd.R_base ho0)) (Kd.R_base ho1)) (fun _ h_ => h_.1)); have n2_ := Aside0.mk (Kd.R_mono (Kd.R_told (Kd.R_told (Kd.R_old (by (with_reducible repeat (first | apply Kd.R_alloc | apply Kd.R_drewN | apply Kd.R_drew)); exact HO138.out) hb) (Kd.R_base ho0)) (Kd.R_base ho1)) (fun _ h_ => h_.1)); have n3_ := Aside0.mk (Kd.R_mono (Kd.R_told (Kd.R_told (Kd.R_old (by (with_reducible repeat (first | apply Kd.R_alloc | apply Kd.R_drewN | apply Kd.R_drew)); exact HO141.out) hb) (Kd.R_base ho0)) (Kd.R_base ho1)) (fun _ h_ => h_.1)); have n4_ := Aside0.mk (Kd.R_mono (Kd.R_told (Kd.R_told (Kd.R_old (by (with_reducible repeat (first | apply Kd.R_alloc | apply Kd.R_drewN | apply Kd.R_drew)); exact HO146.out) hb) (Kd.R_base ho0)) (Kd.R_base ho1)) (fun _ h_ => h_.1)); have n5_ := Aside0.mk (Kd.R_lower (Kd.R_new' (Kd.R_new' (Kd.R_new' (Kd.R_new' (Kd.R_new' ho0 (Kd.R_lt (by (with_reducible repeat (first | apply Kd.R_alloc | apply Kd.R_drewN | apply Kd.R_drew)); exact HO124.out))) (Kd.R_lt (by (with_reducible repeat (first | apply Kd.R_alloc | apply Kd.R_drewN | apply Kd.R_drew)); exact HO130.out))) (Kd.R_lt (by (with_reducible repeat (first | apply Kd.R_alloc | apply Kd.R_drewN | apply Kd.R_drew)); exact HO138.out))) (Kd.R_lt (by (with_reducible repeat (first | apply Kd.R_alloc | apply Kd.R_drewN | apply Kd.R_drew)); exact HO141.out))) (Kd.R_lt (by (with_reducible repeat (first | apply Kd.R_alloc | apply Kd.R_drewN | apply Kd.R_drew)); exact HO146.out))) (below_size (by repeat (first | (with_reducible first | exact HB.out | apply below_alloc | apply pw_below_drewN | apply below_drew1 | refine below_set ?_ GE125.out | refine below_set ?_ GE143.out) | exact HB.out)))); have n6_ := Aside0.mk (Kd.R_lower (Kd.R_new' (Kd.R_new' (Kd.R_new' (Kd.R_new' (Kd.R_new' ho1 (Kd.R_lt (by (with_reducible repeat (first | apply Kd.R_alloc | apply Kd.R_drewN | apply Kd.R_drew)); exact HO124.out))) (Kd.R_lt (by (with_reducible repeat (first | apply Kd.R_alloc | apply Kd.R_drewN | apply Kd.R_drew)); exact HO130.out))) (Kd.R_lt (by (with_reducible repeat (first | apply Kd.R_alloc | apply Kd.R_drewN | apply Kd.R_drew)); exact HO138.out))) (Kd.R_lt (by (with_reducible repeat (first | apply Kd.R_alloc | apply Kd.R_drewN | apply Kd.R_drew)); exact HO141.out))) (Kd.R_lt (by (with_reducible repeat (first | apply Kd.R_alloc | apply Kd.R_drewN | apply Kd.R_drew)); exact HO146.out))) (below_size (by repeat (first | (with_reducible first | exact HB.out | apply below_alloc | apply pw_below_drewN | apply below_drew1 | refine below_set ?_ GE125.out | refine below_set ?_ GE143.out) | exact HB.out)))); have n7_ := Aside0.mk (blk_below (g := gb125) (o := .cells #[.int .i64 1, .bool false, .int .i64 5, .int .i64 0, .int .i64 1, .slice Ao17 y122.length co17, .slice none 0 0] 24 (0, 0)) (by (with_reducible repeat (first | refine blk_drewN ?_ _ | refine blk_drew ?_ | refine blk_alloc ?_ _)); exact BK125.out) hb); have n8_ := Aside0.mk (blk_below (g := gb143) (o := .cells #[.int .i64 t131, .bool t132, .int .i64 t133, .int .i64 t134, .int .i64 t135, .slice Ao29 t136.length co29, .slice Ao30 t139.length co30] 24 (0, 0)) (by (with_reducible repeat (first | refine blk_drewN ?_ _ | refine blk_drew ?_ | refine blk_alloc ?_ _)); exact BK143.out) hb); have n9_ := Aside0.mk (below_step (by repeat (first | (with_reducible first | exact HB.out | apply below_alloc | apply pw_below_drewN | apply below_drew1 | refine below_set ?_ GE125.out | refine below_set ?_ GE143.out) | exact HB.out)) hb); clear HO124; clear HO130; clear HO138; clear HO141; clear HO146; clear BK125; clear BK143; clear HB; have HO124 := n0_; have HO130 := n1_; have HO138 := n2_; have HO141 := n3_; have HO146 := n4_; have HO154 := n5_; have HO157 := n6_; have BK125 := n7_; have BK143 := n8_; have HB := n9_; clear n0_ n1_ n2_ n3_ n4_ n5_ n6_ n7_ n8_ n9_; (try clear hb); (try clear hb2); (try clear hk); (try clear hi); (try clear ho0); (try clear ho1)) | ((with_reducible refine gate_dst (N := 6) rfl ?_); (try (refine gate_guard (by rfl) ?_; dsimp only)); refine box_event ?hg (N := 6) ?hd (cs := #[.int .i64 0, .bool false, .int .i64 0, .int .i64 0, .int .i64 0, .slice none 0 0, .slice none 0 0]) (t := 24) ?hr ?_; (case hd => rfl); (case hg => rfl); (case hr => first | (go_simp; done) | (go_simp; rfl)); intro gb159 hg w36 hbox hb; have n0_ := Aside0.mk (Kd.R_below (by (with_reducible repeat (first | apply Kd.R_alloc | apply Kd.R_drewN | apply Kd.R_drew)); exact HO124.out) hb); have n1_ := Aside0.mk (Kd.R_below (by (with_reducible repeat (first | apply Kd.R_alloc | apply Kd.R_drewN | apply Kd.R_drew)); exact HO130.out) hb); have n2_ := Aside0.mk (Kd.R_below (by (with_reducible repeat (first | apply Kd.R_alloc | apply Kd.R_drewN | apply Kd.R_drew)); exact HO138.out) hb); have n3_ := Aside0.mk (Kd.R_below (by (with_reducible repeat (first | apply Kd.R_alloc | apply Kd.R_drewN | apply Kd.R_drew)); exact HO141.out) hb); have n4_ := Aside0.mk (Kd.R_below (by (with_reducible repeat (first | apply Kd.R_alloc | apply Kd.R_drewN | apply Kd.R_drew)); exact HO146.out) hb); have n5_ := Aside0.mk (Kd.R_below (by (with_reducible repeat (first | apply Kd.R_alloc | apply Kd.R_drewN | apply Kd.R_drew)); exact HO154.out) hb); have n6_ := Aside0.mk (Kd.R_below (by (with_reducible repeat (first | apply Kd.R_alloc | apply Kd.R_drewN | apply Kd.R_drew)); exact HO157.out) hb); have n7_ := Aside0.mk (blk_below (g := gb125) (o := .cells #[.int .i64 1, .bool false, .int .i64 5, .int .i64 0, .int .i64 1, .slice Ao17 y122.length co17, .slice none 0 0] 24 (0, 0)) (by (with_reducible repeat (first | refine blk_drewN ?_ _ | refine blk_drew ?_ | refine blk_alloc ?_ _)); exact BK125.out) hb); have n8_ := Aside0.mk (blk_below (g := gb143) (o := .cells #[.int .i64 t131, .bool t132, .int .i64 t133, .int .i64 t134, .int .i64 t135, .slice Ao29 t136.length co29, .slice Ao30 t139.length co30] 24 (0, 0)) (by (with_reducible repeat (first | refine blk_drewN ?_ _ | refine blk_drew ?_ | refine blk_alloc ?_ _)); exact BK143.out) hb); have n9_ := Aside0.mk (below_step (by repeat (first | (with_reducible first | exact HB.out | apply below_alloc | apply pw_below_drewN | apply below_drew1 | refine below_set ?_ GE125.out | refine below_set ?_ GE143.out) | exact HB.out)) hb); have n10_ := Aside0.mk (hbox); have n11_ := Aside0.mk ((by rw [hg]; exact (below_size (by repeat (first | (with_reducible first | exact HB.out | apply below_alloc | apply pw_below_drewN | apply below_drew1 | refine below_set ?_ GE125.out | refine below_set ?_ GE143.out) | exact HB.out))) : w.heap.size ≤ gb159)); have n12_ := Aside0.mk ((by rw [hg]; exact (below_size (by repeat (first | (with_reducible first | exact HB.out | apply below_alloc | apply pw_below_drewN | apply below_drew1 | refine below_set ?_ GE125.out | refine below_set ?_ GE143.out) | exact HB.out))) : w.heap.size ≤ gb159)); have n13_ := Aside0.mk ((by rw [hg]; exact Nat.ne_of_lt (blk_lt (g := gb125) (o := .cells #[.int .i64 1, .bool false, .int .i64 5, .int .i64 0, .int .i64 1, .slice Ao17 y122.length co17, .slice none 0 0] 24 (0, 0)) (by (with_reducible repeat (first | refine blk_drewN ?_ _ | refine blk_drew ?_ | refine blk_alloc ?_ _)); exact BK125.out)) : gb125 ≠ gb159)); have n14_ := Aside0.mk ((by rw [hg]; exact Nat.ne_of_gt (blk_lt (g := gb125) (o := .cells #[.int .i64 1, .bool false, .int .i64 5, .int .i64 0, .int .i64 1, .slice Ao17 y122.length co17, .slice none 0 0] 24 (0, 0)) (by (with_reducible repeat (first | refine blk_drewN ?_ _ | refine blk_drew ?_ | refine blk_alloc ?_ _)); exact BK125.out)) : gb159 ≠ gb125)); have n15_ := Aside0.mk ((by rw [hg]; exact Nat.ne_of_lt (blk_lt (g := gb143) (o := .cells #[.int .i64 t131, .bool t132, .int .i64 t133, .int .i64 t134, .int .i64 t135, .slice Ao29 t136.length co29, .slice Ao30 t139.length co30] 24 (0, 0)) (by (with_reducible repeat (first | refine blk_drewN ?_ _ | refine blk_drew ?_ | refine blk_alloc ?_ _)); exact BK143.out)) : gb143 ≠ gb159)); have n16_ := Aside0.mk ((by rw [hg]; exact Nat.ne_of_gt (blk_lt (g := gb143) (o := .cells #[.int .i64 t131, .bool t132, .int .i64 t133, .int .i64 t134, .int .i64 t135, .slice Ao29 t136.length co29, .slice Ao30 t139.length co30] 24 (0, 0)) (by (with_reducible repeat (first | refine blk_drewN ?_ _ | refine blk_drew ?_ | refine blk_alloc ?_ _)); exact BK143.out)) : gb159 ≠ gb143)); clear HO124; clear HO130; clear HO138; clear HO141; clear HO146; clear HO154; clear HO157; clear BK125; clear BK143; clear HB; have HO124 := n0_; have HO130 := n1_; have HO138 := n2_; have HO141 := n3_; have HO146 := n4_; have HO154 := n5_; have HO157 := n6_; have BK125 := n7_; have BK143 := n8_; have HB := n9_; have BK159 := n10_; have GW159 := n11_; have GE159 := n12_; have NB125_159 := n13_; have NB159_125 := n14_; have NB143_159 := n15_; have NB159_143 := n16_; clear n0_ n1_ n2_ n3_ n4_ n5_ n6_ n7_ n8_ n9_ n10_ n11_ n12_ n13_ n14_ n15_ n16_; clear hb hbox hg; have hnb37 := NB159_125.out; have hnc37 := NB125_159.out; have hnb38 := NB159_143.out; have hnc38 := NB143_159.out; have hcz39_0 : w36.cell? ⟨gb159, 0, none⟩ = some (.int .i64 0) := (blk_cell BK159.out 0).trans rfl; have hcz39_1 : w36.cell? ⟨gb159, 1, none⟩ = some (.bool false) := (blk_cell BK159.out 1).trans rfl; have hcz39_2 : w36.cell? ⟨gb159, 2, none⟩ = some (.int .i64 0) := (blk_cell BK159.out 2).trans rfl; have hcz39_3 : w36.cell? ⟨gb159, 3, none⟩ = some (.int .i64 0) := (blk_cell BK159.out 3).trans rfl; have hcz39_4 : w36.cell? ⟨gb159, 4, none⟩ = some (.int .i64 0) := (blk_cell BK159.out 4).trans rfl; have hcz39_5 : w36.cell? ⟨gb159, 5, none⟩ = some (.slice none 0 0) := (blk_cell BK159.out 5).trans rfl; have hcz39_6 : w36.cell? ⟨gb159, 6, none⟩ = some (.slice none 0 0) := (blk_cell BK159.out 6).trans rfl; have hfz39_0 := blk_frozen BK159.out 0; have hfz39_1 := blk_frozen BK159.out 1; have hfz39_2 := blk_frozen BK159.out 2; have hfz39_3 := blk_frozen BK159.out 3; have hfz39_4 := blk_frozen BK159.out 4; have hfz39_5 := blk_frozen BK159.out 5; have hfz39_6 := blk_frozen BK159.out 6; obtain ⟨Ao40, co40, eo40⟩ := Kd.R_slice HO154.out; subst eo40; obtain ⟨Ao41, co41, eo41⟩ := Kd.R_slice HO157.out; subst eo41; have p9 : 0 ≤ (0 : Int) := (by omega); have q9 : 0 < t126.size := (by have : (0 : Int) < (t126.size : Int) := of_decide_eq_true (by first | (with_reducible assumption) | assumption); omega); have hx9 : ∀ h : 0 < t126.size, ((t126[0]'h).toNat : Int) = bt t126 0 := bt_at t126 0; clear p9; have qi9 : (0 < (t126.size : Int)) = True := eq_true (of_decide_eq_true (by first | (with_reducible assumption) | assumption)); replace q9 := eq_true q9; have p12 : 0 ≤ (1 : Int) := (by omega); have q12 : 1 < t126.size := (by have : (1 : Int) < (t126.size : Int) := of_decide_eq_true (by first | (with_reducible assumption) | assumption); omega); have hx12 : ∀ h : 1 < t126.size, ((t126[1]'h).toNat : Int) = bt t126 1 := bt_at t126 1; clear p12; have qi12 : (1 < (t126.size : Int)) = True := eq_true (of_decide_eq_true (by first | (with_reducible assumption) | assumption)); replace q12 := eq_true q12; have hcz42_0 : w36.cell? ⟨gb125, 0, none⟩ = some (.int .i64 1) := (blk_cell BK125.out 0).trans rfl; have hcz42_1 : w36.cell? ⟨gb125, 1, none⟩ = some (.bool false) := (blk_cell BK125.out 1).trans rfl; have hcz42_2 : w36.cell? ⟨gb125, 2, none⟩ = some (.int .i64 5) := (blk_cell BK125.out 2).trans rfl; have hcz42_3 : w36.cell? ⟨gb125, 3, none⟩ = some (.int .i64 0) := (blk_cell BK125.out 3).trans rfl; have hcz42_4 : w36.cell? ⟨gb125, 4, none⟩ = some (.int .i64 1) := (blk_cell BK125.out 4).trans rfl; have hcz42_5 : w36.cell? ⟨gb125, 5, none⟩ = some (.slice Ao17 y122.length co17) := (blk_cell BK125.out 5).trans rfl; have hcz42_6 : w36.cell? ⟨gb125, 6, none⟩ = some (.slice none 0 0) := (blk_cell BK125.out 6).trans rfl; have hfz42_0 := blk_frozen BK125.out 0; have hfz42_1 := blk_frozen BK125.out 1; have hfz42_2 := blk_frozen BK125.out 2; have hfz42_3 := blk_frozen BK125.out 3; have hfz42_4 := blk_frozen BK125.out 4; have hfz42_5 := blk_frozen BK125.out 5; have hfz42_6 := blk_frozen BK125.out 6; have hcz43_0 : w36.cell? ⟨gb143, 0, none⟩ = some (.int .i64 t131) := (blk_cell BK143.out 0).trans rfl; have hcz43_1 : w36.cell? ⟨gb143, 1, none⟩ = some (.bool t132) := (blk_cell BK143.out 1).trans rfl; have hcz43_2 : w36.cell? ⟨gb143, 2, none⟩ = some (.int .i64 t133) := (blk_cell BK143.out 2).trans rfl; have hcz43_3 : w36.cell? ⟨gb143, 3, none⟩ = some (.int .i64 t134) := (blk_cell BK143.out 3).trans rfl; have hcz43_4 : w36.cell? ⟨gb143, 4, none⟩ = some (.int .i64 t135) := (blk_cell BK143.out 4).trans rfl; have hcz43_5 : w36.cell? ⟨gb143, 5, none⟩ = some (.slice Ao29 t136.length co29) := (blk_cell BK143.out 5).trans rfl; have hcz43_6 : w36.cell? ⟨gb143, 6, none⟩ = some (.slice Ao30 t139.length co30) := (blk_cell BK143.out 6).trans rfl; have hfz43_0 := blk_frozen BK143.out 0; have hfz43_1 := blk_frozen BK143.out 1; have hfz43_2 := blk_frozen BK143.out 2; have hfz43_3 := blk_frozen BK143.out 3; have hfz43_4 := blk_frozen BK143.out 4; have hfz43_5 := blk_frozen BK143.out 5; have hfz43_6 := blk_frozen BK143.out 6) | (go_at_call 17; (refine (cellmsg_Answers.calls k 1 false 5 0 1 _ _ y122 _ _ ([] : List (S37)) t131 t132 t133 t134 t135 _ _ t136 _ _ t139 t160 _ ?side1 ?side2 ?side3 ?side4 ?side5 ?side6 ?side7 ?side8 A14.out).mono ?_); (case side1 => refine (Kd.R_reads' (e := 37) (base := w.heap.size) (ok := fun k_ => ((((((True ∧ some k_ ≠ (.slice Ao24 y128.length co24 : Value).ownBlock) ∧ some k_ ≠ (.slice Ao29 t136.length co29 : Value).ownBlock) ∧ some k_ ≠ (.slice Ao30 t139.length co30 : Value).ownBlock) ∧ some k_ ≠ (.slice Ao34 y144.length co34 : Value).ownBlock) ∧ some k_ ≠ (.slice Ao40 t152.length co40 : Value).ownBlock) ∧ some k_ ≠ (.slice Ao41 t155.length co41 : Value).ownBlock)) (n := y122.length) (c := co17) ?_).2.2; exact (by (with_reducible repeat (first | apply Kd.R_alloc | apply Kd.R_drewN | apply Kd.R_drew)); exact (Kd.R_mono (Kd.R_far (p := ⟨gb159, 6, none⟩) (Kd.R_far (p := ⟨gb159, 5, none⟩) (Kd.R_far (p := ⟨gb159, 4, none⟩) (Kd.R_far (p := ⟨gb159, 3, none⟩) (Kd.R_far (p := ⟨gb159, 2, none⟩) (Kd.R_far (p := ⟨gb159, 1, none⟩) (Kd.R_far (p := ⟨gb159, 0, none⟩) (Kd.R_types HO124.out BK159.out (by decide)) (fun _ hk => hk.2) (.int .i64 t147)) (fun _ hk => hk.2) (.bool t148)) (fun _ hk => hk.2) (.int .i64 t149)) (fun _ hk => hk.2) (.int .i64 t150)) (fun _ hk => hk.2) (.int .i64 t151)) (fun _ hk => hk.2) (.slice Ao40 t152.length co40)) (fun _ hk => hk.2) (.slice Ao41 t155.length co41)) (fun _ h_ => h_.1)))); (case side2 => exact (Kd.R_reads' HO124.out).2.1); (case side3 => exact Kd.C_nil _ _); (case side4 => exact Nat.le_refl _); (case side5 => refine (Kd.R_reads' (e := 37) (base := w.heap.size) (ok := fun k_ => (((((some k_ ≠ (.slice Ao30 t139.length co30 : Value).ownBlock ∧ some k_ ≠ (.slice Ao17 y122.length co17 : Value).ownBlock) ∧ some k_ ≠ (.slice Ao24 y128.length co24 : Value).ownBlock) ∧ some k_ ≠ (.slice Ao34 y144.length co34 : Value).ownBlock) ∧ some k_ ≠ (.slice Ao40 t152.length co40 : Value).ownBlock) ∧ some k_ ≠ (.slice Ao41 t155.length co41 : Value).ownBlock)) (n := t136.length) (c := co29) ?_).2.2; exact (by (with_reducible repeat (first | apply Kd.R_alloc | apply Kd.R_drewN | apply Kd.R_drew)); exact (Kd.R_mono (Kd.R_far (p := ⟨gb159, 6, none⟩) (Kd.R_far (p := ⟨gb159, 5, none⟩) (Kd.R_far (p := ⟨gb159, 4, none⟩) (Kd.R_far (p := ⟨gb159, 3, none⟩) (Kd.R_far (p := ⟨gb159, 2, none⟩) (Kd.R_far (p := ⟨gb159, 1, none⟩) (Kd.R_far (p := ⟨gb159, 0, none⟩) (Kd.R_types HO138.out BK159.out (by decide)) (fun _ hk => hk.2) (.int .i64 t147)) (fun _ hk => hk.2) (.bool t148)) (fun _ hk => hk.2) (.int .i64 t149)) (fun _ hk => hk.2) (.int .i64 t150)) (fun _ hk => hk.2) (.int .i64 t151)) (fun _ hk => hk.2) (.slice Ao40 t152.length co40)) (fun _ hk => hk.2) (.slice Ao41 t155.length co41)) (fun _ h_ => h_.1)))); (case side6 => exact (Kd.R_reads' HO138.out).2.1); (case side7 => refine (Kd.R_reads' (e := 37) (base := w.heap.size) (ok := fun k_ => (((((some k_ ≠ (.slice Ao29 t136.length co29 : Value).ownBlock ∧ some k_ ≠ (.slice Ao17 y122.length co17 : Value).ownBlock) ∧ some k_ ≠ (.slice Ao24 y128.length co24 : Value).ownBlock) ∧ some k_ ≠ (.slice Ao34 y144.length co34 : Value).ownBlock) ∧ some k_ ≠ (.slice Ao40 t152.length co40 : Value).ownBlock) ∧ some k_ ≠ (.slice Ao41 t155.length co41 : Value).ownBlock)) (n := t139.length) (c := co30) ?_).2.2; exact (by (with_reducible repeat (first | apply Kd.R_alloc | apply Kd.R_drewN | apply Kd.R_drew)); exact (Kd.R_mono (Kd.R_far (p := ⟨gb159, 6, none⟩) (Kd.R_far (p := ⟨gb159, 5, none⟩) (Kd.R_far (p := ⟨gb159, 4, none⟩) (Kd.R_far (p := ⟨gb159, 3, none⟩) (Kd.R_far (p := ⟨gb159, 2, none⟩) (Kd.R_far (p := ⟨gb159, 1, none⟩) (Kd.R_far (p := ⟨gb159, 0, none⟩) (Kd.R_types HO141.out BK159.out (by decide)) (fun _ hk => hk.2) (.int .i64 t147)) (fun _ hk => hk.2) (.bool t148)) (fun _ hk => hk.2) (.int .i64 t149)) (fun _ hk => hk.2) (.int .i64 t150)) (fun _ hk => hk.2) (.int .i64 t151)) (fun _ hk => hk.2) (.slice Ao40 t152.length co40)) (fun _ hk => hk.2) (.slice Ao41 t155.length co41)) (fun _ h_ => h_.1)))); (case side8 => exact (Kd.R_reads' HO141.out).2.1); rintro e w44 ⟨rfl, hb⟩; have n0_ := Aside0.mk (Kd.R_below (by (with_reducible repeat (first | apply Kd.R_alloc | apply Kd.R_drewN | apply Kd.R_drew)); exact (Kd.R_mono (Kd.R_far (p := ⟨gb159, 6, none⟩) (Kd.R_far (p := ⟨gb159, 5, none⟩) (Kd.R_far (p := ⟨gb159, 4, none⟩) (Kd.R_far (p := ⟨gb159, 3, none⟩) (Kd.R_far (p := ⟨gb159, 2, none⟩) (Kd.R_far (p := ⟨gb159, 1, none⟩) (Kd.R_far (p := ⟨gb159, 0, none⟩) (Kd.R_types HO124.out BK159.out (by decide)) (fun _ hk => hk.2) (.int .i64 t147)) (fun _ hk => hk.2) (.bool t148)) (fun _ hk => hk.2) (.int .i64 t149)) (fun _ hk => hk.2) (.int .i64 t150)) (fun _ hk => hk.2) (.int .i64 t151)) (fun _ hk => hk.2) (.slice Ao40 t152.length co40)) (fun _ hk => hk.2) (.slice Ao41 t155.length co41)) (fun _ h_ => h_.1))) hb); have n1_ := Aside0.mk (Kd.R_below (by (with_reducible repeat (first | apply Kd.R_alloc | apply Kd.R_drewN | apply Kd.R_drew)); exact (Kd.R_mono (Kd.R_far (p := ⟨gb159, 6, none⟩) (Kd.R_far (p := ⟨gb159, 5, none⟩) (Kd.R_far (p := ⟨gb159, 4, none⟩) (Kd.R_far (p := ⟨gb159, 3, none⟩) (Kd.R_far (p := ⟨gb159, 2, none⟩) (Kd.R_far (p := ⟨gb159, 1, none⟩) (Kd.R_far (p := ⟨gb159, 0, none⟩) (Kd.R_types HO130.out BK159.out (by decide)) (fun _ hk => hk.2) (.int .i64 t147)) (fun _ hk => hk.2) (.bool t148)) (fun _ hk => hk.2) (.int .i64 t149)) (fun _ hk => hk.2) (.int .i64 t150)) (fun _ hk => hk.2) (.int .i64 t151)) (fun _ hk => hk.2) (.slice Ao40 t152.length co40)) (fun _ hk => hk.2) (.slice Ao41 t155.length co41)) (fun _ h_ => h_.1))) hb); have n2_ := Aside0.mk (Kd.R_below (by (with_reducible repeat (first | apply Kd.R_alloc | apply Kd.R_drewN | apply Kd.R_drew)); exact (Kd.R_mono (Kd.R_far (p := ⟨gb159, 6, none⟩) (Kd.R_far (p := ⟨gb159, 5, none⟩) (Kd.R_far (p := ⟨gb159, 4, none⟩) (Kd.R_far (p := ⟨gb159, 3, none⟩) (Kd.R_far (p := ⟨gb159, 2, none⟩) (Kd.R_far (p := ⟨gb159, 1, none⟩) (Kd.R_far (p := ⟨gb159, 0, none⟩) (Kd.R_types HO138.out BK159.out (by decide)) (fun _ hk => hk.2) (.int .i64 t147)) (fun _ hk => hk.2) (.bool t148)) (fun _ hk => hk.2) (.int .i64 t149)) (fun _ hk => hk.2) (.int .i64 t150)) (fun _ hk => hk.2) (.int .i64 t151)) (fun _ hk => hk.2) (.slice Ao40 t152.length co40)) (fun _ hk => hk.2) (.slice Ao41 t155.length co41)) (fun _ h_ => h_.1))) hb); have n3_ := Aside0.mk (Kd.R_below (by (with_reducible repeat (first | apply Kd.R_alloc | apply Kd.R_drewN | apply Kd.R_drew)); exact (Kd.R_mono (Kd.R_far (p := ⟨gb159, 6, none⟩) (Kd.R_far (p := ⟨gb159, 5, none⟩) (Kd.R_far (p := ⟨gb159, 4, none⟩) (Kd.R_far (p := ⟨gb159, 3, none⟩) (Kd.R_far (p := ⟨gb159, 2, none⟩) (Kd.R_far (p := ⟨gb159, 1, none⟩) (Kd.R_far (p := ⟨gb159, 0, none⟩) (Kd.R_types HO141.out BK159.out (by decide)) (fun _ hk => hk.2) (.int .i64 t147)) (fun _ hk => hk.2) (.bool t148)) (fun _ hk => hk.2) (.int .i64 t149)) (fun _ hk => hk.2) (.int .i64 t150)) (fun _ hk => hk.2) (.int .i64 t151)) (fun _ hk => hk.2) (.slice Ao40 t152.length co40)) (fun _ hk => hk.2) (.slice Ao41 t155.length co41)) (fun _ h_ => h_.1))) hb); have n4_ := Aside0.mk (Kd.R_below (by (with_reducible repeat (first | apply Kd.R_alloc | apply Kd.R_drewN | apply Kd.R_drew)); exact (Kd.R_mono (Kd.R_far (p := ⟨gb159, 6, none⟩) (Kd.R_far (p := ⟨gb159, 5, none⟩) (Kd.R_far (p := ⟨gb159, 4, none⟩) (Kd.R_far (p := ⟨gb159, 3, none⟩) (Kd.R_far (p := ⟨gb159, 2, none⟩) (Kd.R_far (p := ⟨gb159, 1, none⟩) (Kd.R_far (p := ⟨gb159, 0, none⟩) (Kd.R_types HO146.out BK159.out (by decide)) (fun _ hk => hk.2) (.int .i64 t147)) (fun _ hk => hk.2) (.bool t148)) (fun _ hk => hk.2) (.int .i64 t149)) (fun _ hk => hk.2) (.int .i64 t150)) (fun _ hk => hk.2) (.int .i64 t151)) (fun _ hk => hk.2) (.slice Ao40 t152.length co40)) (fun _ hk => hk.2) (.slice Ao41 t155.length co41)) (fun _ h_ => h_.1))) hb); have n5_ := Aside0.mk (Kd.R_below (by (with_reducible repeat (first | apply Kd.R_alloc | apply Kd.R_drewN | apply Kd.R_drew)); exact (Kd.R_mono (Kd.R_far (p := ⟨gb159, 6, none⟩) (Kd.R_far (p := ⟨gb159, 5, none⟩) (Kd.R_far (p := ⟨gb159, 4, none⟩) (Kd.R_far (p := ⟨gb159, 3, none⟩) (Kd.R_far (p := ⟨gb159, 2, none⟩) (Kd.R_far (p := ⟨gb159, 1, none⟩) (Kd.R_far (p := ⟨gb159, 0, none⟩) (Kd.R_types HO154.out BK159.out (by decide)) (fun _ hk => hk.2) (.int .i64 t147)) (fun _ hk => hk.2) (.bool t148)) (fun _ hk => hk.2) (.int .i64 t149)) (fun _ hk => hk.2) (.int .i64 t150)) (fun _ hk => hk.2) (.int .i64 t151)) (fun _ hk => hk.2) (.slice Ao40 t152.length co40)) (fun _ hk => hk.2) (.slice Ao41 t155.length co41)) (fun _ h_ => h_.1))) hb); have n6_ := Aside0.mk (Kd.R_below (by (with_reducible repeat (first | apply Kd.R_alloc | apply Kd.R_drewN | apply Kd.R_drew)); exact (Kd.R_mono (Kd.R_far (p := ⟨gb159, 6, none⟩) (Kd.R_far (p := ⟨gb159, 5, none⟩) (Kd.R_far (p := ⟨gb159, 4, none⟩) (Kd.R_far (p := ⟨gb159, 3, none⟩) (Kd.R_far (p := ⟨gb159, 2, none⟩) (Kd.R_far (p := ⟨gb159, 1, none⟩) (Kd.R_far (p := ⟨gb159, 0, none⟩) (Kd.R_types HO157.out BK159.out (by decide)) (fun _ hk => hk.2) (.int .i64 t147)) (fun _ hk => hk.2) (.bool t148)) (fun _ hk => hk.2) (.int .i64 t149)) (fun _ hk => hk.2) (.int .i64 t150)) (fun _ hk => hk.2) (.int .i64 t151)) (fun _ hk => hk.2) (.slice Ao40 t152.length co40)) (fun _ hk => hk.2) (.slice Ao41 t155.length co41)) (fun _ h_ => h_.1))) hb); have n7_ := Aside0.mk (blk_below (g := gb125) (o := .cells #[.int .i64 1, .bool false, .int .i64 5, .int .i64 0, .int .i64 1, .slice Ao17 y122.length co17, .slice none 0 0] 24 (0, 0)) (by (with_reducible repeat (first | refine blk_drewN ?_ _ | refine blk_drew ?_ | refine blk_alloc ?_ _)); refine blk_far ?_ NB125_159.out _; (with_reducible repeat (first | refine blk_drewN ?_ _ | refine blk_drew ?_ | refine blk_alloc ?_ _)); refine blk_far ?_ NB125_159.out _; (with_reducible repeat (first | refine blk_drewN ?_ _ | refine blk_drew ?_ | refine blk_alloc ?_ _)); refine blk_far ?_ NB125_159.out _; (with_reducible repeat (first | refine blk_drewN ?_ _ | refine blk_drew ?_ | refine blk_alloc ?_ _)); refine blk_far ?_ NB125_159.out _; (with_reducible repeat (first | refine blk_drewN ?_ _ | refine blk_drew ?_ | refine blk_alloc ?_ _)); refine blk_far ?_ NB125_159.out _; (with_reducible repeat (first | refine blk_drewN ?_ _ | refine blk_drew ?_ | refine blk_alloc ?_ _)); refine blk_far ?_ NB125_159.out _; (with_reducible repeat (first | refine blk_drewN ?_ _ | refine blk_drew ?_ | refine blk_alloc ?_ _)); refine blk_far ?_ NB125_159.out _; (with_reducible repeat (first | refine blk_drewN ?_ _ | refine blk_drew ?_ | refine blk_alloc ?_ _)); exact BK125.out) hb); have n8_ := Aside0.mk (blk_below (g := gb143) (o := .cells #[.int .i64 t131, .bool t132, .int .i64 t133, .int .i64 t134, .int .i64 t135, .slice Ao29 t136.length co29, .slice Ao30 t139.length co30] 24 (0, 0)) (by (with_reducible repeat (first | refine blk_drewN ?_ _ | refine blk_drew ?_ | refine blk_alloc ?_ _)); refine blk_far ?_ NB143_159.out _; (with_reducible repeat (first | refine blk_drewN ?_ _ | refine blk_drew ?_ | refine blk_alloc ?_ _)); refine blk_far ?_ NB143_159.out _; (with_reducible repeat (first | refine blk_drewN ?_ _ | refine blk_drew ?_ | refine blk_alloc ?_ _)); refine blk_far ?_ NB143_159.out _; (with_reducible repeat (first | refine blk_drewN ?_ _ | refine blk_drew ?_ | refine blk_alloc ?_ _)); refine blk_far ?_ NB143_159.out _; (with_reducible repeat (first | refine blk_drewN ?_ _ | refine blk_drew ?_ | refine blk_alloc ?_ _)); refine blk_far ?_ NB143_159.out _; (with_reducible repeat (first | refine blk_drewN ?_ _ | refine blk_drew ?_ | refine blk_alloc ?_ _)); refine blk_far ?_ NB143_159.out _; (with_reducible repeat (first | refine blk_drewN ?_ _ | refine blk_drew ?_ | refine blk_alloc ?_ _)); refine blk_far ?_ NB143_159.out _; (with_reducible repeat (first | refine blk_drewN ?_ _ | refine blk_drew ?_ | refine blk_alloc ?_ _)); exact BK143.out) hb); have n9_ := Aside0.mk (blk_below (g := gb159) (o := .cells #[.int .i64 t147, .bool t148, .int .i64 t149, .int .i64 t150, .int .i64 t151, .slice Ao40 t152.length co40, .slice Ao41 t155.length co41] 24 (0, 0)) (by (with_reducible repeat (first | refine blk_drewN ?_ _ | refine blk_drew ?_ | refine blk_alloc ?_ _)); refine blk_put (cs := #[.int .i64 t147, .bool t148, .int .i64 t149, .int .i64 t150, .int .i64 t151, .slice Ao40 t152.length co40, .slice none 0 0]) ?_ 6 _ rfl; (with_reducible repeat (first | refine blk_drewN ?_ _ | refine blk_drew ?_ | refine blk_alloc ?_ _)); refine blk_put (cs := #[.int .i64 t147, .bool t148, .int .i64 t149, .int .i64 t150, .int .i64 t151, .slice none 0 0, .slice none 0 0]) ?_ 5 _ rfl; (with_reducible repeat (first | refine blk_drewN ?_ _ | refine blk_drew ?_ | refine blk_alloc ?_ _)); refine blk_put (cs := #[.int .i64 t147, .bool t148, .int .i64 t149, .int .i64 t150, .int .i64 0, .slice none 0 0, .slice none 0 0]) ?_ 4 _ rfl; (with_reducible repeat (first | refine blk_drewN ?_ _ | refine blk_drew ?_ | refine blk_alloc ?_ _)); refine blk_put (cs := #[.int .i64 t147, .bool t148, .int .i64 t149, .int .i64 0, .int .i64 0, .slice none 0 0, .slice none 0 0]) ?_ 3 _ rfl; (with_reducible repeat (first | refine blk_drewN ?_ _ | refine blk_drew ?_ | refine blk_alloc ?_ _)); refine blk_put (cs := #[.int .i64 t147, .bool t148, .int .i64 0, .int .i64 0, .int .i64 0, .slice none 0 0, .slice none 0 0]) ?_ 2 _ rfl; (with_reducible repeat (first | refine blk_drewN ?_ _ | refine blk_drew ?_ | refine blk_alloc ?_ _)); refine blk_put (cs := #[.int .i64 t147, .bool false, .int .i64 0, .int .i64 0, .int .i64 0, .slice none 0 0, .slice none 0 0]) ?_ 1 _ rfl; (with_reducible repeat (first | refine blk_drewN ?_ _ | refine blk_drew ?_ | refine blk_alloc ?_ _)); refine blk_put (cs := #[.int .i64 0, .bool false, .int .i64 0, .int .i64 0, .int .i64 0, .slice none 0 0, .slice none 0 0]) ?_ 0 _ rfl; (with_reducible repeat (first | refine blk_drewN ?_ _ | refine blk_drew ?_ | refine blk_alloc ?_ _)); exact BK159.out) hb); have n10_ := Aside0.mk (below_step (by repeat (first | (with_reducible first | exact HB.out | apply below_alloc | apply pw_below_drewN | apply below_drew1 | refine below_set ?_ GE125.out | refine below_set ?_ GE143.out | refine below_set ?_ GE159.out) | exact HB.out)) hb); clear HO124; clear HO130; clear HO138; clear HO141; clear HO146; clear HO154; clear HO157; clear BK125; clear BK143; clear BK159; clear HB; have HO124 := n0_; have HO130 := n1_; have HO138 := n2_; have HO141 := n3_; have HO146 := n4_; have HO154 := n5_; have HO157 := n6_; have BK125 := n7_; have BK143 := n8_; have BK159 := n9_; have HB := n10_; clear n0_ n1_ n2_ n3_ n4_ n5_ n6_ n7_ n8_ n9_ n10_; (try clear hb); (try clear hb2); (try clear hk); (try clear hi)))
                  go_ret
                  exact ⟨by first | rfl | (simp [errW_none, errW_some] <;> rfl) | (simp [*, errW_none, errW_some] <;> rfl), by repeat (first | (with_reducible first | exact HB.out | apply below_alloc | apply pw_below_drewN | apply below_drew1 | refine below_set ?_ GE125.out | refine below_set ?_ GE143.out | refine below_set ?_ GE159.out) | exact HB.out)⟩
                · rw [if_neg c13] at H
                  have c13b0 : ((bt t126 1) == 80) = false := beq_eq_false_iff_ne.mpr c13
                  have c13b1 : ((bt t126 1) != 80) = true := bne_iff_ne.mpr c13
                  obtain rfl := Option.some.inj H
                  exact absurd hz.out (by decide)
              · rw [if_neg c11] at H
                exact absurd H (by simp)
            · rw [if_neg c10] at H
              have c10b0 : ((bt t126 0) == 32) = false := beq_eq_false_iff_ne.mpr c10
              have c10b1 : ((bt t126 0) != 32) = true := bne_iff_ne.mpr c10
              obtain rfl := Option.some.inj H
              exact absurd hz.out (by decide)
          · rw [if_neg c8] at H
            exact absurd H (by simp)
        · rw [if_neg c7] at H
          have c7b0 : ((t126.size : Int) == 8) = false := beq_eq_false_iff_ne.mpr c7
          have c7b1 : ((t126.size : Int) != 8) = true := bne_iff_ne.mpr c7
          obtain rfl := Option.some.inj H
          exact absurd hz.out (by decide)
      · rw [if_neg c6] at H
        have c6b0 : (t158 == 12) = false := beq_eq_false_iff_ne.mpr c6
        have c6b1 : (t158 != 12) = true := bne_iff_ne.mpr c6
        obtain rfl := Option.some.inj H
        exact absurd hz.out (by decide)
    · rw [if_neg c5] at H
      have c5b0 : (t142 == 0) = false := beq_eq_false_iff_ne.mpr c5
      have c5b1 : (t142 != 0) = true := bne_iff_ne.mpr c5
      obtain rfl := Option.some.inj H
      exact absurd hz.out (by decide)
  · rw [if_neg c4] at H
    have c4b0 : (t127 == 0) = false := beq_eq_false_iff_ne.mpr c4
    have c4b1 : (t127 != 0) = true := bne_iff_ne.mpr c4
    obtain rfl := Option.some.inj H
    exact absurd hz.out (by decide)
set_option maxRecDepth 100000 in
theorem hopmeshlaw25_awake.is : hopmeshlaw25_awake.f 40 = some true := by kernel_rfl
theorem hopmeshlaw25_awake.mono2 : ∀ (j k : Nat), LeO (hopmeshlaw25_awake.f k) (hopmeshlaw25_awake.f (k + j))
  | 0, _ => LeO.refl _
  | j + 1, k => fun r h => hopmeshlaw25_awake.mono (k + j) r (hopmeshlaw25_awake.mono2 j k r h)
theorem hopmeshlaw25_awake.only (k : Nat) (r : Bool) (h : hopmeshlaw25_awake.f k = some r) : r = true := by
  have h1 := hopmeshlaw25_awake.mono2 40 k r h
  have h2 := hopmeshlaw25_awake.mono2 k 40 true hopmeshlaw25_awake.is
  rw [Nat.add_comm] at h2
  exact Option.some.inj (h1.symm.trans h2)
theorem hopmeshlaw25_awake.calls (k : Nat)  (r : Bool) (w : World) (h : hopmeshlaw25_awake.f k  = some r) :
    Calls Try.prog 11 #[] w fun e w' => e = .returned (.bool r) ∧ Below w.heap.size w w' := by
  exact hopmeshlaw25_awake.way k r w (Aside0.mk (hopmeshlaw25_awake.only k r h)) h
def hopmeshref25_Few.f (a0_0 : Int) (a0_1 : Bool) (a0_2 : Int) (a0_3 : Int) (a0_4 : Int) (l0_5 : List (S37)) (l0_6 : List (S37)) : Option (Bool) := if (l0_5.length : Int) ≤ 12 then (some (decide ((l0_6.length : Int) ≤ 12))) else (some false)
set_option maxHeartbeats 8000000 in
set_option maxRecDepth 100000 in
theorem hopmeshref25_Few.calls (a0_0 : Int) (a0_1 : Bool) (a0_2 : Int) (a0_3 : Int) (a0_4 : Int) (A0_5 : Option Addr) (c0_5 : Nat) (l0_5 : List (S37)) (A0_6 : Option Addr) (c0_6 : Nat) (l0_6 : List (S37)) (r : Bool) (w : World) (hr0_5 : Kd.C k37 w A0_5 l0_5.length l0_5) (hc0_5 : l0_5.length ≤ c0_5) (hr0_6 : Kd.C k37 w A0_6 l0_6.length l0_6) (hc0_6 : l0_6.length ≤ c0_6) (h : hopmeshref25_Few.f a0_0 a0_1 a0_2 a0_3 a0_4 l0_5 l0_6 = some r) :
    Calls Try.prog 12 #[.agg #[.int .i64 a0_0, .bool a0_1, .int .i64 a0_2, .int .i64 a0_3, .int .i64 a0_4, .slice A0_5 l0_5.length c0_5, .slice A0_6 l0_6.length c0_6]] w fun e w' => e = .returned (.bool r) ∧ Below w.heap.size w w' := by
  have hu24 := Try.underlying24
  have HR0_5 := Aside0.mk hr0_5
  have HC0_5 := Aside0.mk hc0_5
  clear hr0_5 hc0_5
  have HR0_6 := Aside0.mk hr0_6
  have HC0_6 := Aside0.mk hc0_6
  clear hr0_6 hc0_6
  have HB := Aside0.mk (Below.refl w.heap.size w)
  have H : (if (l0_5.length : Int) ≤ 12 then (some (decide ((l0_6.length : Int) ≤ 12))) else (some false)) = some r := h
  clear h
  by_cases c2 : (l0_5.length : Int) ≤ 12
  · rw [if_pos c2] at H
    have c2b0 : decide ((l0_5.length : Int) ≤ 12) = true := decide_eq_true c2
    have c2b1 : decide (l0_5.length ≤ 12) = true := decide_eq_true (by omega)
    clear c2
    obtain rfl := Option.some.inj H
    go_enter Try.func12, Try.ntmps12
    go_wp2_with (first | ((with_reducible refine gate_dst (N := 1) rfl ?_); (try (refine gate_guard (by rfl) ?_; dsimp only)); refine box_event ?hg (N := 1) ?hd (cs := #[.int .i64 a0_0, .bool a0_1, .int .i64 a0_2, .int .i64 a0_3, .int .i64 a0_4, .slice A0_5 l0_5.length c0_5, .slice A0_6 l0_6.length c0_6]) (t := 24) ?hr ?_; (case hd => rfl); (case hg => rfl); (case hr => first | (go_simp; done) | (go_simp; rfl)); intro gb161 hg w3 hbox hb; have n0_ := Aside0.mk (below_step (by repeat (first | (with_reducible first | exact HB.out | apply below_alloc | apply pw_below_drewN | apply below_drew1) | exact HB.out)) hb); have n1_ := Aside0.mk (hbox); have n2_ := Aside0.mk ((by rw [hg]; exact (below_size (by repeat (first | (with_reducible first | exact HB.out | apply below_alloc | apply pw_below_drewN | apply below_drew1) | exact HB.out))) : w.heap.size ≤ gb161)); have n3_ := Aside0.mk ((by rw [hg]; exact (below_size (by repeat (first | (with_reducible first | exact HB.out | apply below_alloc | apply pw_below_drewN | apply below_drew1) | exact HB.out))) : w.heap.size ≤ gb161)); clear HB; have HB := n0_; have BK161 := n1_; have GW161 := n2_; have GE161 := n3_; clear n0_ n1_ n2_ n3_; clear hb hbox hg; have hcz4_0 : w3.cell? ⟨gb161, 0, none⟩ = some (.int .i64 a0_0) := (blk_cell BK161.out 0).trans rfl; have hcz4_1 : w3.cell? ⟨gb161, 1, none⟩ = some (.bool a0_1) := (blk_cell BK161.out 1).trans rfl; have hcz4_2 : w3.cell? ⟨gb161, 2, none⟩ = some (.int .i64 a0_2) := (blk_cell BK161.out 2).trans rfl; have hcz4_3 : w3.cell? ⟨gb161, 3, none⟩ = some (.int .i64 a0_3) := (blk_cell BK161.out 3).trans rfl; have hcz4_4 : w3.cell? ⟨gb161, 4, none⟩ = some (.int .i64 a0_4) := (blk_cell BK161.out 4).trans rfl; have hcz4_5 : w3.cell? ⟨gb161, 5, none⟩ = some (.slice A0_5 l0_5.length c0_5) := (blk_cell BK161.out 5).trans rfl; have hcz4_6 : w3.cell? ⟨gb161, 6, none⟩ = some (.slice A0_6 l0_6.length c0_6) := (blk_cell BK161.out 6).trans rfl; have hfz4_0 := blk_frozen BK161.out 0; have hfz4_1 := blk_frozen BK161.out 1; have hfz4_2 := blk_frozen BK161.out 2; have hfz4_3 := blk_frozen BK161.out 3; have hfz4_4 := blk_frozen BK161.out 4; have hfz4_5 := blk_frozen BK161.out 5; have hfz4_6 := blk_frozen BK161.out 6))
    go_ret
    exact ⟨by first | rfl | (simp [errW_none, errW_some] <;> rfl) | (simp [*, errW_none, errW_some] <;> rfl), by repeat (first | (with_reducible first | exact HB.out | apply below_alloc | apply pw_below_drewN | apply below_drew1 | refine below_set ?_ GE161.out) | exact HB.out)⟩
  · rw [if_neg c2] at H
    have c2b0 : decide ((l0_5.length : Int) ≤ 12) = false := decide_eq_false c2
    have c2b1 : decide (l0_5.length ≤ 12) = false := decide_eq_false (by omega)
    clear c2
    obtain rfl := Option.some.inj H
    go_enter Try.func12, Try.ntmps12
    go_wp2_with (first | ((with_reducible refine gate_dst (N := 1) rfl ?_); (try (refine gate_guard (by rfl) ?_; dsimp only)); refine box_event ?hg (N := 1) ?hd (cs := #[.int .i64 a0_0, .bool a0_1, .int .i64 a0_2, .int .i64 a0_3, .int .i64 a0_4, .slice A0_5 l0_5.length c0_5, .slice A0_6 l0_6.length c0_6]) (t := 24) ?hr ?_; (case hd => rfl); (case hg => rfl); (case hr => first | (go_simp; done) | (go_simp; rfl)); intro gb161 hg w5 hbox hb; have n0_ := Aside0.mk (below_step (by repeat (first | (with_reducible first | exact HB.out | apply below_alloc | apply pw_below_drewN | apply below_drew1) | exact HB.out)) hb); have n1_ := Aside0.mk (hbox); have n2_ := Aside0.mk ((by rw [hg]; exact (below_size (by repeat (first | (with_reducible first | exact HB.out | apply below_alloc | apply pw_below_drewN | apply below_drew1) | exact HB.out))) : w.heap.size ≤ gb161)); have n3_ := Aside0.mk ((by rw [hg]; exact (below_size (by repeat (first | (with_reducible first | exact HB.out | apply below_alloc | apply pw_below_drewN | apply below_drew1) | exact HB.out))) : w.heap.size ≤ gb161)); clear HB; have HB := n0_; have BK161 := n1_; have GW161 := n2_; have GE161 := n3_; clear n0_ n1_ n2_ n3_; clear hb hbox hg; have hcz6_0 : w5.cell? ⟨gb161, 0, none⟩ = some (.int .i64 a0_0) := (blk_cell BK161.out 0).trans rfl; have hcz6_1 : w5.cell? ⟨gb161, 1, none⟩ = some (.bool a0_1) := (blk_cell BK161.out 1).trans rfl; have hcz6_2 : w5.cell? ⟨gb161, 2, none⟩ = some (.int .i64 a0_2) := (blk_cell BK161.out 2).trans rfl; have hcz6_3 : w5.cell? ⟨gb161, 3, none⟩ = some (.int .i64 a0_3) := (blk_cell BK161.out 3).trans rfl; have hcz6_4 : w5.cell? ⟨gb161, 4, none⟩ = some (.int .i64 a0_4) := (blk_cell BK161.out 4).trans rfl; have hcz6_5 : w5.cell? ⟨gb161, 5, none⟩ = some (.slice A0_5 l0_5.length c0_5) := (blk_cell BK161.out 5).trans rfl; have hcz6_6 : w5.cell? ⟨gb161, 6, none⟩ = some (.slice A0_6 l0_6.length c0_6) := (blk_cell BK161.out 6).trans rfl; have hfz6_0 := blk_frozen BK161.out 0; have hfz6_1 := blk_frozen BK161.out 1; have hfz6_2 := blk_frozen BK161.out 2; have hfz6_3 := blk_frozen BK161.out 3; have hfz6_4 := blk_frozen BK161.out 4; have hfz6_5 := blk_frozen BK161.out 5; have hfz6_6 := blk_frozen BK161.out 6))
    go_ret
    exact ⟨by first | rfl | (simp [errW_none, errW_some] <;> rfl) | (simp [*, errW_none, errW_some] <;> rfl), by repeat (first | (with_reducible first | exact HB.out | apply below_alloc | apply pw_below_drewN | apply below_drew1 | refine below_set ?_ GE161.out) | exact HB.out)⟩
def hopmeshref25_Check.f (a0_0 : Int) (a0_1 : Bool) (a0_2 : Int) (a0_3 : Int) (a0_4 : Int) (l0_5 l0_6 : List S37) : Option Int := some (Go.Proofs.Ytjjcgjpmhhkeaaa.CmP.chkF a0_0 a0_1 a0_2 a0_3 a0_4 (l0_5.map fun x : S37 => (x.f0, x.f1)) (l0_6.map fun x : S37 => (x.f0, x.f1)))
theorem hopmeshref25_Check.calls (a0_0 : Int) (a0_1 : Bool) (a0_2 : Int) (a0_3 : Int) (a0_4 : Int) (A0_5 : Option Addr) (c0_5 : Nat) (l0_5 : List (S37)) (A0_6 : Option Addr) (c0_6 : Nat) (l0_6 : List (S37)) (r : Int) (w : World) (hr0_5 : Kd.C k37 w A0_5 l0_5.length l0_5) (hc0_5 : l0_5.length ≤ c0_5) (hr0_6 : Kd.C k37 w A0_6 l0_6.length l0_6) (hc0_6 : l0_6.length ≤ c0_6) (h : hopmeshref25_Check.f a0_0 a0_1 a0_2 a0_3 a0_4 l0_5 l0_6 = some r) :
    Calls Try.prog 14 #[.agg #[.int .i64 a0_0, .bool a0_1, .int .i64 a0_2, .int .i64 a0_3, .int .i64 a0_4, .slice A0_5 l0_5.length c0_5, .slice A0_6 l0_6.length c0_6]] w fun e w' => e = .returned (.int .i64 r) ∧ Below w.heap.size w w' := by
  obtain rfl := Option.some.inj h
  have := Go.Proofs.Ytjjcgjpmhhkeaaa.CmK.rcheck_any a0_0 a0_1 a0_2 a0_3 a0_4 A0_5 c0_5 A0_6 c0_6 (l0_5.map fun x : S37 => (x.f0, x.f1)) (l0_6.map fun x : S37 => (x.f0, x.f1)) w (by rw [Go.Proofs.Ytjjcgjpmhhkeaaa.CmS.Sp, List.length_map]; exact Go.Proofs.Ytjjcgjpmhhkeaaa.CmK.C_map hr0_5) (by simpa using hc0_5) (by rw [Go.Proofs.Ytjjcgjpmhhkeaaa.CmS.Sp, List.length_map]; exact Go.Proofs.Ytjjcgjpmhhkeaaa.CmK.C_map hr0_6) (by simpa using hc0_6)
  rw [List.length_map, List.length_map] at this
  exact this
def hopmeshlaw25_CellmsgChecks.f (k : Nat) (a0_0 : Int) (a0_1 : Bool) (a0_2 : Int) (a0_3 : Int) (a0_4 : Int) (l0_5 : List (S37)) (l0_6 : List (S37)) : Option (Bool) := (hopmeshlaw25_awake.f k).bind fun t163 => (if t163 = true then ((hopmeshref25_Few.f a0_0 a0_1 a0_2 a0_3 a0_4 l0_5 l0_6).bind fun t164 => (if t164 = true then ((cellmsg_Check.f a0_0 a0_1 a0_2 a0_3 a0_4 l0_5 l0_6).bind fun t165 => ((hopmeshref25_Check.f a0_0 a0_1 a0_2 a0_3 a0_4 l0_5 l0_6).bind fun t166 => (some (t165 == t166)))) else (some true))) else (some false))
theorem hopmeshlaw25_CellmsgChecks.mono : ∀ a0 a1 a2 a3 a4 a5 a6 k, LeO (hopmeshlaw25_CellmsgChecks.f k a0 a1 a2 a3 a4 a5 a6) (hopmeshlaw25_CellmsgChecks.f (k + 1) a0 a1 a2 a3 a4 a5 a6) := by
  intro a0 a1 a2 a3 a4 a5 a6 k
  unfold hopmeshlaw25_CellmsgChecks.f
  repeat' first
      | (with_reducible exact hopmeshlaw25_awake.mono _)
      | (with_reducible exact LeO.refl _)
      | (with_reducible exact LeO.none _)
      | (with_reducible refine LeO.ite ?_ ?_)
      | (with_reducible refine LeO.bind ?_ (fun _ => ?_))
      | exact hopmeshlaw25_awake.mono _
      | exact LeO.none _
      | refine LeO.ite ?_ ?_
      | refine LeO.bind ?_ (fun _ => ?_)
def hopmeshlaw25_CellmsgChecks.T3 : Bool × List (List Nat × List Nat) := (true, [([], []), ([0], [0]), ([1], [1]), ([2, 1], [2]), ([3], [3]), ([4, 3, 3], [3, 4]), ([3], [3]), ([6, 5, 3], [3, 6]), ([5, 7, 3], [3, 5, 7]), ([3, 8], [3, 8]), ([9, 7, 0, 1, 2, 3, 4, 5, 6, 7, 8, 9], [9])])
def hopmeshlaw25_CellmsgChecks.B3 : List Nat := [0, 1, 3, 7, 15, 31, 15, 127, 255, 511, 1023]
theorem hopmeshlaw25_CellmsgChecks.tab3 : rtab .any (opsOf Try.f3 3) = hopmeshlaw25_CellmsgChecks.T3 := by kernel_rfl
theorem hopmeshlaw25_CellmsgChecks.bits3 : waitsOk hopmeshlaw25_CellmsgChecks.T3.2 hopmeshlaw25_CellmsgChecks.B3 = true := by kernel_rfl
set_option maxHeartbeats 8000000 in
set_option maxRecDepth 100000 in
theorem hopmeshlaw25_CellmsgChecks.calls (k : Nat) (a0_0 : Int) (a0_1 : Bool) (a0_2 : Int) (a0_3 : Int) (a0_4 : Int) (A0_5 : Option Addr) (c0_5 : Nat) (l0_5 : List (S37)) (A0_6 : Option Addr) (c0_6 : Nat) (l0_6 : List (S37)) (r : Bool) (w : World) (hr0_5 : Kd.C k37 w A0_5 l0_5.length l0_5) (hc0_5 : l0_5.length ≤ c0_5) (hr0_6 : Kd.C k37 w A0_6 l0_6.length l0_6) (hc0_6 : l0_6.length ≤ c0_6) (h : hopmeshlaw25_CellmsgChecks.f k a0_0 a0_1 a0_2 a0_3 a0_4 l0_5 l0_6 = some r) :
    Calls Try.prog 3 #[.agg #[.int .i64 a0_0, .bool a0_1, .int .i64 a0_2, .int .i64 a0_3, .int .i64 a0_4, .slice A0_5 l0_5.length c0_5, .slice A0_6 l0_6.length c0_6]] w fun e w' => e = .returned (.bool r) ∧ Below w.heap.size w w' := by
  have hu24 := Try.underlying24
  have HR0_5 := Aside0.mk hr0_5
  have HC0_5 := Aside0.mk hc0_5
  clear hr0_5 hc0_5
  have HR0_6 := Aside0.mk hr0_6
  have HC0_6 := Aside0.mk hc0_6
  clear hr0_6 hc0_6
  have HB := Aside0.mk (Below.refl w.heap.size w)
  have H : ((hopmeshlaw25_awake.f k).bind fun t163 => (if t163 = true then ((hopmeshref25_Few.f a0_0 a0_1 a0_2 a0_3 a0_4 l0_5 l0_6).bind fun t164 => (if t164 = true then ((cellmsg_Check.f a0_0 a0_1 a0_2 a0_3 a0_4 l0_5 l0_6).bind fun t165 => ((hopmeshref25_Check.f a0_0 a0_1 a0_2 a0_3 a0_4 l0_5 l0_6).bind fun t166 => (some (t165 == t166)))) else (some true))) else (some false))) = some r := h
  clear h
  replace H := Option.bind_eq_some_iff.mp H
  obtain ⟨t163, A20, H⟩ := H
  replace H : (if t163 = true then ((hopmeshref25_Few.f a0_0 a0_1 a0_2 a0_3 a0_4 l0_5 l0_6).bind fun t164 => (if t164 = true then ((cellmsg_Check.f a0_0 a0_1 a0_2 a0_3 a0_4 l0_5 l0_6).bind fun t165 => ((hopmeshref25_Check.f a0_0 a0_1 a0_2 a0_3 a0_4 l0_5 l0_6).bind fun t166 => (some (t165 == t166)))) else (some true))) else (some false)) = some r := H
  have A2 := Aside0.mk A20
  clear A20
  by_cases c3 : t163 = true
  · subst c3
    have H1 : ((hopmeshref25_Few.f a0_0 a0_1 a0_2 a0_3 a0_4 l0_5 l0_6).bind fun t164 => (if t164 = true then ((cellmsg_Check.f a0_0 a0_1 a0_2 a0_3 a0_4 l0_5 l0_6).bind fun t165 => ((hopmeshref25_Check.f a0_0 a0_1 a0_2 a0_3 a0_4 l0_5 l0_6).bind fun t166 => (some (t165 == t166)))) else (some true))) = some r := by rw [if_pos rfl] at H; exact H
    clear H
    have H := H1
    clear H1
    replace H := Option.bind_eq_some_iff.mp H
    obtain ⟨t164, A40, H⟩ := H
    replace H : (if t164 = true then ((cellmsg_Check.f a0_0 a0_1 a0_2 a0_3 a0_4 l0_5 l0_6).bind fun t165 => ((hopmeshref25_Check.f a0_0 a0_1 a0_2 a0_3 a0_4 l0_5 l0_6).bind fun t166 => (some (t165 == t166)))) else (some true)) = some r := H
    have A4 := Aside0.mk A40
    clear A40
    by_cases c5 : t164 = true
    · subst c5
      have H1 : ((cellmsg_Check.f a0_0 a0_1 a0_2 a0_3 a0_4 l0_5 l0_6).bind fun t165 => ((hopmeshref25_Check.f a0_0 a0_1 a0_2 a0_3 a0_4 l0_5 l0_6).bind fun t166 => (some (t165 == t166)))) = some r := by rw [if_pos rfl] at H; exact H
      clear H
      have H := H1
      clear H1
      replace H := Option.bind_eq_some_iff.mp H
      obtain ⟨t165, A60, H⟩ := H
      replace H : ((hopmeshref25_Check.f a0_0 a0_1 a0_2 a0_3 a0_4 l0_5 l0_6).bind fun t166 => (some (t165 == t166))) = some r := H
      have A6 := Aside0.mk A60
      clear A60
      replace H := Option.bind_eq_some_iff.mp H
      obtain ⟨t166, A70, H⟩ := H
      replace H : (some (t165 == t166)) = some r := H
      have A7 := Aside0.mk A70
      clear A70
      obtain rfl := Option.some.inj H
      go_enter Try.func3, Try.ntmps3
      try go_wp2_with (first | ((with_reducible refine gate_dst (N := 1) rfl ?_); refine box_event ?hg (N := 1) ?hd (cs := #[.int .i64 a0_0, .bool a0_1, .int .i64 a0_2, .int .i64 a0_3, .int .i64 a0_4, .slice A0_5 l0_5.length c0_5, .slice A0_6 l0_6.length c0_6]) (t := 24) ?hr ?_; (case hd => rfl); (case hg => rfl); (case hr => first | (go_simp; done) | (go_simp; rfl)); intro gb162 hg w8 hbox hb; have n0_ := Aside0.mk (below_step (by repeat (first | (with_reducible first | exact HB.out | apply below_alloc | apply pw_below_drewN | apply below_drew1) | exact HB.out)) hb); have n1_ := Aside0.mk (hbox); have n2_ := Aside0.mk ((by rw [hg]; exact (below_size (by repeat (first | (with_reducible first | exact HB.out | apply below_alloc | apply pw_below_drewN | apply below_drew1) | exact HB.out))) : w.heap.size ≤ gb162)); have n3_ := Aside0.mk ((by rw [hg]; exact (below_size (by repeat (first | (with_reducible first | exact HB.out | apply below_alloc | apply pw_below_drewN | apply below_drew1) | exact HB.out))) : w.heap.size ≤ gb162)); clear HB; have HB := n0_; have BK162 := n1_; have GW162 := n2_; have GE162 := n3_; clear n0_ n1_ n2_ n3_; clear hb hbox hg) | ((with_reducible refine gate_callee (f := 11) rfl ?_); refine goesL_ (some 3) rfl rfl Try.func11 (by kernel_rfl) rfl #[] rfl (by (try simp only [List.map_toArray, List.map_cons, List.map_nil]); first | done | rfl | (simp only [List.length_drop, List.length_take]; rfl)) ?_; (with_reducible refine (hopmeshlaw25_awake.calls k  true _ A2.out).mono ?_); rintro e w9 ⟨rfl, hb⟩; refine ⟨_, rfl, ?_⟩; have n0_ := Aside0.mk (blk_below (g := gb162) (o := .cells #[.int .i64 a0_0, .bool a0_1, .int .i64 a0_2, .int .i64 a0_3, .int .i64 a0_4, .slice A0_5 l0_5.length c0_5, .slice A0_6 l0_6.length c0_6] 24 (0, 0)) (by (with_reducible repeat (first | refine blk_drewN ?_ _ | refine blk_drew ?_ | refine blk_alloc ?_ _)); exact BK162.out) hb); have n1_ := Aside0.mk (below_step (by repeat (first | (with_reducible first | exact HB.out | apply below_alloc | apply pw_below_drewN | apply below_drew1 | refine below_set ?_ GE162.out) | exact HB.out)) hb); clear BK162; clear HB; have BK162 := n0_; have HB := n1_; clear n0_ n1_; (try clear hb); (try clear hb2); (try clear hk); (try clear hi)))
      have n0_ := Aside0.mk (blk_drew BK162.out)
      have n1_ := Aside0.mk (below_drew1 HB.out)
      clear BK162
      clear HB
      have BK162 := n0_
      have HB := n1_
      clear n0_ n1_
      refine start_ (n := 11) (S := fun w' => w'.cell? ⟨gb162, 0, none⟩ = some (.int .i64 a0_0) ∧ w'.cell? ⟨gb162, 1, none⟩ = some (.bool a0_1) ∧ w'.cell? ⟨gb162, 2, none⟩ = some (.int .i64 a0_2) ∧ w'.cell? ⟨gb162, 3, none⟩ = some (.int .i64 a0_3) ∧ w'.cell? ⟨gb162, 4, none⟩ = some (.int .i64 a0_4) ∧ w'.cell? ⟨gb162, 5, none⟩ = some (.slice A0_5 l0_5.length c0_5) ∧ w'.cell? ⟨gb162, 6, none⟩ = some (.slice A0_6 l0_6.length c0_6)) (ds := []) #[false, false, false, false, false, false, false, false, false, false, false] (by kernel_rfl) rfl rfl ⟨(blk_cell BK162.out 0).trans rfl, (blk_cell BK162.out 1).trans rfl, (blk_cell BK162.out 2).trans rfl, (blk_cell BK162.out 3).trans rfl, (blk_cell BK162.out 4).trans rfl, (blk_cell BK162.out 5).trans rfl, (blk_cell BK162.out 6).trans rfl⟩ (fun hHeld => ?_); refine with_tabW hopmeshlaw25_CellmsgChecks.tab3 hopmeshlaw25_CellmsgChecks.bits3 (fun HT_ HW_ => ?_)
      generalize w9.drew = w10 at BK162 HB hHeld ⊢
      refine take_ (i := 0) (N := some 5) (v := ?_) (a' := ?_) #[true, false, false, false, false, false, false, false, false, false, false] rfl rfl (take_ofW HT_.out HW_.out (by kernel_rfl)) (fun _ _ _ h => h) (Or.inl ⟨by rfl, ?_⟩) hHeld ?_ ?_
      rotate_left
      · rintro w' ⟨s0, s1, s2, s3, s4, s5, s6⟩
        go_simp
        with_reducible rfl
      rotate_left
      · simp only [Act.put, List.setIfInBounds_toArray, List.set_cons_zero, List.set_cons_succ, i64_w, i32_w]
        rfl
      refine one_ (i := 1) (N := some 6) #[true, true, false, false, false, false, false, false, false, false, false] rfl rfl (one_of HT_.out (by kernel_rfl)) (by decide) (fun K hK => ?_)
      refine goes_ Try.func12 (by kernel_rfl) rfl #[.agg #[.int .i64 a0_0, .bool a0_1, .int .i64 a0_2, .int .i64 a0_3, .int .i64 a0_4, .slice A0_5 l0_5.length c0_5, .slice A0_6 l0_6.length c0_6]] (by rfl) rfl rfl (by (try simp only [List.map_toArray, List.map_cons, List.map_nil]); first | done | rfl | (simp only [List.length_drop, List.length_take]; rfl)) ?_
      with_reducible refine (hopmeshref25_Few.calls a0_0 a0_1 a0_2 a0_3 a0_4 _ _ l0_5 _ _ l0_6 true _ ?side1 ?side2 ?side3 ?side4 A4.out).mono ?_
      (case side1 => repeat (first | exact (Kd.C_below HR0_5.out HB.out) | (with_reducible refine Kd.C_alloc ?_ _) | (with_reducible refine Kd.C_drewN ?_ _) | (with_reducible refine Kd.C_drew ?_)))
      (case side2 => exact HC0_5.out)
      (case side3 => repeat (first | exact (Kd.C_below HR0_6.out HB.out) | (with_reducible refine Kd.C_alloc ?_ _) | (with_reducible refine Kd.C_drewN ?_ _) | (with_reducible refine Kd.C_drew ?_)))
      (case side4 => exact HC0_6.out)
      rintro e w11 ⟨rfl, hb⟩
      refine ⟨_, rfl, ?_⟩
      have n0_ := Aside0.mk (blk_below (g := gb162) (o := .cells #[.int .i64 a0_0, .bool a0_1, .int .i64 a0_2, .int .i64 a0_3, .int .i64 a0_4, .slice A0_5 l0_5.length c0_5, .slice A0_6 l0_6.length c0_6] 24 (0, 0)) (by (with_reducible repeat (first | refine blk_drewN ?_ _ | refine blk_drew ?_ | refine blk_alloc ?_ _)); exact BK162.out) hb)
      have n1_ := Aside0.mk (below_step (by repeat (first | (with_reducible first | exact HB.out | apply below_alloc | apply pw_below_drewN | apply below_drew1 | refine below_set ?_ GE162.out) | exact HB.out)) hb)
      clear BK162
      clear HB
      have BK162 := n0_
      have HB := n1_
      clear n0_ n1_
      (try clear hb)
      (try clear hb2)
      (try clear hk)
      (try clear hi)
      refine hK.out _ _ ⟨(blk_cell BK162.out 0).trans rfl, (blk_cell BK162.out 1).trans rfl, (blk_cell BK162.out 2).trans rfl, (blk_cell BK162.out 3).trans rfl, (blk_cell BK162.out 4).trans rfl, (blk_cell BK162.out 5).trans rfl, (blk_cell BK162.out 6).trans rfl⟩ (fun hHeld => ?_)
      clear hK K
      refine norm_ (a' := ?_) ?_ ?_
      rotate_left
      · show Act.put _ (some 6) _ = _
        simp only [Act.put, List.setIfInBounds_toArray, List.set_cons_zero, List.set_cons_succ, i64_w, i32_w]
        rfl
      refine pure_ (i := 2) (N := some 7) (v := ?_) (a' := ?_) #[true, true, true, false, false, false, false, false, false, false, false] rfl rfl (any_of HT_.out (by kernel_rfl)) (fun _ _ _ h => h) (Or.inl ⟨by rfl, ?_⟩) ?_ ?_
      rotate_left
      · intro w'
        go_simp
        with_reducible rfl
      rotate_left
      · simp only [Act.put, List.setIfInBounds_toArray, List.set_cons_zero, List.set_cons_succ, i64_w, i32_w]
        rfl
      refine pure_ (i := 3) (N := some 8) (v := ?_) (a' := ?_) #[true, true, true, true, false, false, false, false, false, false, false] rfl rfl (any_of HT_.out (by kernel_rfl)) (fun _ _ _ h => h) (Or.inl ⟨by rfl, ?_⟩) ?_ ?_
      rotate_left
      · intro w'
        go_simp
        with_reducible rfl
      rotate_left
      · simp only [Act.put, List.setIfInBounds_toArray, List.set_cons_zero, List.set_cons_succ, i64_w, i32_w]
        rfl
      refine take_ (i := 4) (N := some 9) (v := ?_) (a' := ?_) #[true, true, true, true, true, false, false, false, false, false, false] rfl rfl (take_ofW HT_.out HW_.out (by kernel_rfl)) (fun _ _ _ h => h) (Or.inl ⟨by rfl, ?_⟩) hHeld ?_ ?_
      rotate_left
      · rintro w' ⟨s0, s1, s2, s3, s4, s5, s6⟩
        go_simp
        with_reducible rfl
      rotate_left
      · simp only [Act.put, List.setIfInBounds_toArray, List.set_cons_zero, List.set_cons_succ, i64_w, i32_w]
        rfl
      refine take_ (i := 6) (N := some 11) (v := ?_) (a' := ?_) #[true, true, true, true, true, false, true, false, false, false, false] rfl rfl (take_ofW HT_.out HW_.out (by kernel_rfl)) (fun _ _ _ h => h) (Or.inl ⟨by rfl, ?_⟩) hHeld ?_ ?_
      rotate_left
      · rintro w' ⟨s0, s1, s2, s3, s4, s5, s6⟩
        go_simp
        with_reducible rfl
      rotate_left
      · simp only [Act.put, List.setIfInBounds_toArray, List.set_cons_zero, List.set_cons_succ, i64_w, i32_w]
        rfl
      refine one_ (i := 5) (N := some 10) #[true, true, true, true, true, true, true, false, false, false, false] rfl rfl (one_of HT_.out (by kernel_rfl)) (by decide) (fun K hK => ?_)
      refine goes_ Try.func13 (by kernel_rfl) rfl #[.agg #[.int .i64 a0_0, .bool a0_1, .int .i64 a0_2, .int .i64 a0_3, .int .i64 a0_4, .slice A0_5 l0_5.length c0_5, .slice A0_6 l0_6.length c0_6]] (by rfl) rfl rfl (by (try simp only [List.map_toArray, List.map_cons, List.map_nil]); first | done | rfl | (simp only [List.length_drop, List.length_take]; rfl)) ?_
      with_reducible refine (cellmsg_Check.calls a0_0 a0_1 a0_2 a0_3 a0_4 _ _ l0_5 _ _ l0_6 t165 _ ?side1 ?side2 ?side3 ?side4 A6.out).mono ?_
      (case side1 => repeat (first | exact (Kd.C_below HR0_5.out HB.out) | (with_reducible refine Kd.C_alloc ?_ _) | (with_reducible refine Kd.C_drewN ?_ _) | (with_reducible refine Kd.C_drew ?_)))
      (case side2 => exact HC0_5.out)
      (case side3 => repeat (first | exact (Kd.C_below HR0_6.out HB.out) | (with_reducible refine Kd.C_alloc ?_ _) | (with_reducible refine Kd.C_drewN ?_ _) | (with_reducible refine Kd.C_drew ?_)))
      (case side4 => exact HC0_6.out)
      rintro e w12 ⟨rfl, hb⟩
      refine ⟨_, rfl, ?_⟩
      have n0_ := Aside0.mk (blk_below (g := gb162) (o := .cells #[.int .i64 a0_0, .bool a0_1, .int .i64 a0_2, .int .i64 a0_3, .int .i64 a0_4, .slice A0_5 l0_5.length c0_5, .slice A0_6 l0_6.length c0_6] 24 (0, 0)) (by (with_reducible repeat (first | refine blk_drewN ?_ _ | refine blk_drew ?_ | refine blk_alloc ?_ _)); exact BK162.out) hb)
      have n1_ := Aside0.mk (below_step (by repeat (first | (with_reducible first | exact HB.out | apply below_alloc | apply pw_below_drewN | apply below_drew1 | refine below_set ?_ GE162.out) | exact HB.out)) hb)
      clear BK162
      clear HB
      have BK162 := n0_
      have HB := n1_
      clear n0_ n1_
      (try clear hb)
      (try clear hb2)
      (try clear hk)
      (try clear hi)
      refine hK.out _ _ ⟨(blk_cell BK162.out 0).trans rfl, (blk_cell BK162.out 1).trans rfl, (blk_cell BK162.out 2).trans rfl, (blk_cell BK162.out 3).trans rfl, (blk_cell BK162.out 4).trans rfl, (blk_cell BK162.out 5).trans rfl, (blk_cell BK162.out 6).trans rfl⟩ (fun hHeld => ?_)
      clear hK K
      refine norm_ (a' := ?_) ?_ ?_
      rotate_left
      · show Act.put _ (some 10) _ = _
        simp only [Act.put, List.setIfInBounds_toArray, List.set_cons_zero, List.set_cons_succ, i64_w, i32_w]
        rfl
      refine one_ (i := 7) (N := some 12) #[true, true, true, true, true, true, true, true, false, false, false] rfl rfl (one_of HT_.out (by kernel_rfl)) (by decide) (fun K hK => ?_)
      refine goes_ Try.func14 (by kernel_rfl) rfl #[.agg #[.int .i64 a0_0, .bool a0_1, .int .i64 a0_2, .int .i64 a0_3, .int .i64 a0_4, .slice A0_5 l0_5.length c0_5, .slice A0_6 l0_6.length c0_6]] (by rfl) rfl rfl (by (try simp only [List.map_toArray, List.map_cons, List.map_nil]); first | done | rfl | (simp only [List.length_drop, List.length_take]; rfl)) ?_
      with_reducible refine (hopmeshref25_Check.calls a0_0 a0_1 a0_2 a0_3 a0_4 _ _ l0_5 _ _ l0_6 t166 _ ?side1 ?side2 ?side3 ?side4 A7.out).mono ?_
      (case side1 => repeat (first | exact (Kd.C_below HR0_5.out HB.out) | (with_reducible refine Kd.C_alloc ?_ _) | (with_reducible refine Kd.C_drewN ?_ _) | (with_reducible refine Kd.C_drew ?_)))
      (case side2 => exact HC0_5.out)
      (case side3 => repeat (first | exact (Kd.C_below HR0_6.out HB.out) | (with_reducible refine Kd.C_alloc ?_ _) | (with_reducible refine Kd.C_drewN ?_ _) | (with_reducible refine Kd.C_drew ?_)))
      (case side4 => exact HC0_6.out)
      rintro e w13 ⟨rfl, hb⟩
      refine ⟨_, rfl, ?_⟩
      have n0_ := Aside0.mk (blk_below (g := gb162) (o := .cells #[.int .i64 a0_0, .bool a0_1, .int .i64 a0_2, .int .i64 a0_3, .int .i64 a0_4, .slice A0_5 l0_5.length c0_5, .slice A0_6 l0_6.length c0_6] 24 (0, 0)) (by (with_reducible repeat (first | refine blk_drewN ?_ _ | refine blk_drew ?_ | refine blk_alloc ?_ _)); exact BK162.out) hb)
      have n1_ := Aside0.mk (below_step (by repeat (first | (with_reducible first | exact HB.out | apply below_alloc | apply pw_below_drewN | apply below_drew1 | refine below_set ?_ GE162.out) | exact HB.out)) hb)
      clear BK162
      clear HB
      have BK162 := n0_
      have HB := n1_
      clear n0_ n1_
      (try clear hb)
      (try clear hb2)
      (try clear hk)
      (try clear hi)
      refine hK.out _ _ ⟨(blk_cell BK162.out 0).trans rfl, (blk_cell BK162.out 1).trans rfl, (blk_cell BK162.out 2).trans rfl, (blk_cell BK162.out 3).trans rfl, (blk_cell BK162.out 4).trans rfl, (blk_cell BK162.out 5).trans rfl, (blk_cell BK162.out 6).trans rfl⟩ (fun hHeld => ?_)
      clear hK K
      refine norm_ (a' := ?_) ?_ ?_
      rotate_left
      · show Act.put _ (some 12) _ = _
        simp only [Act.put, List.setIfInBounds_toArray, List.set_cons_zero, List.set_cons_succ, i64_w, i32_w]
        rfl
      refine pure_ (i := 8) (N := some 13) (v := ?_) (a' := ?_) #[true, true, true, true, true, true, true, true, true, false, false] rfl rfl (any_of HT_.out (by kernel_rfl)) (fun _ _ _ h => h) (Or.inl ⟨by rfl, ?_⟩) ?_ ?_
      rotate_left
      · intro w'
        go_simp
        with_reducible rfl
      rotate_left
      · simp only [Act.put, List.setIfInBounds_toArray, List.set_cons_zero, List.set_cons_succ, i64_w, i32_w]
        rfl
      refine pure_ (i := 9) (N := some 14) (v := ?_) (a' := ?_) #[true, true, true, true, true, true, true, true, true, true, false] rfl rfl (any_of HT_.out (by kernel_rfl)) (fun _ _ _ h => h) (Or.inl ⟨by rfl, ?_⟩) ?_ ?_
      rotate_left
      · intro w'
        go_simp
        with_reducible rfl
      rotate_left
      · simp only [Act.put, List.setIfInBounds_toArray, List.set_cons_zero, List.set_cons_succ, i64_w, i32_w]
        rfl
      refine pure_ (i := 10) (N := some 2) (v := ?_) (a' := ?_) #[true, true, true, true, true, true, true, true, true, true, true] rfl rfl (any_of HT_.out (by kernel_rfl)) (fun _ _ _ h => h) (Or.inl ⟨by rfl, ?_⟩) ?_ ?_
      rotate_left
      · intro w'
        go_simp
        with_reducible rfl
      rotate_left
      · simp only [Act.put, List.setIfInBounds_toArray, List.set_cons_zero, List.set_cons_succ, i64_w, i32_w]
        rfl
      refine done_ (done_of HT_.out (by kernel_rfl)) ?_
      try go_wp2
      go_ret
      exact ⟨by first | rfl | (simp [errW_none, errW_some] <;> rfl) | (simp [*, errW_none, errW_some] <;> rfl), by repeat (first | (with_reducible first | exact HB.out | apply below_alloc | apply pw_below_drewN | apply below_drew1 | refine below_set ?_ GE162.out) | exact HB.out)⟩
    · replace c5 := Bool.eq_false_iff.mpr c5
      subst c5
      have H1 : (some true) = some r := by rw [if_neg (show ¬ (false = true) by decide)] at H; exact H
      clear H
      have H := H1
      clear H1
      obtain rfl := Option.some.inj H
      go_enter Try.func3, Try.ntmps3
      try go_wp2_with (first | ((with_reducible refine gate_dst (N := 1) rfl ?_); refine box_event ?hg (N := 1) ?hd (cs := #[.int .i64 a0_0, .bool a0_1, .int .i64 a0_2, .int .i64 a0_3, .int .i64 a0_4, .slice A0_5 l0_5.length c0_5, .slice A0_6 l0_6.length c0_6]) (t := 24) ?hr ?_; (case hd => rfl); (case hg => rfl); (case hr => first | (go_simp; done) | (go_simp; rfl)); intro gb162 hg w14 hbox hb; have n0_ := Aside0.mk (below_step (by repeat (first | (with_reducible first | exact HB.out | apply below_alloc | apply pw_below_drewN | apply below_drew1) | exact HB.out)) hb); have n1_ := Aside0.mk (hbox); have n2_ := Aside0.mk ((by rw [hg]; exact (below_size (by repeat (first | (with_reducible first | exact HB.out | apply below_alloc | apply pw_below_drewN | apply below_drew1) | exact HB.out))) : w.heap.size ≤ gb162)); have n3_ := Aside0.mk ((by rw [hg]; exact (below_size (by repeat (first | (with_reducible first | exact HB.out | apply below_alloc | apply pw_below_drewN | apply below_drew1) | exact HB.out))) : w.heap.size ≤ gb162)); clear HB; have HB := n0_; have BK162 := n1_; have GW162 := n2_; have GE162 := n3_; clear n0_ n1_ n2_ n3_; clear hb hbox hg) | ((with_reducible refine gate_callee (f := 11) rfl ?_); refine goesL_ (some 3) rfl rfl Try.func11 (by kernel_rfl) rfl #[] rfl (by (try simp only [List.map_toArray, List.map_cons, List.map_nil]); first | done | rfl | (simp only [List.length_drop, List.length_take]; rfl)) ?_; (with_reducible refine (hopmeshlaw25_awake.calls k  true _ A2.out).mono ?_); rintro e w15 ⟨rfl, hb⟩; refine ⟨_, rfl, ?_⟩; have n0_ := Aside0.mk (blk_below (g := gb162) (o := .cells #[.int .i64 a0_0, .bool a0_1, .int .i64 a0_2, .int .i64 a0_3, .int .i64 a0_4, .slice A0_5 l0_5.length c0_5, .slice A0_6 l0_6.length c0_6] 24 (0, 0)) (by (with_reducible repeat (first | refine blk_drewN ?_ _ | refine blk_drew ?_ | refine blk_alloc ?_ _)); exact BK162.out) hb); have n1_ := Aside0.mk (below_step (by repeat (first | (with_reducible first | exact HB.out | apply below_alloc | apply pw_below_drewN | apply below_drew1 | refine below_set ?_ GE162.out) | exact HB.out)) hb); clear BK162; clear HB; have BK162 := n0_; have HB := n1_; clear n0_ n1_; (try clear hb); (try clear hb2); (try clear hk); (try clear hi)))
      have n0_ := Aside0.mk (blk_drew BK162.out)
      have n1_ := Aside0.mk (below_drew1 HB.out)
      clear BK162
      clear HB
      have BK162 := n0_
      have HB := n1_
      clear n0_ n1_
      refine start_ (n := 11) (S := fun w' => w'.cell? ⟨gb162, 0, none⟩ = some (.int .i64 a0_0) ∧ w'.cell? ⟨gb162, 1, none⟩ = some (.bool a0_1) ∧ w'.cell? ⟨gb162, 2, none⟩ = some (.int .i64 a0_2) ∧ w'.cell? ⟨gb162, 3, none⟩ = some (.int .i64 a0_3) ∧ w'.cell? ⟨gb162, 4, none⟩ = some (.int .i64 a0_4) ∧ w'.cell? ⟨gb162, 5, none⟩ = some (.slice A0_5 l0_5.length c0_5) ∧ w'.cell? ⟨gb162, 6, none⟩ = some (.slice A0_6 l0_6.length c0_6)) (ds := []) #[false, false, false, false, false, false, false, false, false, false, false] (by kernel_rfl) rfl rfl ⟨(blk_cell BK162.out 0).trans rfl, (blk_cell BK162.out 1).trans rfl, (blk_cell BK162.out 2).trans rfl, (blk_cell BK162.out 3).trans rfl, (blk_cell BK162.out 4).trans rfl, (blk_cell BK162.out 5).trans rfl, (blk_cell BK162.out 6).trans rfl⟩ (fun hHeld => ?_); refine with_tabW hopmeshlaw25_CellmsgChecks.tab3 hopmeshlaw25_CellmsgChecks.bits3 (fun HT_ HW_ => ?_)
      generalize w15.drew = w16 at BK162 HB hHeld ⊢
      refine take_ (i := 0) (N := some 5) (v := ?_) (a' := ?_) #[true, false, false, false, false, false, false, false, false, false, false] rfl rfl (take_ofW HT_.out HW_.out (by kernel_rfl)) (fun _ _ _ h => h) (Or.inl ⟨by rfl, ?_⟩) hHeld ?_ ?_
      rotate_left
      · rintro w' ⟨s0, s1, s2, s3, s4, s5, s6⟩
        go_simp
        with_reducible rfl
      rotate_left
      · simp only [Act.put, List.setIfInBounds_toArray, List.set_cons_zero, List.set_cons_succ, i64_w, i32_w]
        rfl
      refine one_ (i := 1) (N := some 6) #[true, true, false, false, false, false, false, false, false, false, false] rfl rfl (one_of HT_.out (by kernel_rfl)) (by decide) (fun K hK => ?_)
      refine goes_ Try.func12 (by kernel_rfl) rfl #[.agg #[.int .i64 a0_0, .bool a0_1, .int .i64 a0_2, .int .i64 a0_3, .int .i64 a0_4, .slice A0_5 l0_5.length c0_5, .slice A0_6 l0_6.length c0_6]] (by rfl) rfl rfl (by (try simp only [List.map_toArray, List.map_cons, List.map_nil]); first | done | rfl | (simp only [List.length_drop, List.length_take]; rfl)) ?_
      with_reducible refine (hopmeshref25_Few.calls a0_0 a0_1 a0_2 a0_3 a0_4 _ _ l0_5 _ _ l0_6 false _ ?side1 ?side2 ?side3 ?side4 A4.out).mono ?_
      (case side1 => repeat (first | exact (Kd.C_below HR0_5.out HB.out) | (with_reducible refine Kd.C_alloc ?_ _) | (with_reducible refine Kd.C_drewN ?_ _) | (with_reducible refine Kd.C_drew ?_)))
      (case side2 => exact HC0_5.out)
      (case side3 => repeat (first | exact (Kd.C_below HR0_6.out HB.out) | (with_reducible refine Kd.C_alloc ?_ _) | (with_reducible refine Kd.C_drewN ?_ _) | (with_reducible refine Kd.C_drew ?_)))
      (case side4 => exact HC0_6.out)
      rintro e w17 ⟨rfl, hb⟩
      refine ⟨_, rfl, ?_⟩
      have n0_ := Aside0.mk (blk_below (g := gb162) (o := .cells #[.int .i64 a0_0, .bool a0_1, .int .i64 a0_2, .int .i64 a0_3, .int .i64 a0_4, .slice A0_5 l0_5.length c0_5, .slice A0_6 l0_6.length c0_6] 24 (0, 0)) (by (with_reducible repeat (first | refine blk_drewN ?_ _ | refine blk_drew ?_ | refine blk_alloc ?_ _)); exact BK162.out) hb)
      have n1_ := Aside0.mk (below_step (by repeat (first | (with_reducible first | exact HB.out | apply below_alloc | apply pw_below_drewN | apply below_drew1 | refine below_set ?_ GE162.out) | exact HB.out)) hb)
      clear BK162
      clear HB
      have BK162 := n0_
      have HB := n1_
      clear n0_ n1_
      (try clear hb)
      (try clear hb2)
      (try clear hk)
      (try clear hi)
      refine hK.out _ _ ⟨(blk_cell BK162.out 0).trans rfl, (blk_cell BK162.out 1).trans rfl, (blk_cell BK162.out 2).trans rfl, (blk_cell BK162.out 3).trans rfl, (blk_cell BK162.out 4).trans rfl, (blk_cell BK162.out 5).trans rfl, (blk_cell BK162.out 6).trans rfl⟩ (fun hHeld => ?_)
      clear hK K
      refine norm_ (a' := ?_) ?_ ?_
      rotate_left
      · show Act.put _ (some 6) _ = _
        simp only [Act.put, List.setIfInBounds_toArray, List.set_cons_zero, List.set_cons_succ, i64_w, i32_w]
        rfl
      refine pure_ (i := 2) (N := some 7) (v := ?_) (a' := ?_) #[true, true, true, false, false, false, false, false, false, false, false] rfl rfl (any_of HT_.out (by kernel_rfl)) (fun _ _ _ h => h) (Or.inl ⟨by rfl, ?_⟩) ?_ ?_
      rotate_left
      · intro w'
        go_simp
        with_reducible rfl
      rotate_left
      · simp only [Act.put, List.setIfInBounds_toArray, List.set_cons_zero, List.set_cons_succ, i64_w, i32_w]
        rfl
      refine pure_ (i := 3) (N := some 8) (v := ?_) (a' := ?_) #[true, true, true, true, false, false, false, false, false, false, false] rfl rfl (any_of HT_.out (by kernel_rfl)) (fun _ _ _ h => h) (Or.inl ⟨by rfl, ?_⟩) ?_ ?_
      rotate_left
      · intro w'
        go_simp
        with_reducible rfl
      rotate_left
      · simp only [Act.put, List.setIfInBounds_toArray, List.set_cons_zero, List.set_cons_succ, i64_w, i32_w]
        rfl
      refine pure_ (i := 4) (N := some 9) (v := undef) (a' := ?_) #[true, true, true, true, true, false, false, false, false, false, false] rfl rfl (any_of HT_.out (by kernel_rfl)) (fun _ _ _ h => h) (Or.inr ⟨by rfl, rfl⟩) ?_ ?_
      rotate_left
      · simp only [Act.put, List.setIfInBounds_toArray, List.set_cons_zero, List.set_cons_succ, i64_w, i32_w]
        rfl
      refine pure_ (i := 5) (N := some 10) (v := undef) (a' := ?_) #[true, true, true, true, true, true, false, false, false, false, false] rfl rfl (any_of HT_.out (by kernel_rfl)) (fun _ _ _ h => h) (Or.inr ⟨by rfl, rfl⟩) ?_ ?_
      rotate_left
      · simp only [Act.put, List.setIfInBounds_toArray, List.set_cons_zero, List.set_cons_succ, i64_w, i32_w]
        rfl
      refine pure_ (i := 6) (N := some 11) (v := undef) (a' := ?_) #[true, true, true, true, true, true, true, false, false, false, false] rfl rfl (any_of HT_.out (by kernel_rfl)) (fun _ _ _ h => h) (Or.inr ⟨by rfl, rfl⟩) ?_ ?_
      rotate_left
      · simp only [Act.put, List.setIfInBounds_toArray, List.set_cons_zero, List.set_cons_succ, i64_w, i32_w]
        rfl
      refine pure_ (i := 7) (N := some 12) (v := undef) (a' := ?_) #[true, true, true, true, true, true, true, true, false, false, false] rfl rfl (any_of HT_.out (by kernel_rfl)) (fun _ _ _ h => h) (Or.inr ⟨by rfl, rfl⟩) ?_ ?_
      rotate_left
      · simp only [Act.put, List.setIfInBounds_toArray, List.set_cons_zero, List.set_cons_succ, i64_w, i32_w]
        rfl
      refine pure_ (i := 8) (N := some 13) (v := undef) (a' := ?_) #[true, true, true, true, true, true, true, true, true, false, false] rfl rfl (any_of HT_.out (by kernel_rfl)) (fun _ _ _ h => h) (Or.inr ⟨by rfl, rfl⟩) ?_ ?_
      rotate_left
      · simp only [Act.put, List.setIfInBounds_toArray, List.set_cons_zero, List.set_cons_succ, i64_w, i32_w]
        rfl
      refine pure_ (i := 9) (N := some 14) (v := ?_) (a' := ?_) #[true, true, true, true, true, true, true, true, true, true, false] rfl rfl (any_of HT_.out (by kernel_rfl)) (fun _ _ _ h => h) (Or.inl ⟨by rfl, ?_⟩) ?_ ?_
      rotate_left
      · intro w'
        go_simp
        with_reducible rfl
      rotate_left
      · simp only [Act.put, List.setIfInBounds_toArray, List.set_cons_zero, List.set_cons_succ, i64_w, i32_w]
        rfl
      refine pure_ (i := 10) (N := some 2) (v := ?_) (a' := ?_) #[true, true, true, true, true, true, true, true, true, true, true] rfl rfl (any_of HT_.out (by kernel_rfl)) (fun _ _ _ h => h) (Or.inl ⟨by rfl, ?_⟩) ?_ ?_
      rotate_left
      · intro w'
        go_simp
        with_reducible rfl
      rotate_left
      · simp only [Act.put, List.setIfInBounds_toArray, List.set_cons_zero, List.set_cons_succ, i64_w, i32_w]
        rfl
      refine done_ (done_of HT_.out (by kernel_rfl)) ?_
      try go_wp2
      go_ret
      exact ⟨by first | rfl | (simp [errW_none, errW_some] <;> rfl) | (simp [*, errW_none, errW_some] <;> rfl), by repeat (first | (with_reducible first | exact HB.out | apply below_alloc | apply pw_below_drewN | apply below_drew1 | refine below_set ?_ GE162.out) | exact HB.out)⟩
  · replace c3 := Bool.eq_false_iff.mpr c3
    subst c3
    have H1 : (some false) = some r := by rw [if_neg (show ¬ (false = true) by decide)] at H; exact H
    clear H
    have H := H1
    clear H1
    obtain rfl := Option.some.inj H
    go_enter Try.func3, Try.ntmps3
    go_wp2_with (first | ((with_reducible refine gate_dst (N := 1) rfl ?_); refine box_event ?hg (N := 1) ?hd (cs := #[.int .i64 a0_0, .bool a0_1, .int .i64 a0_2, .int .i64 a0_3, .int .i64 a0_4, .slice A0_5 l0_5.length c0_5, .slice A0_6 l0_6.length c0_6]) (t := 24) ?hr ?_; (case hd => rfl); (case hg => rfl); (case hr => first | (go_simp; done) | (go_simp; rfl)); intro gb162 hg w18 hbox hb; have n0_ := Aside0.mk (below_step (by repeat (first | (with_reducible first | exact HB.out | apply below_alloc | apply pw_below_drewN | apply below_drew1) | exact HB.out)) hb); have n1_ := Aside0.mk (hbox); have n2_ := Aside0.mk ((by rw [hg]; exact (below_size (by repeat (first | (with_reducible first | exact HB.out | apply below_alloc | apply pw_below_drewN | apply below_drew1) | exact HB.out))) : w.heap.size ≤ gb162)); have n3_ := Aside0.mk ((by rw [hg]; exact (below_size (by repeat (first | (with_reducible first | exact HB.out | apply below_alloc | apply pw_below_drewN | apply below_drew1) | exact HB.out))) : w.heap.size ≤ gb162)); clear HB; have HB := n0_; have BK162 := n1_; have GW162 := n2_; have GE162 := n3_; clear n0_ n1_ n2_ n3_; clear hb hbox hg) | ((with_reducible refine gate_callee (f := 11) rfl ?_); refine goesL_ (some 3) rfl rfl Try.func11 (by kernel_rfl) rfl #[] rfl (by (try simp only [List.map_toArray, List.map_cons, List.map_nil]); first | done | rfl | (simp only [List.length_drop, List.length_take]; rfl)) ?_; (with_reducible refine (hopmeshlaw25_awake.calls k  false _ A2.out).mono ?_); rintro e w19 ⟨rfl, hb⟩; refine ⟨_, rfl, ?_⟩; have n0_ := Aside0.mk (blk_below (g := gb162) (o := .cells #[.int .i64 a0_0, .bool a0_1, .int .i64 a0_2, .int .i64 a0_3, .int .i64 a0_4, .slice A0_5 l0_5.length c0_5, .slice A0_6 l0_6.length c0_6] 24 (0, 0)) (by (with_reducible repeat (first | refine blk_drewN ?_ _ | refine blk_drew ?_ | refine blk_alloc ?_ _)); exact BK162.out) hb); have n1_ := Aside0.mk (below_step (by repeat (first | (with_reducible first | exact HB.out | apply below_alloc | apply pw_below_drewN | apply below_drew1 | refine below_set ?_ GE162.out) | exact HB.out)) hb); clear BK162; clear HB; have BK162 := n0_; have HB := n1_; clear n0_ n1_; (try clear hb); (try clear hb2); (try clear hk); (try clear hi)))
    go_ret
    exact ⟨by first | rfl | (simp [errW_none, errW_some] <;> rfl) | (simp [*, errW_none, errW_some] <;> rfl), by repeat (first | (with_reducible first | exact HB.out | apply below_alloc | apply pw_below_drewN | apply below_drew1 | refine below_set ?_ GE162.out) | exact HB.out)⟩
def hopmeshref25_Has.l0 : Nat → List (S37) → Int → Int → Int → Option (Bool)
  | 0, _, _, _, _ => none
  | k + 1, x0, x5, x168000, x168001 => if x5 < (x0.length : Int) then (if 0 ≤ x5 then (if (((rd_T37 x0 x5).f0) == x168000 && (((rd_T37 x0 x5).f1) == x168001)) = true then (some true) else (hopmeshref25_Has.l0 k x0 (wrap64 (x5 + 1)) x168000 x168001)) else (none)) else (some false)
def hopmeshref25_Has.f (k : Nat) (l0 : List (S37)) (a1_0 : Int) (a1_1 : Int) : Option (Bool) := hopmeshref25_Has.l0 k l0 0 a1_0 a1_1
theorem hopmeshref25_Has.mono_l : ∀ k, (∀ y0 y1 y2 y3, LeO (hopmeshref25_Has.l0 k y0 y1 y2 y3) (hopmeshref25_Has.l0 (k + 1) y0 y1 y2 y3))
  | 0 => fun _ _ _ _ r h => by simp [hopmeshref25_Has.l0] at h
  | k + 1 => by
    have ih0 := hopmeshref25_Has.mono_l k
    · intro y0 y1 y2 y3
      unfold hopmeshref25_Has.l0
      repeat' first
      | (with_reducible exact ih0 _ _ _ _)
      | (with_reducible exact LeO.refl _)
      | (with_reducible exact LeO.none _)
      | (with_reducible refine LeO.ite ?_ ?_)
      | (with_reducible refine LeO.bind ?_ (fun _ => ?_))
      | exact ih0 _ _ _ _
      | exact LeO.none _
      | refine LeO.ite ?_ ?_
      | refine LeO.bind ?_ (fun _ => ?_)
theorem hopmeshref25_Has.mono : ∀ a0 a1 a2 k, LeO (hopmeshref25_Has.f k a0 a1 a2) (hopmeshref25_Has.f (k + 1) a0 a1 a2) := by
  intro a0 a1 a2 k
  have ih0 := hopmeshref25_Has.mono_l k
  unfold hopmeshref25_Has.f
  repeat' first
      | (with_reducible exact ih0 _ _ _ _)
      | (with_reducible exact LeO.refl _)
      | (with_reducible exact LeO.none _)
      | (with_reducible refine LeO.ite ?_ ?_)
      | (with_reducible refine LeO.bind ?_ (fun _ => ?_))
      | exact ih0 _ _ _ _
      | exact LeO.none _
      | refine LeO.ite ?_ ?_
      | refine LeO.bind ?_ (fun _ => ?_)
set_option maxHeartbeats 8000000 in
set_option maxRecDepth 100000 in
theorem hopmeshref25_Has.calls (k : Nat) (A0 : Option Addr) (c0 : Nat) (l0 : List (S37)) (a1_0 : Int) (a1_1 : Int) (r : Bool) (w : World) (hr0 : Kd.C k37 w A0 l0.length l0) (hc0 : l0.length ≤ c0) (h : hopmeshref25_Has.f k l0 a1_0 a1_1 = some r) :
    Calls Try.prog 62 #[.slice A0 l0.length c0, .agg #[.int .i64 a1_0, .int .i64 a1_1]] w fun e w' => e = .returned (.bool r) ∧ Below w.heap.size w w' := by
  have hu37 := Try.underlying37
  have HR0 := Aside0.mk hr0
  have HC0 := Aside0.mk hc0
  clear hr0 hc0
  have HB := Aside0.mk (Below.refl w.heap.size w)
  have H : (hopmeshref25_Has.l0 k l0 0 a1_0 a1_1) = some r := h
  clear h
  have H' := Aside0.mk H
  clear H
  go_enter Try.func62, Try.ntmps62
  go_wp2_with (first | ((with_reducible refine gate_dst (N := 3) rfl ?_); refine box_event ?hg (N := 3) ?hd (cs := #[.int .i64 a1_0, .int .i64 a1_1]) (t := 37) ?hr ?_; (case hd => rfl); (case hg => rfl); (case hr => first | (go_simp; done) | (go_simp; rfl)); intro gb167 hg w3 hbox hb; have n0_ := Aside0.mk (below_step (by repeat (first | (with_reducible first | exact HB.out | apply below_alloc | apply pw_below_drewN | apply below_drew1) | exact HB.out)) hb); have n1_ := Aside0.mk (hbox); have n2_ := Aside0.mk ((by rw [hg]; exact (below_size (by repeat (first | (with_reducible first | exact HB.out | apply below_alloc | apply pw_below_drewN | apply below_drew1) | exact HB.out))) : w.heap.size ≤ gb167)); have n3_ := Aside0.mk ((by rw [hg]; exact (below_size (by repeat (first | (with_reducible first | exact HB.out | apply below_alloc | apply pw_below_drewN | apply below_drew1) | exact HB.out))) : w.heap.size ≤ gb167)); clear HB; have HB := n0_; have BK167 := n1_; have GW167 := n2_; have GE167 := n3_; clear n0_ n1_ n2_ n3_; clear hb hbox hg))
  repeat (go_quiet (first | ((with_reducible refine gate_dst (N := 3) rfl ?_); refine box_event ?hg (N := 3) ?hd (cs := #[.int .i64 a1_0, .int .i64 a1_1]) (t := 37) ?hr ?_; (case hd => rfl); (case hg => rfl); (case hr => first | (go_simp; done) | (go_simp; rfl)); intro gb167 hg w3 hbox hb; have n0_ := Aside0.mk (below_step (by repeat (first | (with_reducible first | exact HB.out | apply below_alloc | apply pw_below_drewN | apply below_drew1) | exact HB.out)) hb); have n1_ := Aside0.mk (hbox); have n2_ := Aside0.mk ((by rw [hg]; exact (below_size (by repeat (first | (with_reducible first | exact HB.out | apply below_alloc | apply pw_below_drewN | apply below_drew1) | exact HB.out))) : w.heap.size ≤ gb167)); have n3_ := Aside0.mk ((by rw [hg]; exact (below_size (by repeat (first | (with_reducible first | exact HB.out | apply below_alloc | apply pw_below_drewN | apply below_drew1) | exact HB.out))) : w.heap.size ≤ gb167)); clear HB; have HB := n0_; have BK167 := n1_; have GW167 := n2_; have GE167 := n3_; clear n0_ n1_ n2_ n3_; clear hb hbox hg)); try go_wp2_with (first | ((with_reducible refine gate_dst (N := 3) rfl ?_); refine box_event ?hg (N := 3) ?hd (cs := #[.int .i64 a1_0, .int .i64 a1_1]) (t := 37) ?hr ?_; (case hd => rfl); (case hg => rfl); (case hr => first | (go_simp; done) | (go_simp; rfl)); intro gb167 hg w3 hbox hb; have n0_ := Aside0.mk (below_step (by repeat (first | (with_reducible first | exact HB.out | apply below_alloc | apply pw_below_drewN | apply below_drew1) | exact HB.out)) hb); have n1_ := Aside0.mk (hbox); have n2_ := Aside0.mk ((by rw [hg]; exact (below_size (by repeat (first | (with_reducible first | exact HB.out | apply below_alloc | apply pw_below_drewN | apply below_drew1) | exact HB.out))) : w.heap.size ≤ gb167)); have n3_ := Aside0.mk ((by rw [hg]; exact (below_size (by repeat (first | (with_reducible first | exact HB.out | apply below_alloc | apply pw_below_drewN | apply below_drew1) | exact HB.out))) : w.heap.size ≤ gb167)); clear HB; have HB := n0_; have BK167 := n1_; have GW167 := n2_; have GE167 := n3_; clear n0_ n1_ n2_ n3_; clear hb hbox hg)))
  go_loopg [5] k (fun kq v5 w' => ∃ (x5_1 : Int), v5 = .int .i64 x5_1 ∧ Aside0 (hopmeshref25_Has.l0 kq l0 x5_1 a1_0 a1_1 = some r) ∧ Aside0 (kq ≤ k) ∧ Aside0 (w'.heap[gb167]? = some (.cells #[.int .i64 a1_0, .int .i64 a1_1] 37 (0, 0))) ∧ Aside0 (Below w.heap.size w w'))
  case atStart => exact ⟨(0), (by first | rfl | (simp; done) | (simp [*]; done)), H', ⟨Nat.le_refl _⟩, ⟨by (with_reducible repeat (first | refine blk_drewN ?_ _ | refine blk_drew ?_ | refine blk_alloc ?_ _)); exact BK167.out⟩, ⟨by repeat (first | (with_reducible first | exact HB.out | apply below_alloc | apply pw_below_drewN | apply below_drew1 | refine below_set ?_ GE167.out) | exact HB.out)⟩⟩
  case round =>
    clear H'
    try clear p2
    obtain ⟨x5_1, rfl, HA, HK1, BK167, HB⟩ := hrel
    cases gk with
    | zero => exact absurd HA.out (by simp [hopmeshref25_Has.l0])
    | succ k1 =>
      have H := HA.out
      clear HA
      simp only [hopmeshref25_Has.l0] at H
      by_cases c4 : x5_1 < (l0.length : Int)
      · rw [if_pos c4] at H
        have c4b0 : decide (x5_1 < (l0.length : Int)) = true := decide_eq_true c4
        clear c4
        by_cases c5 : 0 ≤ x5_1
        · rw [if_pos c5] at H
          have c5b0 : decide (0 ≤ x5_1) = true := decide_eq_true c5
          clear c5
          by_cases c6 : (((rd_T37 l0 x5_1).f0) == a1_0 && (((rd_T37 l0 x5_1).f1) == a1_1)) = true
          · rw [if_pos c6] at H
            have c6b0 : (((rd_T37 l0 x5_1).f0) == a1_0 && (((rd_T37 l0 x5_1).f1) == a1_1)) = true := c6
            (try (have c6b1 : decide (((rd_T37 l0 x5_1).f0) = a1_0 && (((rd_T37 l0 x5_1).f1) == a1_1)) = true := by simpa using c6))
            (try (have c6b2 : (((rd_T37 l0 x5_1).f0) == a1_0 && (((rd_T37 l0 x5_1).f1) == a1_1)) = true := by simpa using c6))
            clear c6
            obtain rfl := Option.some.inj H
            have p168 : 0 ≤ (x5_1 : Int) := of_decide_eq_true (by first | (with_reducible assumption) | assumption)
            have q168 : x5_1 < (l0.length : Int) := of_decide_eq_true (by first | (with_reducible assumption) | assumption)
            obtain ⟨ad168, e168, hx168_0, hx168_1⟩ := at_T37 HR0.out x5_1 p168 q168
            cases e168
            replace hx168_0 := (HB.out.cell (World.block_lt_of_cell? w _ hx168_0)).trans hx168_0
            replace hx168_1 := (HB.out.cell (World.block_lt_of_cell? w _ hx168_1)).trans hx168_1
            replace p168 := eq_true p168
            replace q168 := eq_true q168
            have hcz7_0 : wr.cell? ⟨gb167, 0, none⟩ = some (.int .i64 a1_0) := (blk_cell BK167.out 0).trans rfl
            have hcz7_1 : wr.cell? ⟨gb167, 1, none⟩ = some (.int .i64 a1_1) := (blk_cell BK167.out 1).trans rfl
            have hfz7_0 := blk_frozen BK167.out 0
            have hfz7_1 := blk_frozen BK167.out 1
            go_wp2
            repeat (go_quiet (fail); try go_wp2)
            go_ret
            exact ⟨by first | rfl | (simp [errW_none, errW_some] <;> rfl) | (simp [*, errW_none, errW_some] <;> rfl), by repeat (first | (with_reducible first | exact HB.out | apply below_alloc | apply pw_below_drewN | apply below_drew1 | refine below_set ?_ GE167.out) | exact HB.out)⟩
          · rw [if_neg c6] at H
            have c6b0 : (((rd_T37 l0 x5_1).f0) == a1_0 && (((rd_T37 l0 x5_1).f1) == a1_1)) = false := by simpa using c6
            (try (have c6b1 : decide (((rd_T37 l0 x5_1).f0) = a1_0 && (((rd_T37 l0 x5_1).f1) == a1_1)) = false := by simpa using c6))
            (try (have c6b2 : (((rd_T37 l0 x5_1).f0) == a1_0 && (((rd_T37 l0 x5_1).f1) == a1_1)) = false := by simpa using c6))
            (try (have c6b3 : ¬ (((rd_T37 l0 x5_1).f0) = a1_0 && (((rd_T37 l0 x5_1).f1) == a1_1)) := by simpa using c6))
            clear c6
            have H' := Aside0.mk H
            clear H
            have p168 : 0 ≤ (x5_1 : Int) := of_decide_eq_true (by first | (with_reducible assumption) | assumption)
            have q168 : x5_1 < (l0.length : Int) := of_decide_eq_true (by first | (with_reducible assumption) | assumption)
            obtain ⟨ad168, e168, hx168_0, hx168_1⟩ := at_T37 HR0.out x5_1 p168 q168
            cases e168
            replace hx168_0 := (HB.out.cell (World.block_lt_of_cell? w _ hx168_0)).trans hx168_0
            replace hx168_1 := (HB.out.cell (World.block_lt_of_cell? w _ hx168_1)).trans hx168_1
            replace p168 := eq_true p168
            replace q168 := eq_true q168
            have hcz8_0 : wr.cell? ⟨gb167, 0, none⟩ = some (.int .i64 a1_0) := (blk_cell BK167.out 0).trans rfl
            have hcz8_1 : wr.cell? ⟨gb167, 1, none⟩ = some (.int .i64 a1_1) := (blk_cell BK167.out 1).trans rfl
            have hfz8_0 := blk_frozen BK167.out 0
            have hfz8_1 := blk_frozen BK167.out 1
            go_wp2
            repeat (go_quiet (fail); try go_wp2)
            go_roundg k1
            case measure => have := HK1.out; omega
            case rel => exact ⟨(wrap64 (x5_1 + 1)), (by first | rfl | (simp; done) | (simp [*]; done)), H', ⟨by have := HK1.out; omega⟩, ⟨by (with_reducible repeat (first | refine blk_drewN ?_ _ | refine blk_drew ?_ | refine blk_alloc ?_ _)); exact BK167.out⟩, ⟨by repeat (first | (with_reducible first | exact HB.out | apply below_alloc | apply pw_below_drewN | apply below_drew1 | refine below_set ?_ GE167.out) | exact HB.out)⟩⟩
        · rw [if_neg c5] at H
          exact absurd H (by simp)
      · rw [if_neg c4] at H
        have c4b0 : decide (x5_1 < (l0.length : Int)) = false := decide_eq_false c4
        clear c4
        obtain rfl := Option.some.inj H
        go_wp2
        repeat (go_quiet (fail); try go_wp2)
        go_ret
        exact ⟨by first | rfl | (simp [errW_none, errW_some] <;> rfl) | (simp [*, errW_none, errW_some] <;> rfl), by repeat (first | (with_reducible first | exact HB.out | apply below_alloc | apply pw_below_drewN | apply below_drew1 | refine below_set ?_ GE167.out) | exact HB.out)⟩
def hopmeshref25_among.l0 : Nat → List (S37) → List (S37) → Int → Option (Bool)
  | 0, _, _, _ => none
  | k + 1, x0, x1, x5 => if x5 < (x0.length : Int) then (if 0 ≤ x5 then ((hopmeshref25_Has.f k x1 ((rd_T37 x0 x5).f0) ((rd_T37 x0 x5).f1)).bind fun t170 => (if t170 = true then (hopmeshref25_among.l0 k x0 x1 (wrap64 (x5 + 1))) else (some false))) else (none)) else (some true)
def hopmeshref25_among.f (k : Nat) (l0 : List (S37)) (l1 : List (S37)) : Option (Bool) := hopmeshref25_among.l0 k l0 l1 0
theorem hopmeshref25_among.mono_l : ∀ k, (∀ y0 y1 y2, LeO (hopmeshref25_among.l0 k y0 y1 y2) (hopmeshref25_among.l0 (k + 1) y0 y1 y2))
  | 0 => fun _ _ _ r h => by simp [hopmeshref25_among.l0] at h
  | k + 1 => by
    have ih0 := hopmeshref25_among.mono_l k
    · intro y0 y1 y2
      unfold hopmeshref25_among.l0
      repeat' first
      | (with_reducible exact ih0 _ _ _)
      | (with_reducible exact hopmeshref25_Has.mono _ _ _ _)
      | (with_reducible exact LeO.refl _)
      | (with_reducible exact LeO.none _)
      | (with_reducible refine LeO.ite ?_ ?_)
      | (with_reducible refine LeO.bind ?_ (fun _ => ?_))
      | exact ih0 _ _ _
      | exact hopmeshref25_Has.mono _ _ _ _
      | exact LeO.none _
      | refine LeO.ite ?_ ?_
      | refine LeO.bind ?_ (fun _ => ?_)
theorem hopmeshref25_among.mono : ∀ a0 a1 k, LeO (hopmeshref25_among.f k a0 a1) (hopmeshref25_among.f (k + 1) a0 a1) := by
  intro a0 a1 k
  have ih0 := hopmeshref25_among.mono_l k
  unfold hopmeshref25_among.f
  repeat' first
      | (with_reducible exact ih0 _ _ _)
      | (with_reducible exact hopmeshref25_Has.mono _ _ _ _)
      | (with_reducible exact LeO.refl _)
      | (with_reducible exact LeO.none _)
      | (with_reducible refine LeO.ite ?_ ?_)
      | (with_reducible refine LeO.bind ?_ (fun _ => ?_))
      | exact ih0 _ _ _
      | exact hopmeshref25_Has.mono _ _ _ _
      | exact LeO.none _
      | refine LeO.ite ?_ ?_
      | refine LeO.bind ?_ (fun _ => ?_)
set_option maxHeartbeats 8000000 in
set_option maxRecDepth 100000 in
theorem hopmeshref25_among.calls (k : Nat) (A0 : Option Addr) (c0 : Nat) (l0 : List (S37)) (A1 : Option Addr) (c1 : Nat) (l1 : List (S37)) (r : Bool) (w : World) (hr0 : Kd.C k37 w A0 l0.length l0) (hc0 : l0.length ≤ c0) (hr1 : Kd.C k37 w A1 l1.length l1) (hc1 : l1.length ≤ c1) (h : hopmeshref25_among.f k l0 l1 = some r) :
    Calls Try.prog 41 #[.slice A0 l0.length c0, .slice A1 l1.length c1] w fun e w' => e = .returned (.bool r) ∧ Below w.heap.size w w' := by
  have hu37 := Try.underlying37
  have HR0 := Aside0.mk hr0
  have HC0 := Aside0.mk hc0
  clear hr0 hc0
  have HR1 := Aside0.mk hr1
  have HC1 := Aside0.mk hc1
  clear hr1 hc1
  have HB := Aside0.mk (Below.refl w.heap.size w)
  have H : (hopmeshref25_among.l0 k l0 l1 0) = some r := h
  clear h
  have H' := Aside0.mk H
  clear H
  go_enter Try.func41, Try.ntmps41
  go_wp2
  go_loopg [5] k (fun kq v5 w' => ∃ (x5_1 : Int), v5 = .int .i64 x5_1 ∧ Aside0 (hopmeshref25_among.l0 kq l0 l1 x5_1 = some r) ∧ Aside0 (kq ≤ k) ∧ Aside0 (Below w.heap.size w w'))
  case atStart => exact ⟨(0), (by first | rfl | (simp; done) | (simp [*]; done)), H', ⟨Nat.le_refl _⟩, ⟨by repeat (first | (with_reducible first | exact HB.out | apply below_alloc | apply pw_below_drewN | apply below_drew1) | exact HB.out)⟩⟩
  case round =>
    clear H'
    try clear c1
    try clear p2
    obtain ⟨x5_1, rfl, HA, HK1, HB⟩ := hrel
    cases gk with
    | zero => exact absurd HA.out (by simp [hopmeshref25_among.l0])
    | succ k1 =>
      have H := HA.out
      clear HA
      simp only [hopmeshref25_among.l0] at H
      by_cases c3 : x5_1 < (l0.length : Int)
      · rw [if_pos c3] at H
        have c3b0 : decide (x5_1 < (l0.length : Int)) = true := decide_eq_true c3
        clear c3
        by_cases c4 : 0 ≤ x5_1
        · rw [if_pos c4] at H
          have c4b0 : decide (0 ≤ x5_1) = true := decide_eq_true c4
          clear c4
          replace H := Option.bind_eq_some_iff.mp H
          obtain ⟨t170, A50, H⟩ := H
          replace H : (if t170 = true then (hopmeshref25_among.l0 k1 l0 l1 (wrap64 (x5_1 + 1))) else (some false)) = some r := H
          have A5 := Aside0.mk A50
          clear A50
          by_cases c6 : t170 = true
          · subst c6
            have H1 : (hopmeshref25_among.l0 k1 l0 l1 (wrap64 (x5_1 + 1))) = some r := by rw [if_pos rfl] at H; exact H
            clear H
            have H := H1
            clear H1
            have H' := Aside0.mk H
            clear H
            have p169 : 0 ≤ (x5_1 : Int) := of_decide_eq_true (by first | (with_reducible assumption) | assumption)
            have q169 : x5_1 < (l0.length : Int) := of_decide_eq_true (by first | (with_reducible assumption) | assumption)
            obtain ⟨ad169, e169, hx169_0, hx169_1⟩ := at_T37 HR0.out x5_1 p169 q169
            cases e169
            replace hx169_0 := (HB.out.cell (World.block_lt_of_cell? w _ hx169_0)).trans hx169_0
            replace hx169_1 := (HB.out.cell (World.block_lt_of_cell? w _ hx169_1)).trans hx169_1
            replace p169 := eq_true p169
            replace q169 := eq_true q169
            go_wp2_with (first | ((with_reducible refine gate_callee (f := 62) rfl ?_); refine goesL_ (some 17) rfl rfl Try.func62 (by kernel_rfl) rfl #[.slice A1 l1.length c1, .agg #[.int .i64 ((rd_T37 l0 x5_1).f0), .int .i64 ((rd_T37 l0 x5_1).f1)]] rfl (by (try simp only [List.map_toArray, List.map_cons, List.map_nil]); first | done | rfl | (simp only [List.length_drop, List.length_take]; rfl)) ?_; (with_reducible refine (hopmeshref25_Has.calls k1 _ _ l1 ((rd_T37 l0 x5_1).f0) ((rd_T37 l0 x5_1).f1) true _ ?side1 ?side2 A5.out).mono ?_); (case side1 => repeat (first | exact (Kd.C_below HR1.out HB.out) | (with_reducible refine Kd.C_alloc ?_ _) | (with_reducible refine Kd.C_drewN ?_ _) | (with_reducible refine Kd.C_drew ?_))); (case side2 => exact HC1.out); rintro e w7 ⟨rfl, hb⟩; refine ⟨_, rfl, ?_⟩; have n0_ := Aside0.mk (below_step (by repeat (first | (with_reducible first | exact HB.out | apply below_alloc | apply pw_below_drewN | apply below_drew1) | exact HB.out)) hb); clear HB; have HB := n0_; clear n0_; (try clear hb); (try clear hb2); (try clear hk); (try clear hi)))
            go_roundg k1
            case measure => have := HK1.out; omega
            case rel => exact ⟨(wrap64 (x5_1 + 1)), (by first | rfl | (simp; done) | (simp [*]; done)), H', ⟨by have := HK1.out; omega⟩, ⟨by repeat (first | (with_reducible first | exact HB.out | apply below_alloc | apply pw_below_drewN | apply below_drew1) | exact HB.out)⟩⟩
          · replace c6 := Bool.eq_false_iff.mpr c6
            subst c6
            have H1 : (some false) = some r := by rw [if_neg (show ¬ (false = true) by decide)] at H; exact H
            clear H
            have H := H1
            clear H1
            obtain rfl := Option.some.inj H
            have p169 : 0 ≤ (x5_1 : Int) := of_decide_eq_true (by first | (with_reducible assumption) | assumption)
            have q169 : x5_1 < (l0.length : Int) := of_decide_eq_true (by first | (with_reducible assumption) | assumption)
            obtain ⟨ad169, e169, hx169_0, hx169_1⟩ := at_T37 HR0.out x5_1 p169 q169
            cases e169
            replace hx169_0 := (HB.out.cell (World.block_lt_of_cell? w _ hx169_0)).trans hx169_0
            replace hx169_1 := (HB.out.cell (World.block_lt_of_cell? w _ hx169_1)).trans hx169_1
            replace p169 := eq_true p169
            replace q169 := eq_true q169
            go_wp2_with (first | ((with_reducible refine gate_callee (f := 62) rfl ?_); refine goesL_ (some 17) rfl rfl Try.func62 (by kernel_rfl) rfl #[.slice A1 l1.length c1, .agg #[.int .i64 ((rd_T37 l0 x5_1).f0), .int .i64 ((rd_T37 l0 x5_1).f1)]] rfl (by (try simp only [List.map_toArray, List.map_cons, List.map_nil]); first | done | rfl | (simp only [List.length_drop, List.length_take]; rfl)) ?_; (with_reducible refine (hopmeshref25_Has.calls k1 _ _ l1 ((rd_T37 l0 x5_1).f0) ((rd_T37 l0 x5_1).f1) false _ ?side1 ?side2 A5.out).mono ?_); (case side1 => repeat (first | exact (Kd.C_below HR1.out HB.out) | (with_reducible refine Kd.C_alloc ?_ _) | (with_reducible refine Kd.C_drewN ?_ _) | (with_reducible refine Kd.C_drew ?_))); (case side2 => exact HC1.out); rintro e w8 ⟨rfl, hb⟩; refine ⟨_, rfl, ?_⟩; have n0_ := Aside0.mk (below_step (by repeat (first | (with_reducible first | exact HB.out | apply below_alloc | apply pw_below_drewN | apply below_drew1) | exact HB.out)) hb); clear HB; have HB := n0_; clear n0_; (try clear hb); (try clear hb2); (try clear hk); (try clear hi)))
            go_ret
            exact ⟨by first | rfl | (simp [errW_none, errW_some] <;> rfl) | (simp [*, errW_none, errW_some] <;> rfl), by repeat (first | (with_reducible first | exact HB.out | apply below_alloc | apply pw_below_drewN | apply below_drew1) | exact HB.out)⟩
        · rw [if_neg c4] at H
          exact absurd H (by simp)
      · rw [if_neg c3] at H
        have c3b0 : decide (x5_1 < (l0.length : Int)) = false := decide_eq_false c3
        clear c3
        obtain rfl := Option.some.inj H
        go_wp2
        go_ret
        exact ⟨by first | rfl | (simp [errW_none, errW_some] <;> rfl) | (simp [*, errW_none, errW_some] <;> rfl), by repeat (first | (with_reducible first | exact HB.out | apply below_alloc | apply pw_below_drewN | apply below_drew1) | exact HB.out)⟩
end Go.Proofs.Ytjjcgjpmhhkeaaa.B
