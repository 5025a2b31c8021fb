/- cellmsg.follows. (cut to what is reached: wip/tools/slimout2.py) -/
import Derived.Test.YtjjcgjpmhhkeaaaSFCmG
import Derived.Laws.EntriesVeiled
namespace Go.Proofs.Ytjjcgjpmhhkeaaa.CmH
set_option linter.unusedSimpArgs false
set_option linter.unusedVariables false
open Go.RowKit Go.Proofs.Ytjjcgjpmhhkeaaa.CmF Go.Proofs.Ytjjcgjpmhhkeaaa.CmG
def reqB (k ct : Int) (s o : Nat) : Bool := if k = 1 then b3 ct s o else if k = 2 then b2 ct s o else if k = 3 then b5 ct s o else b1 ct s o
def repB (k ct : Int) (s o : Nat) : Bool := if k = 1 then b4 ct s o else if k = 2 then b2 ct s o else if k = 3 then b6 ct s o else if k = 4 then b7 ct s o else if k = 5 then b8 ct s o else b1 ct s o
def followsB (k : Int) (r : Bool) (cd ct : Int) (s o : Nat) : Bool := if r = true then if cd = 0 then repB k ct s o else b1 ct s o else decide (cd = 0) && reqB k ct s o
theorem req_any (k : Int) (r : Bool) (n cd ct : Int) (A : Option Addr) (s c : Nat) (A' : Option Addr) (o c' : Nat) (hs : s ≤ 9223372036854775807) (ho : o ≤ 9223372036854775807) (k0 : 1 ≤ k) (k1 : k ≤ 6) (w : World) :
    Calls Try.prog (reqFn k) #[.agg (ms k r n cd ct A s c A' o c')] w fun e w' => e = .returned (.bool (reqB k ct s o)) ∧ Below w.heap.size w w' := by
  have hk : k = 1 ∨ k = 2 ∨ k = 3 ∨ k = 4 ∨ k = 5 ∨ k = 6 := by omega
  rcases hk with rfl | rfl | rfl | rfl | rfl | rfl
  · exact row3_any 1 r n cd ct A s c A' o c' hs ho w
  · exact row2_any 2 r n cd ct A s c A' o c' hs ho w
  · exact row5_any 3 r n cd ct A s c A' o c' hs ho w
  · exact row1_any 4 r n cd ct A s c A' o c' hs ho w
  · exact row1_any 5 r n cd ct A s c A' o c' hs ho w
  · exact row1_any 6 r n cd ct A s c A' o c' hs ho w
theorem rep_any (k : Int) (r : Bool) (n cd ct : Int) (A : Option Addr) (s c : Nat) (A' : Option Addr) (o c' : Nat) (hs : s ≤ 9223372036854775807) (ho : o ≤ 9223372036854775807) (k0 : 1 ≤ k) (k1 : k ≤ 6) (w : World) :
    Calls Try.prog (repFn k) #[.agg (ms k r n cd ct A s c A' o c')] w fun e w' => e = .returned (.bool (repB k ct s o)) ∧ Below w.heap.size w w' := by
  have hk : k = 1 ∨ k = 2 ∨ k = 3 ∨ k = 4 ∨ k = 5 ∨ k = 6 := by omega
  rcases hk with rfl | rfl | rfl | rfl | rfl | rfl
  · exact row4_any 1 r n cd ct A s c A' o c' hs ho w
  · exact row2_any 2 r n cd ct A s c A' o c' hs ho w
  · exact row6_any 3 r n cd ct A s c A' o c' hs ho w
  · exact row7_any 4 r n cd ct A s c A' o c' hs ho w
  · exact row8_any 5 r n cd ct A s c A' o c' hs ho w
  · exact row1_any 6 r n cd ct A s c A' o c' hs ho w
theorem enter_req (k : Int) (args : Array Value) (w : World) : (callFunc (reqFn k) args).run Try.prog w = .ok (.enter (reqFn k) args) w := by
  unfold reqFn
  split
  · kernel_rfl
  · split
    · kernel_rfl
    · split
      · kernel_rfl
      · split
        · kernel_rfl
        · split <;> kernel_rfl
theorem enter_rep (k : Int) (args : Array Value) (w : World) : (callFunc (repFn k) args).run Try.prog w = .ok (.enter (repFn k) args) w := by
  unfold repFn
  split
  · kernel_rfl
  · split
    · kernel_rfl
    · split
      · kernel_rfl
      · split
        · kernel_rfl
        · split <;> kernel_rfl
abbrev TRw : TypeId := 64
structure Two (w w3 : World) (cs : Array Value) (x fq fr : Nat) : Prop where
  msg : w3.heap[w.heap.size]? = some (.cells cs TMs (0, 0))
  row : w3.heap[x]? = some (.cells #[Fv fq, Fv fr] TRw (0, 0))
  bel : Below w.heap.size w w3
theorem Two.first {cs : Array Value} {w w2 : World} {fq fr : Nat} (hb : Below (w.alloc (.cells cs TMs)).drew.heap.size (w.alloc (.cells cs TMs)).drew w2) : Two w (w2.alloc (.cells #[Fv fq, Fv fr] TRw)) cs w2.heap.size fq fr := by
  have hb' : Below (w.alloc (.cells cs TMs)).heap.size (w.alloc (.cells cs TMs)) w2 := ⟨hb.os, hb.tape, hb.output, hb.size, hb.block⟩
  have hm : w2.heap[w.heap.size]? = some (.cells cs TMs (0, 0)) := by rw [hb'.block _ (by simp)]; exact heap_alloc_new _ _
  have hbl : Below w.heap.size w w2 := ((Below.refl _ _).alloc (Nat.le_refl _) _).trans (hb'.mono (by simp))
  exact ⟨by rw [heap_alloc_old _ _ (Array.getElem?_eq_some_iff.1 hm).1]; exact hm, heap_alloc_new _ _, hbl.alloc hbl.size _⟩
abbrev W2 (w : World) (cs : Array Value) : World := ((w.alloc (.cells cs TMs)).alloc (.cells #[.nilFunc, .nilFunc] TRw)).drew
theorem second {cs : Array Value} {w w2 : World} (hb : Below (W2 w cs).heap.size (W2 w cs) w2) : w2.heap[w.heap.size]? = some (.cells cs TMs (0, 0)) ∧ w2.heap[w.heap.size + 1]? = some (.cells #[.nilFunc, .nilFunc] TRw (0, 0)) ∧ Below w.heap.size w w2 := by
  have hb' : Below ((w.alloc (.cells cs TMs)).alloc (.cells #[.nilFunc, .nilFunc] TRw)).heap.size ((w.alloc (.cells cs TMs)).alloc (.cells #[.nilFunc, .nilFunc] TRw)) w2 := ⟨hb.os, hb.tape, hb.output, hb.size, hb.block⟩
  refine ⟨by rw [hb'.block _ (by simp; omega)]; exact heap_alloc2_old _ _ _, by rw [hb'.block _ (by simp)]; simpa using heap_alloc_new (w.alloc (.cells cs TMs)) (.cells #[.nilFunc, .nilFunc] TRw), ?_⟩
  exact (((Below.refl _ _).alloc (Nat.le_refl _) _).alloc (by simp) _).trans (hb'.mono (by simp; omega))
theorem Two.second {cs : Array Value} {w w2 : World} {fq fr : Nat} (hb : Below (W2 w cs).heap.size (W2 w cs) w2) : Two w ((w2.setCell ⟨w.heap.size + 1, 0, none⟩ (Fv fq)).setCell ⟨w.heap.size + 1, 1, none⟩ (Fv fr)) cs (w.heap.size + 1) fq fr := by
  obtain ⟨h1, h2, h3⟩ := CmH.second hb
  have a1 := heap_setCell_same w2 (w.heap.size + 1) 0 _ _ (Fv fq) h2
  have a2 := heap_setCell_same (w2.setCell ⟨w.heap.size + 1, 0, none⟩ (Fv fq)) (w.heap.size + 1) 1 _ _ (Fv fr) a1
  refine ⟨by rw [heap_setCell_other _ _ _ _ (by simp), heap_setCell_other _ _ _ _ (by simp)]; exact h1, by rw [a2]; rfl, ?_⟩
  exact (h3.setCell (p := ⟨w.heap.size + 1, 0, none⟩) (by simp) _).setCell (p := ⟨w.heap.size + 1, 1, none⟩) (by simp) _
theorem msg_at {cs : Array Value} {w w2 : World} (hb : Below (w.alloc (.cells cs TMs)).drew.heap.size (w.alloc (.cells cs TMs)).drew w2) : w2.heap[w.heap.size]? = some (.cells cs TMs (0, 0)) := by
  have hb' : Below (w.alloc (.cells cs TMs)).heap.size (w.alloc (.cells cs TMs)) w2 := ⟨hb.os, hb.tape, hb.output, hb.size, hb.block⟩
  rw [hb'.block _ (by simp)]; exact heap_alloc_new _ _
set_option maxRecDepth 100000 in
set_option maxHeartbeats 8000000 in
theorem follows_any (k : Int) (r : Bool) (n cd ct : Int) (A : Option Addr) (s c : Nat) (A' : Option Addr) (o c' : Nat) (hs : s ≤ 9223372036854775807) (ho : o ≤ 9223372036854775807) (k0 : 1 ≤ k) (k1 : k ≤ 6) (w : World) :
    Calls Try.prog 28 #[.agg (ms k r n cd ct A s c A' o c')] w fun e w' => e = .returned (.bool (followsB k r cd ct s o)) ∧ Below w.heap.size w w' := by
  have HQ := Lib.hid (fun w => req_any k r n cd ct A s c A' o c' hs ho k0 k1 w)
  have HP := Lib.hid (fun w => rep_any k r n cd ct A s c A' o c' hs ho k0 k1 w)
  have cq := enter_req k
  have cp := enter_rep k
  go_enter Try.func28, Try.ntmps28
  go_wp2_with fail
  go_region_with (first | ((go_at_call 54; (with_reducible refine (rows_any (World.drew (w.alloc (.cells (ms k r n cd ct A s c A' o c') TMs)))).mono ?_); rintro e w2 hT; obtain ⟨ot, rfl, hb, hot, hT⟩ := hT; have TW := Lib.hid (Two.first (fq := reqFn k) (fr := repFn k) hb); have M2 := Lib.hid (msg_at hb); have c0 := cell_of_row w2 _ 0 _ _ _ M2.out; simp only [ms] at c0; have hl := hT w2 hot k k0 k1; have hss : w.heap.size < w2.heap.size := (Array.getElem?_eq_some_iff.1 M2.out).1; have es : (World.drew (w.alloc (.cells (ms k r n cd ct A s c A' o c') TMs))).heap.size = w.heap.size + 1 := (by show (w.alloc _).heap.size = _; simp); have hl2 := hT (w2.alloc (.cells #[.nilFunc, .nilFunc] TRw)) (by rw [heap_alloc_old _ _ (Array.getElem?_eq_some_iff.1 hot).1]; exact hot) k k0 k1; rw [es] at hl hl2; clear hb hot hT es)) | ((go_at_call 54; (with_reducible refine (rows_any (World.drew ((w.alloc (.cells (ms k r n cd ct A s c A' o c') TMs)).alloc (.cells #[.nilFunc, .nilFunc] TRw)))).mono ?_); rintro e w2 hT; obtain ⟨ot, rfl, hb, hot, hT⟩ := hT; have TW := Lib.hid (Two.second (fq := reqFn k) (fr := repFn k) hb); have M2 := Lib.hid (second hb); have c0 := cell_of_row w2 _ 0 _ _ _ M2.out.1; have d0 := cell_of_row w2 _ 0 _ _ _ M2.out.2.1; have d1 := cell_of_row w2 _ 1 _ _ _ M2.out.2.1; have f0 := frozen_of_row w2 _ 0 _ _ M2.out.2.1; have f1 := frozen_of_row w2 _ 1 _ _ M2.out.2.1; simp only [ms] at c0; have hl := hT w2 hot k k0 k1; have hss : w.heap.size < w2.heap.size := (Array.getElem?_eq_some_iff.1 M2.out.1).1; have es : (World.drew ((w.alloc (.cells (ms k r n cd ct A s c A' o c') TMs)).alloc (.cells #[.nilFunc, .nilFunc] TRw))).heap.size = w.heap.size + 2 := (by show ((w.alloc _).alloc _).heap.size = _; simp); rw [es] at hl; clear hb hot hT es)))
  all_goals first | (change Exit.then _ _ _ _ (World.alloc w2 (.cells #[Fv (reqFn k), Fv (repFn k)] TRw)); generalize World.alloc w2 (.cells #[Fv (reqFn k), Fv (repFn k)] TRw) = w3 at TW ⊢) | (change Exit.then _ _ _ _ (World.setCell (World.setCell w2 ⟨w.heap.size + 1, 0, none⟩ (Fv (reqFn k))) ⟨w.heap.size + 1, 1, none⟩ (Fv (repFn k))); generalize World.setCell (World.setCell w2 ⟨w.heap.size + 1, 0, none⟩ (Fv (reqFn k))) ⟨w.heap.size + 1, 1, none⟩ (Fv (repFn k)) = w3 at TW ⊢)
  all_goals
    try clear hl2
    try clear d0 d1 f0 f1
    clear hl c0 M2 hss
    first | (generalize w2.heap.size = x at TW ⊢) | (obtain ⟨x, hx⟩ : ∃ x, x = w.heap.size + 1 := ⟨_, rfl⟩; rw [← hx] at TW ⊢; clear hx)
    have c0 := cell_of_row w3 _ 0 _ _ _ TW.out.msg
    have c1 := cell_of_row w3 _ 1 _ _ _ TW.out.msg
    have c2 := cell_of_row w3 _ 2 _ _ _ TW.out.msg
    have c3 := cell_of_row w3 _ 3 _ _ _ TW.out.msg
    have c4 := cell_of_row w3 _ 4 _ _ _ TW.out.msg
    have c5 := cell_of_row w3 _ 5 _ _ _ TW.out.msg
    have c6 := cell_of_row w3 _ 6 _ _ _ TW.out.msg
    have d0 := cell_of_row w3 _ 0 _ _ _ TW.out.row
    have d1 := cell_of_row w3 _ 1 _ _ _ TW.out.row
    simp only [ms] at c0 c1 c2 c3 c4 c5 c6
    have HB := Lib.hid TW.out.bel
    clear TW
  all_goals
    cases r
    · by_cases hz : cd = 0
      · have z1 : (cd == 0) = true := decide_eq_true hz
        have HV : Hid (followsB k false cd ct s o = reqB k ct s o) := Lib.hid (by unfold followsB; rw [if_neg (by decide), show decide (cd = 0) = true from decide_eq_true hz, Bool.true_and])
        clear hz
        go_wp2_with fail
        ((with_reducible refine (HQ.out _).mono ?_); rintro e w4 ⟨rfl, hb4⟩)
        have HB4 := Lib.hid (HB.out.trans (hb4.mono HB.out.size))
        clear hb4
        go_wp2_with fail
        go_ret
        exact ⟨by rw [HV.out]; rfl, HB4.out⟩
      · have z1 : (cd == 0) = false := decide_eq_false hz
        have HV : Hid (followsB k false cd ct s o = false) := Lib.hid (by unfold followsB; rw [if_neg (by decide), show decide (cd = 0) = false from decide_eq_false hz, Bool.false_and])
        clear hz
        go_wp2
        go_ret
        exact ⟨by rw [HV.out]; rfl, HB.out⟩
    · by_cases hz : cd = 0
      · have z1 : (cd == 0) = true := decide_eq_true hz
        have HV : Hid (followsB k true cd ct s o = repB k ct s o) := Lib.hid (by unfold followsB; rw [if_pos rfl, if_pos hz])
        clear hz
        go_wp2_with fail
        ((with_reducible refine (HP.out _).mono ?_); rintro e w4 ⟨rfl, hb4⟩)
        have HB4 := Lib.hid (HB.out.trans (hb4.mono HB.out.size))
        clear hb4
        go_wp2_with fail
        go_ret
        exact ⟨by rw [HV.out]; rfl, HB4.out⟩
      · have z1 : (cd == 0) = false := decide_eq_false hz
        by_cases g0 : ct = 0
        · have a0 : decide (ct = 0) = true := decide_eq_true g0
          have f0 : (ct == 0) = true := a0
          clear g0
          by_cases g1 : (s : Int) = 0
          · have a1 : decide ((s : Int) = 0) = true := decide_eq_true g1
            have f1 : ((s : Int) == 0) = true := a1
            clear g1
            by_cases g2 : (o : Int) = 0
            · have a2 : decide ((o : Int) = 0) = true := decide_eq_true g2
              have f2 : ((o : Int) == 0) = true := a2
              clear g2
              have HV : Hid (followsB k true cd ct s o = true) := Lib.hid (by unfold followsB; rw [if_pos rfl, if_neg hz]; unfold b1; simp only [a0, a1, a2]; rfl)
              clear hz
              go_wp2
              go_ret
              exact ⟨by rw [HV.out]; rfl, HB.out⟩
            · have a2 : decide ((o : Int) = 0) = false := decide_eq_false g2
              have f2 : ((o : Int) == 0) = false := a2
              clear g2
              have HV : Hid (followsB k true cd ct s o = false) := Lib.hid (by unfold followsB; rw [if_pos rfl, if_neg hz]; unfold b1; simp only [a0, a1, a2]; rfl)
              clear hz
              go_wp2
              go_ret
              exact ⟨by rw [HV.out]; rfl, HB.out⟩
          · have a1 : decide ((s : Int) = 0) = false := decide_eq_false g1
            have f1 : ((s : Int) == 0) = false := a1
            clear g1
            have HV : Hid (followsB k true cd ct s o = false) := Lib.hid (by unfold followsB; rw [if_pos rfl, if_neg hz]; unfold b1; simp only [a0, a1]; rfl)
            clear hz
            go_wp2
            go_ret
            exact ⟨by rw [HV.out]; rfl, HB.out⟩
        · have a0 : decide (ct = 0) = false := decide_eq_false g0
          have f0 : (ct == 0) = false := a0
          clear g0
          have HV : Hid (followsB k true cd ct s o = false) := Lib.hid (by unfold followsB; rw [if_pos rfl, if_neg hz]; unfold b1; simp only [a0]; rfl)
          clear hz
          go_wp2
          go_ret
          exact ⟨by rw [HV.out]; rfl, HB.out⟩
end Go.Proofs.Ytjjcgjpmhhkeaaa.CmH
