/- Both Checks of a message, by hand. (cut to what is reached: wip/tools/slimout2.py) -/
import Derived.Test.YtjjcgjpmhhkeaaaSFCmS
import Derived.Test.YtjjcgjpmhhkeaaaSFCmH
import Derived.Test.YtjjcgjpmhhkeaaaSFCmP
namespace Go.Proofs.Ytjjcgjpmhhkeaaa.CmV
set_option linter.unusedSimpArgs false
set_option linter.unusedVariables false
open Go.RowKit Go.Proofs.Ytjjcgjpmhhkeaaa.CmG Go.Proofs.Ytjjcgjpmhhkeaaa.CmH Go.Proofs.Ytjjcgjpmhhkeaaa.CmF Go.Proofs.Ytjjcgjpmhhkeaaa.CmS Go.Proofs.Ytjjcgjpmhhkeaaa.CmP Go.Proofs.YtjjcgjpmhhkeaaaW.PrintWords Go.Proofs.YtjjcgjpmhhkeaaaW.PrintMore
def unA (p : Int × Int) : Go.Proofs.Ytjjcgjpmhhkeaaa.A.S37 := ⟨p.1, p.2⟩
theorem pr_un (l : List (Int × Int)) : (l.map unA).map pr = l := by
  rw [List.map_map]; exact List.map_id' l
theorem map_C {α β : Type} {d : Kd α} {f : β → α} {w : World} {A : Option Addr} {n : Nat} {xs : List β} (h : d.C w A n (xs.map f)) : (Kd.iso d f).C w A n xs := by
  obtain ⟨h1, h2, h3⟩ := h
  refine ⟨by simpa using h1, h2, fun hn => ?_⟩
  obtain ⟨ad, e, hc⟩ := h3 hn
  refine ⟨ad, e, fun j p hp => hc j (f p) ?_⟩
  rw [List.getElem?_map, hp]; rfl
theorem toA {A : Option Addr} {w : World} {l : List (Int × Int)} (h : Sp w A l) : Kd.C Go.Proofs.Ytjjcgjpmhhkeaaa.A.k37 w A (l.map unA).length (l.map unA) := by
  rw [List.length_map]
  refine map_C (d := kp) (f := pr) ?_
  rw [pr_un]; exact h
theorem spots_any (A : Option Addr) (c : Nat) (l : List (Int × Int)) (w : World) (hl : Sp w A l) (hc : l.length ≤ c) :
    Calls Try.prog 27 #[.slice A l.length c] w fun e w' => e = .returned (.int .i64 (plF l)) ∧ Below w.heap.size w w' := by
  have := Go.Proofs.Ytjjcgjpmhhkeaaa.A.cellmsg_spots.calls (2 * l.length + 1) A c (l.map unA) _ w (toA hl) (by simpa using hc) (spots_f (l.map unA) (by simpa using hl.2.1) _ (by simp))
  simpa only [pr_un, List.length_map] using this
set_option maxRecDepth 100000 in
set_option maxHeartbeats 4000000 in
theorem check_v (k : Int) (r : Bool) (n cd ct : Int) (A : Option Addr) (c : Nat) (A' : Option Addr) (c' : Nat) (l m : List (Int × Int)) (w : World) (hl : Sp w A l) (hc : l.length ≤ c) (hm : Sp w A' m) (hc' : m.length ≤ c') :
    Calls Try.prog 13 #[.agg (ms k r n cd ct A l.length c A' m.length c')] w fun e w' => e = .returned (.int .i64 (chkF k r n cd ct l m)) ∧ Below w.heap.size w w' := by
  have hls := hl.2.1
  have hms := hm.2.1
  have HL := Lib.hid hl
  have HM := Lib.hid hm
  have HB : Hid (Below w.heap.size w (w.alloc (.cells (ms k r n cd ct A l.length c A' m.length c') TMs))) := Lib.hid ((Below.refl _ _).alloc (Nat.le_refl _) _)
  clear hl hm
  by_cases g0 : 1 ≤ k ∧ k ≤ 6
  case neg =>
    have HV : Hid (chkF k r n cd ct l m = 1) := Lib.hid (by unfold chkF; rw [if_pos (by omega)])
    go_enter Try.func13, Try.ntmps13
    go_wp2
    all_goals first
      | (exfalso; simp at *; omega)
      | exact bodyPost_ret (results_tmp (t := 2) rfl _ _ _) rfl ⟨congrArg (fun c : Int => Ending.returned (Value.int .i64 c)) HV.out.symm, HB.out⟩
  case pos =>
  have a0 : decide (k < 1) = false := decide_eq_false (by omega)
  have a1 : decide (k > 6) = false := decide_eq_false (by omega)
  by_cases g1 : 0 ≤ n ∧ n ≤ 255 ∧ 0 ≤ cd ∧ cd ≤ 3 ∧ 0 ≤ ct ∧ ct ≤ 512
  case neg =>
    have HV : Hid (chkF k r n cd ct l m = 2) := Lib.hid (by unfold chkF; rw [if_neg (by omega), if_pos (by omega)])
    go_enter Try.func13, Try.ntmps13
    go_wp2
    all_goals first
      | (exfalso; simp at *; omega)
      | exact bodyPost_ret (results_tmp (t := 2) rfl _ _ _) rfl ⟨congrArg (fun c : Int => Ending.returned (Value.int .i64 c)) HV.out.symm, HB.out⟩
  case pos =>
  have a2 : decide (n < 0) = false := decide_eq_false (by omega)
  have a3 : decide (n > 255) = false := decide_eq_false (by omega)
  have a4 : decide (cd < 0) = false := decide_eq_false (by omega)
  have a5 : decide (cd > 3) = false := decide_eq_false (by omega)
  have a6 : decide (ct < 0) = false := decide_eq_false (by omega)
  have a7 : decide (ct > 512) = false := decide_eq_false (by omega)
  by_cases g2 : l.length ≤ 8 ∧ m.length ≤ 8
  case neg =>
    have HV : Hid (chkF k r n cd ct l m = 8) := Lib.hid (by unfold chkF; rw [if_neg (by omega), if_neg (by omega), if_pos (by omega)])
    go_enter Try.func13, Try.ntmps13
    go_wp2
    all_goals first
      | (exfalso; simp at *; omega)
      | exact bodyPost_ret (results_tmp (t := 2) rfl _ _ _) rfl ⟨congrArg (fun c : Int => Ending.returned (Value.int .i64 c)) HV.out.symm, HB.out⟩
  case pos =>
  have a8 : decide ((l.length : Int) > 8) = false := decide_eq_false (by omega)
  have a9 : decide ((m.length : Int) > 8) = false := decide_eq_false (by omega)
  have HV : Hid (chkF k r n cd ct l m = if plF l ≠ 0 then plF l else if plF m ≠ 0 then plF m else if followsB k r cd ct l.length m.length = true then 0 else 11) := Lib.hid (by unfold chkF; rw [if_neg (by omega), if_neg (by omega), if_neg (by omega)])
  generalize hx : plF l = x at HV
  generalize hy : plF m = y at HV
  have HX := Lib.hid hx
  have HY := Lib.hid hy
  clear hx hy
  have hw0 : (w.alloc (.cells (ms k r n cd ct A l.length c A' m.length c') TMs)).heap[w.heap.size]? = some (.cells (ms k r n cd ct A l.length c A' m.length c') TMs (0, 0)) := heap_alloc_new _ _
  have HW0 := Lib.hid hw0
  clear hw0
  go_enter Try.func13, Try.ntmps13
  go_wp2_with fail
  refine (spots_any A c l _ (HL.out.below HB.out) hc).mono ?_
  rintro e w1 ⟨rfl, hb1⟩
  have HB1 := Lib.hid (HB.out.trans (hb1.mono HB.out.size))
  have hw1 : w1.heap[w.heap.size]? = some (.cells (ms k r n cd ct A l.length c A' m.length c') TMs (0, 0)) := by rw [hb1.block _ (by simp)]; exact HW0.out
  have e5 := (cell_of_row w1 _ 5 _ _ _ hw1).trans rfl
  have e6 : w1.cell? ⟨w.heap.size, 6, none⟩ = some (.slice A' m.length c') := (cell_of_row w1 _ 6 _ _ _ hw1).trans rfl
  have hlt1 : w.heap.size < w1.heap.size := (Array.getElem?_eq_some_iff.1 hw1).1
  have HW1 := Lib.hid hw1
  clear hb1 hw1 HB HW0 e5
  rw [HX.out]
  by_cases x0 : x = 0
  case neg =>
    have x1 : (x != 0) = true := by simpa using x0
    have x2 : (x == 0) = false := by simpa using x0
    have HV2 : Hid (chkF k r n cd ct l m = x) := Lib.hid (by rw [HV.out, if_pos x0])
    clear x0 HV
    go_wp2_with fail
    exact bodyPost_ret (results_tmp (t := 2) rfl _ _ _) rfl ⟨congrArg (fun c : Int => Ending.returned (Value.int .i64 c)) HV2.out.symm, HB1.out⟩
  case pos =>
  subst x0
  go_wp2_with fail
  refine (spots_any A' c' m _ (HM.out.below HB1.out) hc').mono ?_
  rintro e w2 ⟨rfl, hb2⟩
  have HB2 := Lib.hid (HB1.out.trans (hb2.mono HB1.out.size))
  have hw2 : w2.heap[w.heap.size]? = some (.cells (ms k r n cd ct A l.length c A' m.length c') TMs (0, 0)) := by rw [hb2.block _ hlt1]; exact HW1.out
  have HW2 := Lib.hid hw2
  have hlt2 : w.heap.size < w2.heap.size := (Array.getElem?_eq_some_iff.1 hw2).1
  clear hb2 hw2 HB1 HW1 e6 hlt1
  rw [HY.out]
  by_cases y0 : y = 0
  case neg =>
    have y1 : (y != 0) = true := by simpa using y0
    have y2 : (y == 0) = false := by simpa using y0
    have HV2 : Hid (chkF k r n cd ct l m = y) := Lib.hid (by rw [HV.out, if_neg (by simp), if_pos y0])
    clear y0 HV
    go_wp2_with fail
    exact bodyPost_ret (results_tmp (t := 2) rfl _ _ _) rfl ⟨congrArg (fun c : Int => Ending.returned (Value.int .i64 c)) HV2.out.symm, HB2.out⟩
  case pos =>
  subst y0
  go_wp2_with ((refine wpList_load_row rfl TMs _ rfl w.heap.size rfl TMs (ms k r n cd ct A l.length c A' m.length c') (0, 0) _ HW2.out Try.underlying24 rfl (by kernel_rfl) ?_))
  refine (follows_any k r n cd ct A l.length c A' m.length c' hls hms g0.1 g0.2 _).mono ?_
  rintro e w3 ⟨rfl, hb3⟩
  have HB3 := Lib.hid (HB2.out.trans (hb3.mono HB2.out.size))
  clear hb3 HB2 HW2 hlt2
  cases gf : followsB k r cd ct l.length m.length
  · have HV2 : Hid (chkF k r n cd ct l m = 11) := Lib.hid (by rw [HV.out, gf]; rfl)
    clear HV gf
    go_wp2_with fail
    exact bodyPost_ret (results_tmp (t := 2) rfl _ _ _) rfl ⟨congrArg (fun c : Int => Ending.returned (Value.int .i64 c)) HV2.out.symm, HB3.out⟩
  · have HV2 : Hid (chkF k r n cd ct l m = 0) := Lib.hid (by rw [HV.out, gf]; rfl)
    clear HV gf
    go_wp2_with fail
    exact bodyPost_ret (results_tmp (t := 2) rfl _ _ _) rfl ⟨congrArg (fun c : Int => Ending.returned (Value.int .i64 c)) HV2.out.symm, HB3.out⟩
end Go.Proofs.Ytjjcgjpmhhkeaaa.CmV
