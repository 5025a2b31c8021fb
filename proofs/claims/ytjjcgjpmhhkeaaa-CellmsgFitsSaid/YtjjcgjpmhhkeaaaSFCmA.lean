/- cellmsg.among and what it calls; slices.Clone of places. (cut to what is reached: wip/tools/slimout2.py) -/
import Derived.Test.YtjjcgjpmhhkeaaaSFCmS
import Derived.Test.YtjjcgjpmhhkeaaaSFWx
import Derived.Laws.StructEq
import Derived.LoopTactic
import Derived.Deep.QuietTactic
import Derived.BigQuiet
namespace Go.Proofs.Ytjjcgjpmhhkeaaa.CmA
set_option linter.unusedSimpArgs false
set_option linter.unusedVariables false
open Go.RowKit Go.Proofs.Ytjjcgjpmhhkeaaa.CmF Go.Proofs.Ytjjcgjpmhhkeaaa.CmS Go.Proofs.YtjjcgjpmhhkeaaaW.PrintWords
abbrev TP : TypeId := 37
abbrev Pl (p : Int × Int) : Value := .agg #[.int .i64 p.1, .int .i64 p.2]
theorem eqSpot (d : Nat) (w : World) (x0 x1 y0 y1 : Int) :
    (Op.equalIn (d + 2) TP (.agg #[.int .i64 x0, .int .i64 x1]) (.agg #[.int .i64 y0, .int .i64 y1])).run Try.prog w = .ok (x0 == y0 && x1 == y1) w := by
  refine eqA_of Try.underlying37 (by kernel_rfl) ?_
  refine eqf_cons (by rfl) (by go_simp; rfl) (by go_simp; rfl) (by go_simp) ?_
  exact eqf_last (by rfl) (by go_simp; rfl) (by go_simp; rfl) (by go_simp)
attribute [local go_sem high] eqSpot
theorem Sp.len {w : World} {A : Option Addr} {l : List (Int × Int)} (h : Sp w A l) : l.length ≤ 9223372036854775807 := h.2.1
theorem bel_dN (B : Nat) (w : World) (n : Nat) : Below B w (w.drewN n) := ⟨rfl, rfl, rfl, Nat.le_refl _, fun _ _ => rfl⟩
def Idx (l : List (Int × Int)) (p : Int × Int) (w : World) (e : Ending) (w' : World) : Prop := ∃ z : Int, e = .returned (.int .i64 z) ∧ decide (0 ≤ z) = decide (p ∈ l) ∧ Below w.heap.size w w'
set_option maxRecDepth 100000 in
set_option maxHeartbeats 4000000 in
theorem index_any (A : Option Addr) (c : Nat) (l : List (Int × Int)) (p1 p2 : Int) (w : World) (h : Sp w A l) :
    Calls Try.prog 83 #[.slice A l.length c, .agg #[.int .i64 p1, .int .i64 p2]] w (Idx l (p1, p2) w) := by
  have hlen := Sp.len h
  have HH := Lib.hid h
  have HB := Lib.hid ((Below.refl w.heap.size w).alloc (Nat.le_refl _) (.cells #[.int .i64 p1, .int .i64 p2] TP))
  have HP : Hid ((w.alloc (.cells #[.int .i64 p1, .int .i64 p2] TP)).heap[w.heap.size]? = some (.cells #[.int .i64 p1, .int .i64 p2] TP (0, 0))) := Lib.hid (heap_alloc_new _ _)
  clear h
  go_enter Try.func83, Try.ntmps83
  go_wp2
  go_loopw [8] (fun j wr => ∃ i : Nat, i ≤ l.length ∧ j = .int .i64 i ∧ Hid (∀ q, q < i → l.getD q (0, 0) ≠ (p1, p2)) ∧ Hid (Below w.heap.size w wr) ∧ Hid (wr.heap[w.heap.size]? = some (.cells #[.int .i64 p1, .int .i64 p2] TP (0, 0)))) (fun j _ => l.length - (intOf j).toNat)
  case atStart => exact ⟨0, Nat.zero_le _, rfl, Lib.hid (fun q hq => by omega), HB, HP⟩
  case round =>
    clear HB HP
    obtain ⟨i, hi, rfl, HN, HB, HP⟩ := hrel
    by_cases hlt : i < l.length
    · obtain ⟨ad, rfl, x0, x1⟩ := (HH.out.below HB.out).at_ i hlt
      have y0 := cell_of_row wr _ 0 _ _ _ HP.out
      have y1 := cell_of_row wr _ 1 _ _ _ HP.out
      have i0 : ((0 : Int) ≤ (i : Int)) = True := eq_true (by omega)
      have i1 : ((i : Int) < (l.length : Int)) = True := eq_true (by omega)
      obtain ⟨g, hg⟩ : ∃ g, l.getD i (0, 0) = g := ⟨_, rfl⟩
      rw [hg] at x0 x1
      have HG := Lib.hid hg
      clear hg
      obtain ⟨g1, g2⟩ := g
      simp only at x0 x1
      by_cases hq : p1 = g1 ∧ p2 = g2
      · have e1 : (p1 == g1 && p2 == g2) = true := by simp [hq]
        have HQ := Lib.hid hq
        clear hq
        go_wp2_with fail
        go_quiet (fail)
        have HB2 := Lib.hid (HB.out.trans (bel_dN w.heap.size wr nq))
        clear HB HP x0 x1 y0 y1 HH
        generalize World.drewN wr nq = w2 at HB2 ⊢
        go_wp2
        go_ret
        refine ⟨(i : Int), rfl, ?_, HB2.out⟩
        have hmem : (p1, p2) ∈ l := by
          obtain ⟨q1, q2⟩ := HQ.out
          have := HG.out
          rw [← q1, ← q2, List.getD, List.getElem?_eq_getElem hlt] at this
          simp only [Option.getD_some] at this
          rw [← this]; exact List.getElem_mem hlt
        rw [decide_eq_true hmem]; exact decide_eq_true (by omega)
      · have e1 : (p1 == g1 && p2 == g2) = false := by
          rw [Bool.eq_false_iff]; intro h; simp at h; exact hq h
        have HQ := Lib.hid hq
        clear hq
        go_wp2_with fail
        go_quiet (fail)
        have HB2 := Lib.hid (HB.out.trans (bel_dN w.heap.size wr nq))
        have HP2 : Hid ((wr.drewN nq).heap[w.heap.size]? = some (.cells #[.int .i64 p1, .int .i64 p2] TP (0, 0))) := HP
        have HN2 : Hid (∀ q, q < i + 1 → l.getD q (0, 0) ≠ (p1, p2)) := Lib.hid (fun q hq => by
          by_cases hqi : q = i
          · subst hqi; rw [HG.out]; intro e; injection e with e1 e2; exact HQ.out ⟨e1.symm, e2.symm⟩
          · exact HN.out q (by omega))
        clear HB HP HN x0 x1 y0 y1
        generalize World.drewN wr nq = w2 at HB2 HP2 ⊢
        go_wp2
        go_roundw
        case rel => exact ⟨i + 1, by omega, by go_num, HN2, HB2, HP2⟩
        case measure => simp [intOf]; omega
    · obtain rfl : i = l.length := by omega
      go_wp2
      go_ret
      refine ⟨-1, rfl, ?_, HB.out⟩
      have hmem : (p1, p2) ∉ l := by
        intro hm
        obtain ⟨q, hq, e⟩ := List.getElem_of_mem hm
        exact HN.out q hq (by rw [List.getD, List.getElem?_eq_getElem hq]; exact e)
      rw [decide_eq_false hmem]; rfl
set_option maxRecDepth 100000 in
set_option maxHeartbeats 4000000 in
theorem contains_any (A : Option Addr) (c : Nat) (l : List (Int × Int)) (p1 p2 : Int) (b : Bool) (hb : decide ((p1, p2) ∈ l) = b) (w : World) (h : Sp w A l) :
    Calls Try.prog 61 #[.slice A l.length c, .agg #[.int .i64 p1, .int .i64 p2]] w fun e w' => e = .returned (.bool b) ∧ Below w.heap.size w w' := by
  have HB0 := Lib.hid ((Below.refl w.heap.size w).alloc (Nat.le_refl _) (.cells #[.int .i64 p1, .int .i64 p2] TP))
  have HI := Lib.hid (index_any A c l p1 p2 _ (h.below HB0.out))
  have HBB := Lib.hid hb
  clear h hb
  go_enter Try.func61, Try.ntmps61
  go_wp2_with fail
  ((with_reducible refine HI.out.mono ?_); rintro e w1 hI)
  obtain ⟨z, rfl, hz, hb1⟩ := hI
  have HB1 := Lib.hid (HB0.out.trans (hb1.mono (by simp)))
  rw [HBB.out] at hz
  clear hb1
  go_wp2_with fail
  go_ret
  exact ⟨rfl, HB1.out⟩
abbrev Box (w : World) (b : Nat) (A : Option Addr) (l : List (Int × Int)) (c : Nat) : Prop := w.cell? ⟨b, 0, none⟩ = some (.slice A l.length c)
set_option maxRecDepth 100000 in
set_option maxHeartbeats 4000000 in
theorem fn_any (b : Nat) (A : Option Addr) (c : Nat) (l : List (Int × Int)) (p1 p2 : Int) (x : Bool) (hx : decide ((p1, p2) ∈ l) = x) (w : World) (h : Sp w A l) (hb : Box w b A l c) :
    Calls Try.prog 60 #[.agg #[.int .i64 p1, .int .i64 p2], .pointer (some ⟨b, 0, none⟩)] w fun e w' => e = .returned (.bool (!x)) ∧ Below w.heap.size w w' := by
  have HB0 := Lib.hid ((Below.refl w.heap.size w).alloc (Nat.le_refl _) (.cells #[.int .i64 p1, .int .i64 p2] TP))
  have HI := Lib.hid (contains_any A c l p1 p2 x hx _ (h.below HB0.out))
  have hlt : b < w.heap.size := World.block_lt_of_cell? w _ hb
  clear h hx
  go_enter Try.func60, Try.ntmps60
  go_wp2_with fail
  ((with_reducible refine HI.out.mono ?_); rintro e w1 ⟨rfl, hb1⟩)
  have HB1 := Lib.hid (HB0.out.trans (hb1.mono (by simp)))
  clear hb1
  go_wp2_with fail
  go_ret
  exact ⟨rfl, HB1.out⟩
def IdxF (m l : List (Int × Int)) (w : World) (e : Ending) (w' : World) : Prop := ∃ z : Int, e = .returned (.int .i64 z) ∧ decide (0 ≤ z) = !(m.all fun p => decide (p ∈ l)) ∧ Below w.heap.size w w'
abbrev Fb (b : Nat) : Value := .func (.func 60) #[] #[.pointer (some ⟨b, 0, none⟩)]
set_option maxRecDepth 100000 in
set_option maxHeartbeats 4000000 in
theorem indexf_any (b : Nat) (A' : Option Addr) (c' : Nat) (m : List (Int × Int)) (A : Option Addr) (c : Nat) (l : List (Int × Int)) (w : World) (hm : Sp w A' m) (h : Sp w A l) (hb : Box w b A l c) :
    Calls Try.prog 82 #[.slice A' m.length c', Fb b] w (IdxF m l w) := by
  have hlen := Sp.len hm
  have HM := Lib.hid hm
  have HL := Lib.hid h
  have HBX := Lib.hid hb
  have hlt : b < w.heap.size := World.block_lt_of_cell? w _ hb
  clear hm h hb
  go_enter Try.func82, Try.ntmps82
  go_wp2
  go_loopw [8] (fun j wr => ∃ i : Nat, i ≤ m.length ∧ j = .int .i64 i ∧ Hid (∀ q, q < i → m.getD q (0, 0) ∈ l) ∧ Hid (Below w.heap.size w wr)) (fun j _ => m.length - (intOf j).toNat)
  case atStart => exact ⟨0, Nat.zero_le _, rfl, Lib.hid (fun q hq => by omega), Lib.hid (Below.refl _ _)⟩
  case round =>
    obtain ⟨i, hi, rfl, HN, HB⟩ := hrel
    by_cases hli : i < m.length
    · obtain ⟨ad, rfl, x0, x1⟩ := (HM.out.below HB.out).at_ i hli
      obtain ⟨g, hg⟩ : ∃ g, m.getD i (0, 0) = g := ⟨_, rfl⟩
      rw [hg] at x0 x1
      have HG := Lib.hid hg
      clear hg
      obtain ⟨g1, g2⟩ := g
      simp only at x0 x1
      cases hq : decide ((g1, g2) ∈ l)
      · have HQ := Lib.hid hq
        have HC := Lib.hid (fn_any b A c l g1 g2 _ hq wr (HL.out.below HB.out) ((HB.out.cell (p := ⟨b, 0, none⟩) hlt).trans HBX.out))
        clear hq
        go_wp2_with fail
        ((with_reducible refine HC.out.mono ?_); rintro e w1 ⟨rfl, hb1⟩)
        have HB1 := Lib.hid (HB.out.trans (hb1.mono HB.out.size))
        clear hb1 x0 x1 HC
        go_wp2_with fail
        go_ret
        refine ⟨(i : Int), rfl, ?_, HB1.out⟩
        have hnot : (m.all fun p => decide (p ∈ l)) = false := by
          rw [List.all_eq_false]
          refine ⟨(g1, g2), ?_, by rw [HQ.out]; decide⟩
          have := HG.out
          rw [List.getD, List.getElem?_eq_getElem hli] at this
          simp only [Option.getD_some] at this
          rw [← this]; exact List.getElem_mem hli
        rw [hnot]; exact decide_eq_true (by omega)
      · have HQ := Lib.hid hq
        have HC := Lib.hid (fn_any b A c l g1 g2 _ hq wr (HL.out.below HB.out) ((HB.out.cell (p := ⟨b, 0, none⟩) hlt).trans HBX.out))
        clear hq
        go_wp2_with fail
        ((with_reducible refine HC.out.mono ?_); rintro e w1 ⟨rfl, hb1⟩)
        have HB1 := Lib.hid (HB.out.trans (hb1.mono HB.out.size))
        have HN2 : Hid (∀ q, q < i + 1 → m.getD q (0, 0) ∈ l) := Lib.hid (fun q hq => by
          by_cases hqi : q = i
          · subst hqi; rw [HG.out]; exact of_decide_eq_true HQ.out
          · exact HN.out q (by omega))
        clear hb1 x0 x1 HC HN HB
        go_wp2_with fail
        go_roundw
        case rel => exact ⟨i + 1, by omega, by go_num, HN2, HB1⟩
        case measure => simp [intOf]; omega
    · obtain rfl : i = m.length := by omega
      go_wp2
      go_ret
      refine ⟨-1, rfl, ?_, HB.out⟩
      have hall : (m.all fun p => decide (p ∈ l)) = true := by
        rw [List.all_eq_true]
        intro p hp
        obtain ⟨q, hq, e⟩ := List.getElem_of_mem hp
        have := HN.out q hq
        rw [List.getD, List.getElem?_eq_getElem hq] at this
        simp only [Option.getD_some] at this
        rw [e] at this
        exact decide_eq_true this
      rw [hall]; rfl
set_option maxRecDepth 100000 in
set_option maxHeartbeats 4000000 in
theorem containsf_any (b : Nat) (A' : Option Addr) (c' : Nat) (m : List (Int × Int)) (A : Option Addr) (c : Nat) (l : List (Int × Int)) (x : Bool) (hx : (m.all fun p => decide (p ∈ l)) = x) (w : World) (hm : Sp w A' m) (h : Sp w A l) (hb : Box w b A l c) :
    Calls Try.prog 59 #[.slice A' m.length c', Fb b] w fun e w' => e = .returned (.bool (!x)) ∧ Below w.heap.size w w' := by
  have HI := Lib.hid (indexf_any b A' c' m A c l w hm h hb)
  have HX := Lib.hid hx
  clear hm h hb hx
  go_enter Try.func59, Try.ntmps59
  go_wp2_with fail
  ((with_reducible refine HI.out.mono ?_); rintro e w1 hI)
  obtain ⟨z, rfl, hz, hb1⟩ := hI
  rw [HX.out] at hz
  have HB1 := Lib.hid hb1
  clear hb1
  go_wp2_with fail
  go_ret
  exact ⟨rfl, HB1.out⟩
set_option maxRecDepth 100000 in
set_option maxHeartbeats 4000000 in
theorem among_any (A' : Option Addr) (c' : Nat) (m : List (Int × Int)) (A : Option Addr) (c : Nat) (l : List (Int × Int)) (x : Bool) (hx : (m.all fun p => decide (p ∈ l)) = x) (w : World) (hm : Sp w A' m) (h : Sp w A l) :
    Calls Try.prog 40 #[.slice A' m.length c', .slice A l.length c] w fun e w' => e = .returned (.bool x) ∧ Below w.heap.size w w' := by
  have HB0 := Lib.hid ((Below.refl w.heap.size w).alloc (Nat.le_refl _) (.cells #[.slice A l.length c] 22))
  have hbx : Box (w.alloc (.cells #[.slice A l.length c] 22)) w.heap.size A l c := by
    rw [Box, cell_of_row _ _ _ _ _ _ (heap_alloc_new _ _)]; rfl
  have HI := Lib.hid (containsf_any w.heap.size A' c' m A c l x hx _ (hm.below HB0.out) (h.below HB0.out) hbx)
  clear hm h hx hbx
  go_enter Try.func40, Try.ntmps40
  go_wp2_with fail
  ((with_reducible refine HI.out.mono ?_); rintro e w1 ⟨rfl, hb1⟩)
  have HB1 := Lib.hid (HB0.out.trans (hb1.mono (by simp)))
  clear hb1
  cases x
  all_goals
    go_wp2_with fail
    go_ret
    exact ⟨rfl, HB1.out⟩
end Go.Proofs.Ytjjcgjpmhhkeaaa.CmA
