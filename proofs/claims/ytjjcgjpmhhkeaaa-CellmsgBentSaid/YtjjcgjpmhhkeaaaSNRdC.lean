/- bitio.Reader.Close. (cut to what is reached: wip/tools/slimout2.py) -/
import Derived.Test.YtjjcgjpmhhkeaaaSNRd
namespace Go.Proofs.Ytjjcgjpmhhkeaaa.RdC
set_option linter.unusedSimpArgs false
set_option linter.unusedVariables false
open Go.RowKit Go.Proofs.Ytjjcgjpmhhkeaaa.Pack Go.Proofs.Ytjjcgjpmhhkeaaa.WrPut Go.Proofs.Ytjjcgjpmhhkeaaa.Rd
open Go.Proofs.Ytjjcgjpmhhkeaaa.Bytes (Str)
variable {B g i : Nat} {G : List (Nat × Obj)} {w : World} {l : List UInt8} {e : Int}
set_option maxRecDepth 100000 in
set_option maxHeartbeats 1000000 in
theorem ones_any {b0 : Nat} (h : Rd B G w g l i 0) (hb0 : w.cell? ⟨b0, 0, none⟩ = some (.pointer (some ⟨g, 0, none⟩))) (hs : l.length ≤ 65536) (hi : i ≤ 8 * l.length) (n : Nat) (hn : n = 8 * l.length - i) (hl : n < 8) :
    Calls Try.prog 65 #[.pointer (some ⟨b0, 0, none⟩)] w fun r w' => r = .returned (.bool (decide (valN (bitsAt l i n) ≠ 0))) ∧ Below w.heap.size w w' := by
  have hlt := h.lt
  have hb0lt : b0 < w.heap.size := World.block_lt_of_cell? w _ hb0
  have hnew : Rd w.heap.size [] (w.alloc (.cells (TRc l i 0) TR)) w.heap.size l i 0 := ⟨Nat.le_refl _, heap_alloc_new _ _, fun p hp => by cases hp⟩
  have hlft : (leftN l i 0 : Int) = (n : Int) := by simp only [leftN, if_pos]; omega
  have HROW := Lib.hid h.2.1
  have HL := left_any (h.alloc (.cells (TRc l i 0) TR)) hs hi
  rw [hlft] at HL
  have HL := Lib.hid HL
  have HG := Lib.hid (fun k => get_any (Rd.drewN hnew k) hs n (by omega) (by omega))
  have HB := Lib.hid (fun k => bel_drewN w.heap.size (w.alloc (.cells (TRc l i 0) TR)) k)
  have HB0 := Lib.hid ((Below.refl w.heap.size w).alloc (Nat.le_refl _) (.cells (TRc l i 0) TR))
  have hv : (((valN (bitsAt l i n) : Nat) : Int) != 0) = decide (valN (bitsAt l i n) ≠ 0) := by
    rw [Bool.eq_iff_iff]; simp
  generalize decide (valN (bitsAt l i n) ≠ 0) = b at *
  clear h hn hnew hlft hlt
  go_enter Try.func65, Try.ntmps65
  go_wp2_with (first | (refine wpList_load_row rfl TR _ rfl g rfl TR (TRc l i 0) (0, 0) _ HROW.out Try.underlying79 rfl (by kernel_rfl) ?_))
  ((with_reducible refine HL.out.mono ?_); rintro r w1 ⟨rfl, n1, rfl⟩)
  go_wp2_with fail
  ((with_reducible refine (HG.out n1).mono ?_); rintro r w2 ⟨rfl, h2, b2⟩)
  have HB2 := Lib.hid (HB0.out.trans ((HB.out n1).trans b2))
  clear h2 b2 HB HB0 HL HG
  go_wp2_with fail
  go_ret
  exact ⟨rfl, HB2.out⟩
def closeF (l : List UInt8) (i : Nat) (e : Int) : Int := if e = 0 then if 8 ≤ 8 * l.length - i then 10 else if valN (bitsAt l i (8 * l.length - i)) ≠ 0 then 10 else 0 else e
set_option maxRecDepth 100000 in
set_option maxHeartbeats 1000000 in
theorem close_any (h : Rd B G w g l i e) (hs : l.length ≤ 65536) (hi : i ≤ 8 * l.length) :
    Calls Try.prog 48 #[.pointer (some ⟨g, 0, none⟩)] w fun r w' => r = .returned (.int .i64 (closeF l i e)) ∧ Below w.heap.size w w' := by
  unfold closeF
  have hbx := h.alloc (.cells #[.pointer (some ⟨g, 0, none⟩)] 56)
  have hlt := h.lt
  have hBW := (Below.refl w.heap.size w).alloc (Nat.le_refl _) (.cells #[.pointer (some ⟨g, 0, none⟩)] 56)
  have hblk : (w.alloc (.cells #[.pointer (some ⟨g, 0, none⟩)] 56)).heap[w.heap.size]? = some (.cells #[.pointer (some ⟨g, 0, none⟩)] 56 (0, 0)) := heap_alloc_new _ _
  obtain ⟨c0, c1, c2, hf⟩ := Rd.cells hbx
  clear c0 c1 hf
  by_cases he : e = 0
  · subst he
    rw [if_pos rfl]
    obtain ⟨n, hn⟩ : ∃ n, 8 * l.length - i = n := ⟨_, rfl⟩
    have hlft : (leftN l i 0 : Int) = (n : Int) := by simp only [leftN, if_pos]; omega
    have HL := left_any hbx hs hi
    rw [hlft] at HL
    have HL := Lib.hid HL
    have HBX := Lib.hid hbx
    have HBW := Lib.hid hBW
    have HBLK := Lib.hid hblk
    rw [hn]
    by_cases h8 : 8 ≤ n
    · rw [if_pos h8]
      have d8 : decide ((8 : Int) ≤ (n : Int)) = true := decide_eq_true (by omega)
      clear h hbx hBW hblk hn hlft hlt h8
      go_enter Try.func48, Try.ntmps48
      go_wp2_with fail
      ((with_reducible refine HL.out.mono ?_); rintro r w1 ⟨rfl, n1, rfl⟩)
      go_wp2_with fail
      go_ret
      exact ⟨rfl, HBW.out.trans (bel_drewN _ _ _)⟩
    · rw [if_neg h8]
      have d8 : decide ((8 : Int) ≤ (n : Int)) = false := decide_eq_false (by omega)
      have HO : Hid (∀ k, _) := Lib.hid (fun k => ones_any (Rd.drewN hbx k) (b0 := w.heap.size) (by show World.cell? _ _ = _; rw [cell_of_row _ _ _ _ _ _ (show ((w.alloc (.cells #[.pointer (some ⟨g, 0, none⟩)] 56)).drewN k).heap[w.heap.size]? = _ from hblk)]; rfl) hs hi n hn.symm (by omega))
      generalize hb : decide (valN (bitsAt l i n) ≠ 0) = b at HO
      have hr : (if valN (bitsAt l i n) ≠ 0 then (10 : Int) else 0) = if b then 10 else 0 := by
        rw [← hb]; by_cases hz : valN (bitsAt l i n) ≠ 0 <;> simp [hz]
      rw [hr]
      clear h hbx hBW hblk hn hlft hlt h8 hb hr
      cases b
      all_goals
        go_enter Try.func48, Try.ntmps48
        go_wp2_with fail
        ((with_reducible refine HL.out.mono ?_); rintro r w1 ⟨rfl, n1, rfl⟩)
        go_wp2_with fail
        ((with_reducible refine (HO.out n1).mono ?_); rintro r w2 ⟨rfl, b2⟩)
        have HB2 := Lib.hid ((HBW.out.trans (bel_drewN _ _ n1)).trans (b2.mono (by simp)))
        clear b2
        go_wp2_with fail
        go_ret
        exact ⟨rfl, HB2.out⟩
  · have he2 : (e == 0) = false := by simpa using he
    have he3 : (e != 0) = true := by simpa using he
    have HBW := Lib.hid hBW
    rw [if_neg he]
    clear h hbx hblk hlt he hBW
    go_enter Try.func48, Try.ntmps48
    go_wp2_with fail
    go_ret
    exact ⟨rfl, HBW.out⟩
end Go.Proofs.Ytjjcgjpmhhkeaaa.RdC
