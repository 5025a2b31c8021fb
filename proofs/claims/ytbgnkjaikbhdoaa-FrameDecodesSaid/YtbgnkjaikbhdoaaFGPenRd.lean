/- frame.pen.data, beacon, message and frame, reading. Printed by wip/penr.py. (cut to what is reached: wip/tools/slimout2.py) -/
import Derived.Test.YtbgnkjaikbhdoaaFGPenR
import Derived.Test.YtbgnkjaikbhdoaaFGFrA
import Derived.StillTailTactics
namespace Go.Proofs.Ytbgnkjaikbhdoaa.PenRd
set_option linter.unusedSimpArgs false
set_option linter.unusedVariables false
open Go.RowKit Go.Proofs.Ytbgnkjaikbhdoaa.Pack Go.Proofs.Ytbgnkjaikbhdoaa.WrPut Go.Proofs.Ytbgnkjaikbhdoaa.Rd Go.Proofs.Ytbgnkjaikbhdoaa.RdC Go.Proofs.Ytbgnkjaikbhdoaa.RdT Go.Proofs.Ytbgnkjaikbhdoaa.PenF Go.Proofs.Ytbgnkjaikbhdoaa.PenR
open Go.Proofs.Ytbgnkjaikbhdoaa.Bytes (Str)
open Go.Proofs.Ytbgnkjaikbhdoaa.FrA (fr)
variable {B g gf i : Nat} {G : List (Nat × Obj)} {w : World} {l : List UInt8} {e : Int} {cs : Array Value}
theorem unsigned_e (h : Rf B G w g l i e gf cs) (hs : l.length ≤ 65536) (hi : i ≤ 8 * l.length) (k : Nat) (kI : Int) (hkI : (k : Int) = kI) (h1 : 1 ≤ k) (hk : k ≤ 62) {v i' : Nat} {e' : Int} (hr : rdf l k i e = (v, i', e')) {j : Nat} {x : Value} (hj : cs[j]? = some x) (cs' : Array Value) (hc : cs.setIfInBounds j (.int .i64 (v : Int)) = cs') :
    Calls Try.prog 61 #[Pr g, .int .i64 kI, .pointer (some ⟨gf, j, none⟩)] w fun r w' => r = .returned (.tuple #[]) ∧ Rf B G w' g l i' e' gf cs' ∧ Below B w w' := by
  subst hkI
  have := unsigned_r h hs hi k h1 hk hj cs' (by rw [hr]; exact hc)
  rw [hr] at this; exact this
theorem text_e (h : Rf B G w g l i e gf cs) (hs : l.length ≤ 65536) (hi : i ≤ 8 * l.length) {d : List UInt8} {i' : Nat} {e' : Int} (hr : rdText l i e = (d, i', e')) {j : Nat} {x : Value} (hj : cs[j]? = some x) (cs' : Array Value) (hc : cs.setIfInBounds j (.string (Str d)) = cs') :
    Calls Try.prog 82 #[Pr g, .pointer (some ⟨gf, j, none⟩)] w fun r w' => r = .returned (.tuple #[]) ∧ Rf B G w' g l i' e' gf cs' ∧ Below B w w' := by
  have := text_r h hs hi hj cs' (by rw [hr]; exact hc)
  rw [hr] at this; exact this
theorem target_e (h : Rf B G w g l i e gf cs) (hs : l.length ≤ 65536) (hi : i ≤ 8 * l.length) {t : Int} {i' : Nat} {e' : Int} (hr : rdTg l i e = (t, i', e')) {x : Int} (hj : cs[2]? = some (.int .i64 x)) (cs' : Array Value) (hc : cs.setIfInBounds 2 (.int .i64 t) = cs') :
    Calls Try.prog 62 #[Pr g, .pointer (some ⟨gf, 2, none⟩)] w fun r w' => r = .returned (.tuple #[]) ∧ Rf B G w' g l i' e' gf cs' ∧ Below B w w' := by
  have := target_r h hs hi hj cs' (by rw [hr]; exact hc)
  rw [hr] at this; exact this
theorem ack_e (h : Rf B G w g l i e gf cs) (hs : l.length ≤ 65536) (hi : i ≤ 8 * l.length) {t : Int} (ht : rdS l i e = t) {v i' : Nat} {e' : Int} (hr : rdf l 16 i e = (v, i', e')) {x : Value} (hj : cs[7]? = some x) (cs' : Array Value) (hc : cs.setIfInBounds 7 (.int .i64 t) = cs') :
    Calls Try.prog 58 #[Pr g, .pointer (some ⟨gf, 0, none⟩)] w fun r w' => r = .returned (.tuple #[]) ∧ Rf B G w' g l i' e' gf cs' ∧ Below B w w' := by
  have := ack_r h hs hi hj cs' (by rw [ht]; exact hc)
  rw [hr] at this; exact this
theorem le_of {k v i' : Nat} {e' : Int} (hr : rdf l k i e = (v, i', e')) (hi : i ≤ 8 * l.length) : i' ≤ 8 * l.length := by
  have := rdf_le l k i e hi; rwa [hr] at this
theorem leT_of {d : List UInt8} {i' : Nat} {e' : Int} (hr : rdText l i e = (d, i', e')) (hi : i ≤ 8 * l.length) : i' ≤ 8 * l.length := by
  have := rdText_le l i e hi; rwa [hr] at this
theorem leG_of {t : Int} {i' : Nat} {e' : Int} (hr : rdTg l i e = (t, i', e')) (hi : i ≤ 8 * l.length) : i' ≤ 8 * l.length := by
  have := rdTg_le l i e hi; rwa [hr] at this
theorem Rf.drew (h : Rf B G w g l i e gf cs) : Rf B G w.drew g l i e gf cs := h
theorem Rf.below {w' : World} (h : Rf B G w g l i e gf cs) (hb : Below w.heap.size w w') : Rf B G w' g l i e gf cs := ⟨h.1.below hb, h.2⟩
theorem Rf.addG {mb : Nat} {o : Obj} (h : Rf B G w g l i e gf cs) (ho : w.heap[mb]? = some o) (h1 : mb ≠ g) (h2 : mb ≠ gf) : Rf B ((mb, o) :: G) w g l i e gf cs := by
  obtain ⟨⟨a, b, c⟩, d, f⟩ := h
  refine ⟨⟨a, b, fun p hp => ?_⟩, d, fun p hp => ?_⟩
  · rcases List.mem_cons.1 hp with rfl | hp
    · exact c _ (.head _)
    · rcases List.mem_cons.1 hp with rfl | hp
      · exact ⟨ho, h1⟩
      · exact c _ (.tail _ hp)
  · rcases List.mem_cons.1 hp with rfl | hp
    · exact h2
    · exact f p hp
theorem Rf.boxAt {pb : Nat} (h : Rf B G w g l i e gf cs) (hp : (pb, Br g) ∈ G) : w.cell? ⟨pb, 0, none⟩ = some (.pointer none) ∧ w.cell? ⟨pb, 1, none⟩ = some (.pointer (some ⟨g, 0, none⟩)) :=
  ⟨(h.1.cellG (.tail _ hp) rfl).1, (h.1.cellG (.tail _ hp) rfl).1⟩
set_option maxRecDepth 100000 in
set_option maxHeartbeats 8000000 in
theorem data_r {k s t a q : Int} (h : Rf B G w g l i e gf (fr (k) (s) (t) (a) (q) 0 0 0 0 0 0 [])) (hs : l.length ≤ 65536) (hi : i ≤ 8 * l.length) {x i1 : Nat} {e1 : Int} (h1 : rdf l 8 i e = (x, i1, e1)) {y i2 : Nat} {e2 : Int} (h2 : rdf l 16 i1 e1 = (y, i2, e2)) {d : List UInt8} {i3 : Nat} {e3 : Int} (h3 : rdText l i2 e2 = (d, i3, e3)) :
    Calls Try.prog 57 #[Pr g, .pointer (some ⟨gf, 0, none⟩)] w fun r w' => r = .returned (.tuple #[]) ∧ Rf B G w' g l i3 e3 gf (fr (k) (s) (t) (a) (q) ((x : Int)) ((y : Int)) 0 0 0 0 (d)) ∧ Below B w w' := by
  have L0 := Lib.hid hi
  have L1 := Lib.hid (le_of h1 L0.out)
  have H1 := Lib.hid h1
  have L2 := Lib.hid (le_of h2 L1.out)
  have H2 := Lib.hid h2
  have L3 := Lib.hid (leT_of h3 L2.out)
  have H3 := Lib.hid h3
  have HW := Lib.hid (h.alloc (Br g))
  have HB := Lib.hid (boxB h (Br g))
  clear h hi h1 h2 h3
  go_enter Try.func57, Try.ntmps57
  obtain ⟨w1, hw1⟩ : ∃ w1, w1 = w.alloc (Br g) := ⟨_, rfl⟩
  rw [← hw1] at HW HB
  go_wp2_with fail
  rw [← hw1]
  clear hw1
  have p0 := (Rf.boxAt HW.out (pb := w.heap.size) (.head _)).1
  have p1 := (Rf.boxAt HW.out (pb := w.heap.size) (.head _)).2
  refine wp_region_still_tail 4 (by kernel_rfl) (by kernel_rfl) ?_
  simp only [List.take_succ_cons, List.take_zero, List.drop_succ_cons, List.drop_zero]
  change wpStill _ _ (World.drew w1) (fun a' => wpList _ _ _ _ a' (World.drew w1)) _ _
  have s0 : (World.drew w1).cell? ⟨w.heap.size, 0, none⟩ = some (.pointer none) := p0
  have s1 : (World.drew w1).cell? ⟨w.heap.size, 1, none⟩ = some (.pointer (some ⟨g, 0, none⟩)) := p1
  have HWd := Lib.hid (Rf.drew HW.out)
  have HBd := Lib.hid (below_drew' HB.out)
  clear p0 p1 HW HB
  generalize World.drew w1 = wa0 at s0 s1 HWd HBd ⊢
  repeat still_step
  refine wpStill_nil ?_
  clear s0 s1
  go_wp2_with fail
  ((with_reducible refine (unsigned_e HWd.out hs L0.out 8 8 rfl (by omega) (by omega) H1.out (j := 5) rfl (fr (k) (s) (t) (a) (q) ((x : Int)) 0 0 0 0 0 []) rfl).mono ?_); rintro r wb0 ⟨rfl, h3, b3⟩)
  have HW := Lib.hid h3
  have HB := Lib.hid (HBd.out.trans b3)
  clear h3 b3 HWd HBd
  have p0 := (Rf.boxAt HW.out (pb := w.heap.size) (.head _)).1
  have p1 := (Rf.boxAt HW.out (pb := w.heap.size) (.head _)).2
  go_wp2_with fail
  refine wp_region_still_tail 4 (by kernel_rfl) (by kernel_rfl) ?_
  simp only [List.take_succ_cons, List.take_zero, List.drop_succ_cons, List.drop_zero]
  change wpStill _ _ (World.drew wb0) (fun a' => wpList _ _ _ _ a' (World.drew wb0)) _ _
  have s0 : (World.drew wb0).cell? ⟨w.heap.size, 0, none⟩ = some (.pointer none) := p0
  have s1 : (World.drew wb0).cell? ⟨w.heap.size, 1, none⟩ = some (.pointer (some ⟨g, 0, none⟩)) := p1
  have HWd := Lib.hid (Rf.drew HW.out)
  have HBd := Lib.hid (below_drew' HB.out)
  clear p0 p1 HW HB
  generalize World.drew wb0 = wa1 at s0 s1 HWd HBd ⊢
  repeat still_step
  refine wpStill_nil ?_
  clear s0 s1
  go_wp2_with fail
  ((with_reducible refine (unsigned_e HWd.out hs L1.out 16 16 rfl (by omega) (by omega) H2.out (j := 6) rfl (fr (k) (s) (t) (a) (q) ((x : Int)) ((y : Int)) 0 0 0 0 []) rfl).mono ?_); rintro r wb1 ⟨rfl, h3, b3⟩)
  have HW := Lib.hid h3
  have HB := Lib.hid (HBd.out.trans b3)
  clear h3 b3 HWd HBd
  have p0 := (Rf.boxAt HW.out (pb := w.heap.size) (.head _)).1
  have p1 := (Rf.boxAt HW.out (pb := w.heap.size) (.head _)).2
  go_wp2_with fail
  refine wp_region_still_tail 4 (by kernel_rfl) (by kernel_rfl) ?_
  simp only [List.take_succ_cons, List.take_zero, List.drop_succ_cons, List.drop_zero]
  change wpStill _ _ (World.drew wb1) (fun a' => wpList _ _ _ _ a' (World.drew wb1)) _ _
  have s0 : (World.drew wb1).cell? ⟨w.heap.size, 0, none⟩ = some (.pointer none) := p0
  have s1 : (World.drew wb1).cell? ⟨w.heap.size, 1, none⟩ = some (.pointer (some ⟨g, 0, none⟩)) := p1
  have HWd := Lib.hid (Rf.drew HW.out)
  have HBd := Lib.hid (below_drew' HB.out)
  clear p0 p1 HW HB
  generalize World.drew wb1 = wa2 at s0 s1 HWd HBd ⊢
  repeat still_step
  refine wpStill_nil ?_
  clear s0 s1
  go_wp2_with fail
  ((with_reducible refine (text_e HWd.out hs L2.out H3.out (j := 11) rfl (fr (k) (s) (t) (a) (q) ((x : Int)) ((y : Int)) 0 0 0 0 (d)) rfl).mono ?_); rintro r wb2 ⟨rfl, h3, b3⟩)
  have HW := Lib.hid h3
  have HB := Lib.hid (HBd.out.trans b3)
  clear h3 b3 HWd HBd
  go_wp2_with fail
  go_end0
  exact ⟨rfl, HW.out.drop, HB.out⟩
set_option maxRecDepth 100000 in
set_option maxHeartbeats 8000000 in
theorem beacon_r {k s t a q : Int} (h : Rf B G w g l i e gf (fr (k) (s) (t) (a) (q) 0 0 0 0 0 0 [])) (hs : l.length ≤ 65536) (hi : i ≤ 8 * l.length) {sl i1 : Nat} {e1 : Int} (h1 : rdf l 27 i e = (sl, i1, e1)) {rk i2 : Nat} {e2 : Int} (h2 : rdf l 16 i1 e1 = (rk, i2, e2)) {ep i3 : Nat} {e3 : Int} (h3 : rdf l 16 i2 e2 = (ep, i3, e3)) {d : List UInt8} {i4 : Nat} {e4 : Int} (h4 : rdText l i3 e3 = (d, i4, e4)) :
    Calls Try.prog 59 #[Pr g, .pointer (some ⟨gf, 0, none⟩)] w fun r w' => r = .returned (.tuple #[]) ∧ Rf B G w' g l i4 e4 gf (fr (k) (s) (t) (a) (q) 0 0 0 ((sl : Int)) ((rk : Int)) ((ep : Int)) (d)) ∧ Below B w w' := by
  have L0 := Lib.hid hi
  have L1 := Lib.hid (le_of h1 L0.out)
  have H1 := Lib.hid h1
  have L2 := Lib.hid (le_of h2 L1.out)
  have H2 := Lib.hid h2
  have L3 := Lib.hid (le_of h3 L2.out)
  have H3 := Lib.hid h3
  have L4 := Lib.hid (leT_of h4 L3.out)
  have H4 := Lib.hid h4
  have HW := Lib.hid (h.alloc (Br g))
  have HB := Lib.hid (boxB h (Br g))
  clear h hi h1 h2 h3 h4
  go_enter Try.func59, Try.ntmps59
  obtain ⟨w1, hw1⟩ : ∃ w1, w1 = w.alloc (Br g) := ⟨_, rfl⟩
  rw [← hw1] at HW HB
  go_wp2_with fail
  rw [← hw1]
  clear hw1
  have p0 := (Rf.boxAt HW.out (pb := w.heap.size) (.head _)).1
  have p1 := (Rf.boxAt HW.out (pb := w.heap.size) (.head _)).2
  refine wp_region_still_tail 4 (by kernel_rfl) (by kernel_rfl) ?_
  simp only [List.take_succ_cons, List.take_zero, List.drop_succ_cons, List.drop_zero]
  change wpStill _ _ (World.drew w1) (fun a' => wpList _ _ _ _ a' (World.drew w1)) _ _
  have s0 : (World.drew w1).cell? ⟨w.heap.size, 0, none⟩ = some (.pointer none) := p0
  have s1 : (World.drew w1).cell? ⟨w.heap.size, 1, none⟩ = some (.pointer (some ⟨g, 0, none⟩)) := p1
  have HWd := Lib.hid (Rf.drew HW.out)
  have HBd := Lib.hid (below_drew' HB.out)
  clear p0 p1 HW HB
  generalize World.drew w1 = wa0 at s0 s1 HWd HBd ⊢
  repeat still_step
  refine wpStill_nil ?_
  clear s0 s1
  go_wp2_with fail
  ((with_reducible refine (unsigned_e HWd.out hs L0.out 27 27 rfl (by omega) (by omega) H1.out (j := 8) rfl (fr (k) (s) (t) (a) (q) 0 0 0 ((sl : Int)) 0 0 []) rfl).mono ?_); rintro r wb0 ⟨rfl, h3, b3⟩)
  have HW := Lib.hid h3
  have HB := Lib.hid (HBd.out.trans b3)
  clear h3 b3 HWd HBd
  have p0 := (Rf.boxAt HW.out (pb := w.heap.size) (.head _)).1
  have p1 := (Rf.boxAt HW.out (pb := w.heap.size) (.head _)).2
  go_wp2_with fail
  refine wp_region_still_tail 4 (by kernel_rfl) (by kernel_rfl) ?_
  simp only [List.take_succ_cons, List.take_zero, List.drop_succ_cons, List.drop_zero]
  change wpStill _ _ (World.drew wb0) (fun a' => wpList _ _ _ _ a' (World.drew wb0)) _ _
  have s0 : (World.drew wb0).cell? ⟨w.heap.size, 0, none⟩ = some (.pointer none) := p0
  have s1 : (World.drew wb0).cell? ⟨w.heap.size, 1, none⟩ = some (.pointer (some ⟨g, 0, none⟩)) := p1
  have HWd := Lib.hid (Rf.drew HW.out)
  have HBd := Lib.hid (below_drew' HB.out)
  clear p0 p1 HW HB
  generalize World.drew wb0 = wa1 at s0 s1 HWd HBd ⊢
  repeat still_step
  refine wpStill_nil ?_
  clear s0 s1
  go_wp2_with fail
  ((with_reducible refine (unsigned_e HWd.out hs L1.out 16 16 rfl (by omega) (by omega) H2.out (j := 9) rfl (fr (k) (s) (t) (a) (q) 0 0 0 ((sl : Int)) ((rk : Int)) 0 []) rfl).mono ?_); rintro r wb1 ⟨rfl, h3, b3⟩)
  have HW := Lib.hid h3
  have HB := Lib.hid (HBd.out.trans b3)
  clear h3 b3 HWd HBd
  have p0 := (Rf.boxAt HW.out (pb := w.heap.size) (.head _)).1
  have p1 := (Rf.boxAt HW.out (pb := w.heap.size) (.head _)).2
  go_wp2_with fail
  refine wp_region_still_tail 4 (by kernel_rfl) (by kernel_rfl) ?_
  simp only [List.take_succ_cons, List.take_zero, List.drop_succ_cons, List.drop_zero]
  change wpStill _ _ (World.drew wb1) (fun a' => wpList _ _ _ _ a' (World.drew wb1)) _ _
  have s0 : (World.drew wb1).cell? ⟨w.heap.size, 0, none⟩ = some (.pointer none) := p0
  have s1 : (World.drew wb1).cell? ⟨w.heap.size, 1, none⟩ = some (.pointer (some ⟨g, 0, none⟩)) := p1
  have HWd := Lib.hid (Rf.drew HW.out)
  have HBd := Lib.hid (below_drew' HB.out)
  clear p0 p1 HW HB
  generalize World.drew wb1 = wa2 at s0 s1 HWd HBd ⊢
  repeat still_step
  refine wpStill_nil ?_
  clear s0 s1
  go_wp2_with fail
  ((with_reducible refine (unsigned_e HWd.out hs L2.out 16 16 rfl (by omega) (by omega) H3.out (j := 10) rfl (fr (k) (s) (t) (a) (q) 0 0 0 ((sl : Int)) ((rk : Int)) ((ep : Int)) []) rfl).mono ?_); rintro r wb2 ⟨rfl, h3, b3⟩)
  have HW := Lib.hid h3
  have HB := Lib.hid (HBd.out.trans b3)
  clear h3 b3 HWd HBd
  have p0 := (Rf.boxAt HW.out (pb := w.heap.size) (.head _)).1
  have p1 := (Rf.boxAt HW.out (pb := w.heap.size) (.head _)).2
  go_wp2_with fail
  refine wp_region_still_tail 4 (by kernel_rfl) (by kernel_rfl) ?_
  simp only [List.take_succ_cons, List.take_zero, List.drop_succ_cons, List.drop_zero]
  change wpStill _ _ (World.drew wb2) (fun a' => wpList _ _ _ _ a' (World.drew wb2)) _ _
  have s0 : (World.drew wb2).cell? ⟨w.heap.size, 0, none⟩ = some (.pointer none) := p0
  have s1 : (World.drew wb2).cell? ⟨w.heap.size, 1, none⟩ = some (.pointer (some ⟨g, 0, none⟩)) := p1
  have HWd := Lib.hid (Rf.drew HW.out)
  have HBd := Lib.hid (below_drew' HB.out)
  clear p0 p1 HW HB
  generalize World.drew wb2 = wa3 at s0 s1 HWd HBd ⊢
  repeat still_step
  refine wpStill_nil ?_
  clear s0 s1
  go_wp2_with fail
  ((with_reducible refine (text_e HWd.out hs L3.out H4.out (j := 11) rfl (fr (k) (s) (t) (a) (q) 0 0 0 ((sl : Int)) ((rk : Int)) ((ep : Int)) (d)) rfl).mono ?_); rintro r wb3 ⟨rfl, h3, b3⟩)
  have HW := Lib.hid h3
  have HB := Lib.hid (HBd.out.trans b3)
  clear h3 b3 HWd HBd
  go_wp2_with fail
  go_end0
  exact ⟨rfl, HW.out.drop, HB.out⟩
set_option maxRecDepth 100000 in
set_option maxHeartbeats 8000000 in
theorem message_r {k s t a q : Int} (h : Rf B G w g l i e gf (fr (k) (s) (t) (a) (q) 0 0 0 0 0 0 [])) (hs : l.length ≤ 65536) (hi : i ≤ 8 * l.length) {d : List UInt8} {i1 : Nat} {e1 : Int} (h1 : rdText l i e = (d, i1, e1)) :
    Calls Try.prog 60 #[Pr g, .pointer (some ⟨gf, 0, none⟩)] w fun r w' => r = .returned (.tuple #[]) ∧ Rf B G w' g l i1 e1 gf (fr (k) (s) (t) (a) (q) 0 0 0 0 0 0 (d)) ∧ Below B w w' := by
  have L0 := Lib.hid hi
  have L1 := Lib.hid (leT_of h1 L0.out)
  have H1 := Lib.hid h1
  have HW := Lib.hid (h.alloc (Br g))
  have HB := Lib.hid (boxB h (Br g))
  clear h hi h1
  go_enter Try.func60, Try.ntmps60
  obtain ⟨w1, hw1⟩ : ∃ w1, w1 = w.alloc (Br g) := ⟨_, rfl⟩
  rw [← hw1] at HW HB
  go_wp2_with fail
  rw [← hw1]
  clear hw1
  have p0 := (Rf.boxAt HW.out (pb := w.heap.size) (.head _)).1
  have p1 := (Rf.boxAt HW.out (pb := w.heap.size) (.head _)).2
  refine wp_region_still_tail 4 (by kernel_rfl) (by kernel_rfl) ?_
  simp only [List.take_succ_cons, List.take_zero, List.drop_succ_cons, List.drop_zero]
  change wpStill _ _ (World.drew w1) (fun a' => wpList _ _ _ _ a' (World.drew w1)) _ _
  have s0 : (World.drew w1).cell? ⟨w.heap.size, 0, none⟩ = some (.pointer none) := p0
  have s1 : (World.drew w1).cell? ⟨w.heap.size, 1, none⟩ = some (.pointer (some ⟨g, 0, none⟩)) := p1
  have HWd := Lib.hid (Rf.drew HW.out)
  have HBd := Lib.hid (below_drew' HB.out)
  clear p0 p1 HW HB
  generalize World.drew w1 = wa0 at s0 s1 HWd HBd ⊢
  repeat still_step
  refine wpStill_nil ?_
  clear s0 s1
  go_wp2_with fail
  ((with_reducible refine (text_e HWd.out hs L0.out H1.out (j := 11) rfl (fr (k) (s) (t) (a) (q) 0 0 0 0 0 0 (d)) rfl).mono ?_); rintro r wb0 ⟨rfl, h3, b3⟩)
  have HW := Lib.hid h3
  have HB := Lib.hid (HBd.out.trans b3)
  clear h3 b3 HWd HBd
  go_wp2_with fail
  go_end0
  exact ⟨rfl, HW.out.drop, HB.out⟩
set_option maxRecDepth 100000 in
set_option maxHeartbeats 8000000 in
theorem frame_data (h : Rf B G w g l 0 0 gf (fr 0 0 0 0 0 0 0 0 0 0 0 [])) (hs : l.length ≤ 65536) {i1 : Nat} {e1 : Int} (h1 : rdf l 3 0 0 = (1, i1, e1)) {s i2 : Nat} {e2 : Int} (h2 : rdf l 5 i1 e1 = (s, i2, e2)) {t : Int} {i3 : Nat} {e3 : Int} (h3 : rdTg l i2 e2 = (t, i3, e3)) {a i4 : Nat} {e4 : Int} (h4 : rdf l 8 i3 e3 = (a, i4, e4)) {q i5 : Nat} {e5 : Int} (h5 : rdf l 8 i4 e4 = (q, i5, e5)) {x i6 : Nat} {e6 : Int} (h6 : rdf l 8 i5 e5 = (x, i6, e6)) {y i7 : Nat} {e7 : Int} (h7 : rdf l 16 i6 e6 = (y, i7, e7)) {d : List UInt8} {i8 : Nat} {e8 : Int} (h8 : rdText l i7 e7 = (d, i8, e8)) :
    Calls Try.prog 27 #[Pr g, .pointer (some ⟨gf, 0, none⟩)] w fun r w' => r = .returned (.bool true) ∧ Rf B G w' g l i8 e8 gf (fr ((1 : Int)) ((s : Int)) (t) ((a : Int)) ((q : Int)) ((x : Int)) ((y : Int)) 0 0 0 0 (d)) ∧ Below B w w' := by
  have L0 : Hid (0 ≤ 8 * l.length) := Lib.hid (by omega)
  have L1 := Lib.hid (le_of h1 L0.out)
  have H1 := Lib.hid h1
  have L2 := Lib.hid (le_of h2 L1.out)
  have H2 := Lib.hid h2
  have L3 := Lib.hid (leG_of h3 L2.out)
  have H3 := Lib.hid h3
  have L4 := Lib.hid (le_of h4 L3.out)
  have H4 := Lib.hid h4
  have L5 := Lib.hid (le_of h5 L4.out)
  have H5 := Lib.hid h5
  have H6 := Lib.hid h6
  have H7 := Lib.hid h7
  have H8 := Lib.hid h8
  have hlt := h.1.lt
  have hltf := h.1.guest_lt (.head _)
  have hW0 := h.alloc (Br g)
  have hB0 := boxB h (Br g)
  obtain ⟨m1, m2, m3, m4, o, r1, r2, r3, r4, mb, ms, mo, m8, look⟩ := kinds_map (w.alloc (Br g))
  have es : (w.alloc (Br g)).heap.size = w.heap.size + 1 := by simp
  have HW := Lib.hid (Rf.addG (Rf.below hW0 mb) (mb := w.heap.size + 1) (by rw [← es]; exact mo) (by omega) (by omega))
  have HB := Lib.hid (hB0.trans (mb.mono (by rw [es]; have := h.1.1; omega)))
  rw [es] at r1 r2 r3 r4 look
  have HL := Lib.hid look
  have hmm := @run_makeMap Try.prog
  clear hlt hltf h hW0 hB0 mb ms mo m8 look es h1 h2 h3 h4 h5 h6 h7 h8
  go_enter Try.func27, Try.ntmps27
  go_wp2_with fail
  clear r1 r2 r3 r4 hmm
  have p0 := (Rf.boxAt HW.out (pb := w.heap.size) (.tail _ (.head _))).1
  have p1 := (Rf.boxAt HW.out (pb := w.heap.size) (.tail _ (.head _))).2
  refine wp_region_still_tail 4 (by kernel_rfl) (by kernel_rfl) ?_
  simp only [List.take_succ_cons, List.take_zero, List.drop_succ_cons, List.drop_zero]
  change wpStill _ _ (World.drew m4) (fun a' => wpList _ _ _ _ a' (World.drew m4)) _ _
  have s0 : (World.drew m4).cell? ⟨w.heap.size, 0, none⟩ = some (.pointer none) := p0
  have s1 : (World.drew m4).cell? ⟨w.heap.size, 1, none⟩ = some (.pointer (some ⟨g, 0, none⟩)) := p1
  have HWd := Lib.hid (Rf.drew HW.out)
  have HBd := Lib.hid (below_drew' HB.out)
  clear p0 p1 HW HB
  generalize World.drew m4 = wa0 at s0 s1 HWd HBd ⊢
  repeat still_step
  refine wpStill_nil ?_
  clear s0 s1
  go_wp2_with fail
  ((with_reducible refine (unsigned_e HWd.out hs L0.out 3 3 rfl (by omega) (by omega) H1.out (j := 0) rfl (fr ((1 : Int)) 0 0 0 0 0 0 0 0 0 0 []) rfl).mono ?_); rintro r wb0 ⟨rfl, h3, b3⟩)
  have HW := Lib.hid h3
  have HB := Lib.hid (HBd.out.trans b3)
  clear h3 b3 HWd HBd
  have p0 := (Rf.boxAt HW.out (pb := w.heap.size) (.tail _ (.head _))).1
  have p1 := (Rf.boxAt HW.out (pb := w.heap.size) (.tail _ (.head _))).2
  go_wp2_with fail
  refine wp_region_still_tail 4 (by kernel_rfl) (by kernel_rfl) ?_
  simp only [List.take_succ_cons, List.take_zero, List.drop_succ_cons, List.drop_zero]
  change wpStill _ _ (World.drew wb0) (fun a' => wpList _ _ _ _ a' (World.drew wb0)) _ _
  have s0 : (World.drew wb0).cell? ⟨w.heap.size, 0, none⟩ = some (.pointer none) := p0
  have s1 : (World.drew wb0).cell? ⟨w.heap.size, 1, none⟩ = some (.pointer (some ⟨g, 0, none⟩)) := p1
  have HWd := Lib.hid (Rf.drew HW.out)
  have HBd := Lib.hid (below_drew' HB.out)
  clear p0 p1 HW HB
  generalize World.drew wb0 = wa1 at s0 s1 HWd HBd ⊢
  repeat still_step
  refine wpStill_nil ?_
  clear s0 s1
  go_wp2_with fail
  ((with_reducible refine (unsigned_e HWd.out hs L1.out 5 5 rfl (by omega) (by omega) H2.out (j := 1) rfl (fr ((1 : Int)) ((s : Int)) 0 0 0 0 0 0 0 0 0 []) rfl).mono ?_); rintro r wb1 ⟨rfl, h3, b3⟩)
  have HW := Lib.hid h3
  have HB := Lib.hid (HBd.out.trans b3)
  clear h3 b3 HWd HBd
  have p0 := (Rf.boxAt HW.out (pb := w.heap.size) (.tail _ (.head _))).1
  have p1 := (Rf.boxAt HW.out (pb := w.heap.size) (.tail _ (.head _))).2
  go_wp2_with fail
  refine wp_region_still_tail 4 (by kernel_rfl) (by kernel_rfl) ?_
  simp only [List.take_succ_cons, List.take_zero, List.drop_succ_cons, List.drop_zero]
  change wpStill _ _ (World.drew wb1) (fun a' => wpList _ _ _ _ a' (World.drew wb1)) _ _
  have s0 : (World.drew wb1).cell? ⟨w.heap.size, 0, none⟩ = some (.pointer none) := p0
  have s1 : (World.drew wb1).cell? ⟨w.heap.size, 1, none⟩ = some (.pointer (some ⟨g, 0, none⟩)) := p1
  have HWd := Lib.hid (Rf.drew HW.out)
  have HBd := Lib.hid (below_drew' HB.out)
  clear p0 p1 HW HB
  generalize World.drew wb1 = wa2 at s0 s1 HWd HBd ⊢
  repeat still_step
  refine wpStill_nil ?_
  clear s0 s1
  go_wp2_with fail
  ((with_reducible refine (target_e HWd.out hs L2.out H3.out rfl (fr ((1 : Int)) ((s : Int)) (t) 0 0 0 0 0 0 0 0 []) rfl).mono ?_); rintro r wb2 ⟨rfl, h3, b3⟩)
  have HW := Lib.hid h3
  have HB := Lib.hid (HBd.out.trans b3)
  clear h3 b3 HWd HBd
  have p0 := (Rf.boxAt HW.out (pb := w.heap.size) (.tail _ (.head _))).1
  have p1 := (Rf.boxAt HW.out (pb := w.heap.size) (.tail _ (.head _))).2
  go_wp2_with fail
  refine wp_region_still_tail 4 (by kernel_rfl) (by kernel_rfl) ?_
  simp only [List.take_succ_cons, List.take_zero, List.drop_succ_cons, List.drop_zero]
  change wpStill _ _ (World.drew wb2) (fun a' => wpList _ _ _ _ a' (World.drew wb2)) _ _
  have s0 : (World.drew wb2).cell? ⟨w.heap.size, 0, none⟩ = some (.pointer none) := p0
  have s1 : (World.drew wb2).cell? ⟨w.heap.size, 1, none⟩ = some (.pointer (some ⟨g, 0, none⟩)) := p1
  have HWd := Lib.hid (Rf.drew HW.out)
  have HBd := Lib.hid (below_drew' HB.out)
  clear p0 p1 HW HB
  generalize World.drew wb2 = wa3 at s0 s1 HWd HBd ⊢
  repeat still_step
  refine wpStill_nil ?_
  clear s0 s1
  go_wp2_with fail
  ((with_reducible refine (unsigned_e HWd.out hs L3.out 8 8 rfl (by omega) (by omega) H4.out (j := 3) rfl (fr ((1 : Int)) ((s : Int)) (t) ((a : Int)) 0 0 0 0 0 0 0 []) rfl).mono ?_); rintro r wb3 ⟨rfl, h3, b3⟩)
  have HW := Lib.hid h3
  have HB := Lib.hid (HBd.out.trans b3)
  clear h3 b3 HWd HBd
  have p0 := (Rf.boxAt HW.out (pb := w.heap.size) (.tail _ (.head _))).1
  have p1 := (Rf.boxAt HW.out (pb := w.heap.size) (.tail _ (.head _))).2
  go_wp2_with fail
  refine wp_region_still_tail 4 (by kernel_rfl) (by kernel_rfl) ?_
  simp only [List.take_succ_cons, List.take_zero, List.drop_succ_cons, List.drop_zero]
  change wpStill _ _ (World.drew wb3) (fun a' => wpList _ _ _ _ a' (World.drew wb3)) _ _
  have s0 : (World.drew wb3).cell? ⟨w.heap.size, 0, none⟩ = some (.pointer none) := p0
  have s1 : (World.drew wb3).cell? ⟨w.heap.size, 1, none⟩ = some (.pointer (some ⟨g, 0, none⟩)) := p1
  have HWd := Lib.hid (Rf.drew HW.out)
  have HBd := Lib.hid (below_drew' HB.out)
  clear p0 p1 HW HB
  generalize World.drew wb3 = wa4 at s0 s1 HWd HBd ⊢
  repeat still_step
  refine wpStill_nil ?_
  clear s0 s1
  go_wp2_with fail
  ((with_reducible refine (unsigned_e HWd.out hs L4.out 8 8 rfl (by omega) (by omega) H5.out (j := 4) rfl (fr ((1 : Int)) ((s : Int)) (t) ((a : Int)) ((q : Int)) 0 0 0 0 0 0 []) rfl).mono ?_); rintro r wb4 ⟨rfl, h3, b3⟩)
  have HW := Lib.hid h3
  have HB := Lib.hid (HBd.out.trans b3)
  clear h3 b3 HWd HBd
  have p0 := (Rf.boxAt HW.out (pb := w.heap.size) (.tail _ (.head _))).1
  have p1 := (Rf.boxAt HW.out (pb := w.heap.size) (.tail _ (.head _))).2
  have k0 : wb4.cell? ⟨gf, 0, none⟩ = some (.int .i64 (1 : Int)) := (Rf.cell HW.out rfl).1
  have hl := (HL.out wb4 (HW.out.1.guest (.tail _ (.head _)))).1
  go_wp2_with fail
  ((with_reducible refine (data_r HW.out hs L5.out H6.out H7.out H8.out).mono ?_); rintro r wz ⟨rfl, h3, b3⟩)
  have HWz := Lib.hid h3
  have HBz := Lib.hid (HB.out.trans b3)
  clear h3 b3 p0 p1 k0 hl HW HB
  go_wp2_with fail
  go_ret
  exact ⟨rfl, HWz.out.drop.drop, HBz.out⟩
set_option maxRecDepth 100000 in
set_option maxHeartbeats 8000000 in
theorem frame_ack (h : Rf B G w g l 0 0 gf (fr 0 0 0 0 0 0 0 0 0 0 0 [])) (hs : l.length ≤ 65536) {i1 : Nat} {e1 : Int} (h1 : rdf l 3 0 0 = (2, i1, e1)) {s i2 : Nat} {e2 : Int} (h2 : rdf l 5 i1 e1 = (s, i2, e2)) {t : Int} {i3 : Nat} {e3 : Int} (h3 : rdTg l i2 e2 = (t, i3, e3)) {a i4 : Nat} {e4 : Int} (h4 : rdf l 8 i3 e3 = (a, i4, e4)) {q i5 : Nat} {e5 : Int} (h5 : rdf l 8 i4 e4 = (q, i5, e5)) {x i6 : Nat} {er e6 : Int} (h6 : rdf l 16 i5 e5 = (x, i6, e6)) (h7 : rdS l i5 e5 = er) :
    Calls Try.prog 27 #[Pr g, .pointer (some ⟨gf, 0, none⟩)] w fun r w' => r = .returned (.bool true) ∧ Rf B G w' g l i6 e6 gf (fr ((2 : Int)) ((s : Int)) (t) ((a : Int)) ((q : Int)) 0 0 (er) 0 0 0 []) ∧ Below B w w' := by
  have L0 : Hid (0 ≤ 8 * l.length) := Lib.hid (by omega)
  have L1 := Lib.hid (le_of h1 L0.out)
  have H1 := Lib.hid h1
  have L2 := Lib.hid (le_of h2 L1.out)
  have H2 := Lib.hid h2
  have L3 := Lib.hid (leG_of h3 L2.out)
  have H3 := Lib.hid h3
  have L4 := Lib.hid (le_of h4 L3.out)
  have H4 := Lib.hid h4
  have L5 := Lib.hid (le_of h5 L4.out)
  have H5 := Lib.hid h5
  have H6 := Lib.hid h6
  have H7 := Lib.hid h7
  have hlt := h.1.lt
  have hltf := h.1.guest_lt (.head _)
  have hW0 := h.alloc (Br g)
  have hB0 := boxB h (Br g)
  obtain ⟨m1, m2, m3, m4, o, r1, r2, r3, r4, mb, ms, mo, m8, look⟩ := kinds_map (w.alloc (Br g))
  have es : (w.alloc (Br g)).heap.size = w.heap.size + 1 := by simp
  have HW := Lib.hid (Rf.addG (Rf.below hW0 mb) (mb := w.heap.size + 1) (by rw [← es]; exact mo) (by omega) (by omega))
  have HB := Lib.hid (hB0.trans (mb.mono (by rw [es]; have := h.1.1; omega)))
  rw [es] at r1 r2 r3 r4 look
  have HL := Lib.hid look
  have hmm := @run_makeMap Try.prog
  clear hlt hltf h hW0 hB0 mb ms mo m8 look es h1 h2 h3 h4 h5 h6 h7
  go_enter Try.func27, Try.ntmps27
  go_wp2_with fail
  clear r1 r2 r3 r4 hmm
  have p0 := (Rf.boxAt HW.out (pb := w.heap.size) (.tail _ (.head _))).1
  have p1 := (Rf.boxAt HW.out (pb := w.heap.size) (.tail _ (.head _))).2
  refine wp_region_still_tail 4 (by kernel_rfl) (by kernel_rfl) ?_
  simp only [List.take_succ_cons, List.take_zero, List.drop_succ_cons, List.drop_zero]
  change wpStill _ _ (World.drew m4) (fun a' => wpList _ _ _ _ a' (World.drew m4)) _ _
  have s0 : (World.drew m4).cell? ⟨w.heap.size, 0, none⟩ = some (.pointer none) := p0
  have s1 : (World.drew m4).cell? ⟨w.heap.size, 1, none⟩ = some (.pointer (some ⟨g, 0, none⟩)) := p1
  have HWd := Lib.hid (Rf.drew HW.out)
  have HBd := Lib.hid (below_drew' HB.out)
  clear p0 p1 HW HB
  generalize World.drew m4 = wa0 at s0 s1 HWd HBd ⊢
  repeat still_step
  refine wpStill_nil ?_
  clear s0 s1
  go_wp2_with fail
  ((with_reducible refine (unsigned_e HWd.out hs L0.out 3 3 rfl (by omega) (by omega) H1.out (j := 0) rfl (fr ((2 : Int)) 0 0 0 0 0 0 0 0 0 0 []) rfl).mono ?_); rintro r wb0 ⟨rfl, h3, b3⟩)
  have HW := Lib.hid h3
  have HB := Lib.hid (HBd.out.trans b3)
  clear h3 b3 HWd HBd
  have p0 := (Rf.boxAt HW.out (pb := w.heap.size) (.tail _ (.head _))).1
  have p1 := (Rf.boxAt HW.out (pb := w.heap.size) (.tail _ (.head _))).2
  go_wp2_with fail
  refine wp_region_still_tail 4 (by kernel_rfl) (by kernel_rfl) ?_
  simp only [List.take_succ_cons, List.take_zero, List.drop_succ_cons, List.drop_zero]
  change wpStill _ _ (World.drew wb0) (fun a' => wpList _ _ _ _ a' (World.drew wb0)) _ _
  have s0 : (World.drew wb0).cell? ⟨w.heap.size, 0, none⟩ = some (.pointer none) := p0
  have s1 : (World.drew wb0).cell? ⟨w.heap.size, 1, none⟩ = some (.pointer (some ⟨g, 0, none⟩)) := p1
  have HWd := Lib.hid (Rf.drew HW.out)
  have HBd := Lib.hid (below_drew' HB.out)
  clear p0 p1 HW HB
  generalize World.drew wb0 = wa1 at s0 s1 HWd HBd ⊢
  repeat still_step
  refine wpStill_nil ?_
  clear s0 s1
  go_wp2_with fail
  ((with_reducible refine (unsigned_e HWd.out hs L1.out 5 5 rfl (by omega) (by omega) H2.out (j := 1) rfl (fr ((2 : Int)) ((s : Int)) 0 0 0 0 0 0 0 0 0 []) rfl).mono ?_); rintro r wb1 ⟨rfl, h3, b3⟩)
  have HW := Lib.hid h3
  have HB := Lib.hid (HBd.out.trans b3)
  clear h3 b3 HWd HBd
  have p0 := (Rf.boxAt HW.out (pb := w.heap.size) (.tail _ (.head _))).1
  have p1 := (Rf.boxAt HW.out (pb := w.heap.size) (.tail _ (.head _))).2
  go_wp2_with fail
  refine wp_region_still_tail 4 (by kernel_rfl) (by kernel_rfl) ?_
  simp only [List.take_succ_cons, List.take_zero, List.drop_succ_cons, List.drop_zero]
  change wpStill _ _ (World.drew wb1) (fun a' => wpList _ _ _ _ a' (World.drew wb1)) _ _
  have s0 : (World.drew wb1).cell? ⟨w.heap.size, 0, none⟩ = some (.pointer none) := p0
  have s1 : (World.drew wb1).cell? ⟨w.heap.size, 1, none⟩ = some (.pointer (some ⟨g, 0, none⟩)) := p1
  have HWd := Lib.hid (Rf.drew HW.out)
  have HBd := Lib.hid (below_drew' HB.out)
  clear p0 p1 HW HB
  generalize World.drew wb1 = wa2 at s0 s1 HWd HBd ⊢
  repeat still_step
  refine wpStill_nil ?_
  clear s0 s1
  go_wp2_with fail
  ((with_reducible refine (target_e HWd.out hs L2.out H3.out rfl (fr ((2 : Int)) ((s : Int)) (t) 0 0 0 0 0 0 0 0 []) rfl).mono ?_); rintro r wb2 ⟨rfl, h3, b3⟩)
  have HW := Lib.hid h3
  have HB := Lib.hid (HBd.out.trans b3)
  clear h3 b3 HWd HBd
  have p0 := (Rf.boxAt HW.out (pb := w.heap.size) (.tail _ (.head _))).1
  have p1 := (Rf.boxAt HW.out (pb := w.heap.size) (.tail _ (.head _))).2
  go_wp2_with fail
  refine wp_region_still_tail 4 (by kernel_rfl) (by kernel_rfl) ?_
  simp only [List.take_succ_cons, List.take_zero, List.drop_succ_cons, List.drop_zero]
  change wpStill _ _ (World.drew wb2) (fun a' => wpList _ _ _ _ a' (World.drew wb2)) _ _
  have s0 : (World.drew wb2).cell? ⟨w.heap.size, 0, none⟩ = some (.pointer none) := p0
  have s1 : (World.drew wb2).cell? ⟨w.heap.size, 1, none⟩ = some (.pointer (some ⟨g, 0, none⟩)) := p1
  have HWd := Lib.hid (Rf.drew HW.out)
  have HBd := Lib.hid (below_drew' HB.out)
  clear p0 p1 HW HB
  generalize World.drew wb2 = wa3 at s0 s1 HWd HBd ⊢
  repeat still_step
  refine wpStill_nil ?_
  clear s0 s1
  go_wp2_with fail
  ((with_reducible refine (unsigned_e HWd.out hs L3.out 8 8 rfl (by omega) (by omega) H4.out (j := 3) rfl (fr ((2 : Int)) ((s : Int)) (t) ((a : Int)) 0 0 0 0 0 0 0 []) rfl).mono ?_); rintro r wb3 ⟨rfl, h3, b3⟩)
  have HW := Lib.hid h3
  have HB := Lib.hid (HBd.out.trans b3)
  clear h3 b3 HWd HBd
  have p0 := (Rf.boxAt HW.out (pb := w.heap.size) (.tail _ (.head _))).1
  have p1 := (Rf.boxAt HW.out (pb := w.heap.size) (.tail _ (.head _))).2
  go_wp2_with fail
  refine wp_region_still_tail 4 (by kernel_rfl) (by kernel_rfl) ?_
  simp only [List.take_succ_cons, List.take_zero, List.drop_succ_cons, List.drop_zero]
  change wpStill _ _ (World.drew wb3) (fun a' => wpList _ _ _ _ a' (World.drew wb3)) _ _
  have s0 : (World.drew wb3).cell? ⟨w.heap.size, 0, none⟩ = some (.pointer none) := p0
  have s1 : (World.drew wb3).cell? ⟨w.heap.size, 1, none⟩ = some (.pointer (some ⟨g, 0, none⟩)) := p1
  have HWd := Lib.hid (Rf.drew HW.out)
  have HBd := Lib.hid (below_drew' HB.out)
  clear p0 p1 HW HB
  generalize World.drew wb3 = wa4 at s0 s1 HWd HBd ⊢
  repeat still_step
  refine wpStill_nil ?_
  clear s0 s1
  go_wp2_with fail
  ((with_reducible refine (unsigned_e HWd.out hs L4.out 8 8 rfl (by omega) (by omega) H5.out (j := 4) rfl (fr ((2 : Int)) ((s : Int)) (t) ((a : Int)) ((q : Int)) 0 0 0 0 0 0 []) rfl).mono ?_); rintro r wb4 ⟨rfl, h3, b3⟩)
  have HW := Lib.hid h3
  have HB := Lib.hid (HBd.out.trans b3)
  clear h3 b3 HWd HBd
  have p0 := (Rf.boxAt HW.out (pb := w.heap.size) (.tail _ (.head _))).1
  have p1 := (Rf.boxAt HW.out (pb := w.heap.size) (.tail _ (.head _))).2
  have k0 : wb4.cell? ⟨gf, 0, none⟩ = some (.int .i64 (2 : Int)) := (Rf.cell HW.out rfl).1
  have hl := (HL.out wb4 (HW.out.1.guest (.tail _ (.head _)))).2.1
  go_wp2_with fail
  ((with_reducible refine (ack_e HW.out hs L5.out H7.out H6.out rfl (fr ((2 : Int)) ((s : Int)) (t) ((a : Int)) ((q : Int)) 0 0 (er) 0 0 0 []) rfl).mono ?_); rintro r wz ⟨rfl, h3, b3⟩)
  have HWz := Lib.hid h3
  have HBz := Lib.hid (HB.out.trans b3)
  clear h3 b3 p0 p1 k0 hl HW HB
  go_wp2_with fail
  go_ret
  exact ⟨rfl, HWz.out.drop.drop, HBz.out⟩
set_option maxRecDepth 100000 in
set_option maxHeartbeats 8000000 in
theorem frame_beacon (h : Rf B G w g l 0 0 gf (fr 0 0 0 0 0 0 0 0 0 0 0 [])) (hs : l.length ≤ 65536) {i1 : Nat} {e1 : Int} (h1 : rdf l 3 0 0 = (3, i1, e1)) {s i2 : Nat} {e2 : Int} (h2 : rdf l 5 i1 e1 = (s, i2, e2)) {t : Int} {i3 : Nat} {e3 : Int} (h3 : rdTg l i2 e2 = (t, i3, e3)) {a i4 : Nat} {e4 : Int} (h4 : rdf l 8 i3 e3 = (a, i4, e4)) {q i5 : Nat} {e5 : Int} (h5 : rdf l 8 i4 e4 = (q, i5, e5)) {sl i6 : Nat} {e6 : Int} (h6 : rdf l 27 i5 e5 = (sl, i6, e6)) {rk i7 : Nat} {e7 : Int} (h7 : rdf l 16 i6 e6 = (rk, i7, e7)) {ep i8 : Nat} {e8 : Int} (h8 : rdf l 16 i7 e7 = (ep, i8, e8)) {d : List UInt8} {i9 : Nat} {e9 : Int} (h9 : rdText l i8 e8 = (d, i9, e9)) :
    Calls Try.prog 27 #[Pr g, .pointer (some ⟨gf, 0, none⟩)] w fun r w' => r = .returned (.bool true) ∧ Rf B G w' g l i9 e9 gf (fr ((3 : Int)) ((s : Int)) (t) ((a : Int)) ((q : Int)) 0 0 0 ((sl : Int)) ((rk : Int)) ((ep : Int)) (d)) ∧ Below B w w' := by
  have L0 : Hid (0 ≤ 8 * l.length) := Lib.hid (by omega)
  have L1 := Lib.hid (le_of h1 L0.out)
  have H1 := Lib.hid h1
  have L2 := Lib.hid (le_of h2 L1.out)
  have H2 := Lib.hid h2
  have L3 := Lib.hid (leG_of h3 L2.out)
  have H3 := Lib.hid h3
  have L4 := Lib.hid (le_of h4 L3.out)
  have H4 := Lib.hid h4
  have L5 := Lib.hid (le_of h5 L4.out)
  have H5 := Lib.hid h5
  have H6 := Lib.hid h6
  have H7 := Lib.hid h7
  have H8 := Lib.hid h8
  have H9 := Lib.hid h9
  have hlt := h.1.lt
  have hltf := h.1.guest_lt (.head _)
  have hW0 := h.alloc (Br g)
  have hB0 := boxB h (Br g)
  obtain ⟨m1, m2, m3, m4, o, r1, r2, r3, r4, mb, ms, mo, m8, look⟩ := kinds_map (w.alloc (Br g))
  have es : (w.alloc (Br g)).heap.size = w.heap.size + 1 := by simp
  have HW := Lib.hid (Rf.addG (Rf.below hW0 mb) (mb := w.heap.size + 1) (by rw [← es]; exact mo) (by omega) (by omega))
  have HB := Lib.hid (hB0.trans (mb.mono (by rw [es]; have := h.1.1; omega)))
  rw [es] at r1 r2 r3 r4 look
  have HL := Lib.hid look
  have hmm := @run_makeMap Try.prog
  clear hlt hltf h hW0 hB0 mb ms mo m8 look es h1 h2 h3 h4 h5 h6 h7 h8 h9
  go_enter Try.func27, Try.ntmps27
  go_wp2_with fail
  clear r1 r2 r3 r4 hmm
  have p0 := (Rf.boxAt HW.out (pb := w.heap.size) (.tail _ (.head _))).1
  have p1 := (Rf.boxAt HW.out (pb := w.heap.size) (.tail _ (.head _))).2
  refine wp_region_still_tail 4 (by kernel_rfl) (by kernel_rfl) ?_
  simp only [List.take_succ_cons, List.take_zero, List.drop_succ_cons, List.drop_zero]
  change wpStill _ _ (World.drew m4) (fun a' => wpList _ _ _ _ a' (World.drew m4)) _ _
  have s0 : (World.drew m4).cell? ⟨w.heap.size, 0, none⟩ = some (.pointer none) := p0
  have s1 : (World.drew m4).cell? ⟨w.heap.size, 1, none⟩ = some (.pointer (some ⟨g, 0, none⟩)) := p1
  have HWd := Lib.hid (Rf.drew HW.out)
  have HBd := Lib.hid (below_drew' HB.out)
  clear p0 p1 HW HB
  generalize World.drew m4 = wa0 at s0 s1 HWd HBd ⊢
  repeat still_step
  refine wpStill_nil ?_
  clear s0 s1
  go_wp2_with fail
  ((with_reducible refine (unsigned_e HWd.out hs L0.out 3 3 rfl (by omega) (by omega) H1.out (j := 0) rfl (fr ((3 : Int)) 0 0 0 0 0 0 0 0 0 0 []) rfl).mono ?_); rintro r wb0 ⟨rfl, h3, b3⟩)
  have HW := Lib.hid h3
  have HB := Lib.hid (HBd.out.trans b3)
  clear h3 b3 HWd HBd
  have p0 := (Rf.boxAt HW.out (pb := w.heap.size) (.tail _ (.head _))).1
  have p1 := (Rf.boxAt HW.out (pb := w.heap.size) (.tail _ (.head _))).2
  go_wp2_with fail
  refine wp_region_still_tail 4 (by kernel_rfl) (by kernel_rfl) ?_
  simp only [List.take_succ_cons, List.take_zero, List.drop_succ_cons, List.drop_zero]
  change wpStill _ _ (World.drew wb0) (fun a' => wpList _ _ _ _ a' (World.drew wb0)) _ _
  have s0 : (World.drew wb0).cell? ⟨w.heap.size, 0, none⟩ = some (.pointer none) := p0
  have s1 : (World.drew wb0).cell? ⟨w.heap.size, 1, none⟩ = some (.pointer (some ⟨g, 0, none⟩)) := p1
  have HWd := Lib.hid (Rf.drew HW.out)
  have HBd := Lib.hid (below_drew' HB.out)
  clear p0 p1 HW HB
  generalize World.drew wb0 = wa1 at s0 s1 HWd HBd ⊢
  repeat still_step
  refine wpStill_nil ?_
  clear s0 s1
  go_wp2_with fail
  ((with_reducible refine (unsigned_e HWd.out hs L1.out 5 5 rfl (by omega) (by omega) H2.out (j := 1) rfl (fr ((3 : Int)) ((s : Int)) 0 0 0 0 0 0 0 0 0 []) rfl).mono ?_); rintro r wb1 ⟨rfl, h3, b3⟩)
  have HW := Lib.hid h3
  have HB := Lib.hid (HBd.out.trans b3)
  clear h3 b3 HWd HBd
  have p0 := (Rf.boxAt HW.out (pb := w.heap.size) (.tail _ (.head _))).1
  have p1 := (Rf.boxAt HW.out (pb := w.heap.size) (.tail _ (.head _))).2
  go_wp2_with fail
  refine wp_region_still_tail 4 (by kernel_rfl) (by kernel_rfl) ?_
  simp only [List.take_succ_cons, List.take_zero, List.drop_succ_cons, List.drop_zero]
  change wpStill _ _ (World.drew wb1) (fun a' => wpList _ _ _ _ a' (World.drew wb1)) _ _
  have s0 : (World.drew wb1).cell? ⟨w.heap.size, 0, none⟩ = some (.pointer none) := p0
  have s1 : (World.drew wb1).cell? ⟨w.heap.size, 1, none⟩ = some (.pointer (some ⟨g, 0, none⟩)) := p1
  have HWd := Lib.hid (Rf.drew HW.out)
  have HBd := Lib.hid (below_drew' HB.out)
  clear p0 p1 HW HB
  generalize World.drew wb1 = wa2 at s0 s1 HWd HBd ⊢
  repeat still_step
  refine wpStill_nil ?_
  clear s0 s1
  go_wp2_with fail
  ((with_reducible refine (target_e HWd.out hs L2.out H3.out rfl (fr ((3 : Int)) ((s : Int)) (t) 0 0 0 0 0 0 0 0 []) rfl).mono ?_); rintro r wb2 ⟨rfl, h3, b3⟩)
  have HW := Lib.hid h3
  have HB := Lib.hid (HBd.out.trans b3)
  clear h3 b3 HWd HBd
  have p0 := (Rf.boxAt HW.out (pb := w.heap.size) (.tail _ (.head _))).1
  have p1 := (Rf.boxAt HW.out (pb := w.heap.size) (.tail _ (.head _))).2
  go_wp2_with fail
  refine wp_region_still_tail 4 (by kernel_rfl) (by kernel_rfl) ?_
  simp only [List.take_succ_cons, List.take_zero, List.drop_succ_cons, List.drop_zero]
  change wpStill _ _ (World.drew wb2) (fun a' => wpList _ _ _ _ a' (World.drew wb2)) _ _
  have s0 : (World.drew wb2).cell? ⟨w.heap.size, 0, none⟩ = some (.pointer none) := p0
  have s1 : (World.drew wb2).cell? ⟨w.heap.size, 1, none⟩ = some (.pointer (some ⟨g, 0, none⟩)) := p1
  have HWd := Lib.hid (Rf.drew HW.out)
  have HBd := Lib.hid (below_drew' HB.out)
  clear p0 p1 HW HB
  generalize World.drew wb2 = wa3 at s0 s1 HWd HBd ⊢
  repeat still_step
  refine wpStill_nil ?_
  clear s0 s1
  go_wp2_with fail
  ((with_reducible refine (unsigned_e HWd.out hs L3.out 8 8 rfl (by omega) (by omega) H4.out (j := 3) rfl (fr ((3 : Int)) ((s : Int)) (t) ((a : Int)) 0 0 0 0 0 0 0 []) rfl).mono ?_); rintro r wb3 ⟨rfl, h3, b3⟩)
  have HW := Lib.hid h3
  have HB := Lib.hid (HBd.out.trans b3)
  clear h3 b3 HWd HBd
  have p0 := (Rf.boxAt HW.out (pb := w.heap.size) (.tail _ (.head _))).1
  have p1 := (Rf.boxAt HW.out (pb := w.heap.size) (.tail _ (.head _))).2
  go_wp2_with fail
  refine wp_region_still_tail 4 (by kernel_rfl) (by kernel_rfl) ?_
  simp only [List.take_succ_cons, List.take_zero, List.drop_succ_cons, List.drop_zero]
  change wpStill _ _ (World.drew wb3) (fun a' => wpList _ _ _ _ a' (World.drew wb3)) _ _
  have s0 : (World.drew wb3).cell? ⟨w.heap.size, 0, none⟩ = some (.pointer none) := p0
  have s1 : (World.drew wb3).cell? ⟨w.heap.size, 1, none⟩ = some (.pointer (some ⟨g, 0, none⟩)) := p1
  have HWd := Lib.hid (Rf.drew HW.out)
  have HBd := Lib.hid (below_drew' HB.out)
  clear p0 p1 HW HB
  generalize World.drew wb3 = wa4 at s0 s1 HWd HBd ⊢
  repeat still_step
  refine wpStill_nil ?_
  clear s0 s1
  go_wp2_with fail
  ((with_reducible refine (unsigned_e HWd.out hs L4.out 8 8 rfl (by omega) (by omega) H5.out (j := 4) rfl (fr ((3 : Int)) ((s : Int)) (t) ((a : Int)) ((q : Int)) 0 0 0 0 0 0 []) rfl).mono ?_); rintro r wb4 ⟨rfl, h3, b3⟩)
  have HW := Lib.hid h3
  have HB := Lib.hid (HBd.out.trans b3)
  clear h3 b3 HWd HBd
  have p0 := (Rf.boxAt HW.out (pb := w.heap.size) (.tail _ (.head _))).1
  have p1 := (Rf.boxAt HW.out (pb := w.heap.size) (.tail _ (.head _))).2
  have k0 : wb4.cell? ⟨gf, 0, none⟩ = some (.int .i64 (3 : Int)) := (Rf.cell HW.out rfl).1
  have hl := (HL.out wb4 (HW.out.1.guest (.tail _ (.head _)))).2.2.1
  go_wp2_with fail
  ((with_reducible refine (beacon_r HW.out hs L5.out H6.out H7.out H8.out H9.out).mono ?_); rintro r wz ⟨rfl, h3, b3⟩)
  have HWz := Lib.hid h3
  have HBz := Lib.hid (HB.out.trans b3)
  clear h3 b3 p0 p1 k0 hl HW HB
  go_wp2_with fail
  go_ret
  exact ⟨rfl, HWz.out.drop.drop, HBz.out⟩
set_option maxRecDepth 100000 in
set_option maxHeartbeats 8000000 in
theorem frame_message (h : Rf B G w g l 0 0 gf (fr 0 0 0 0 0 0 0 0 0 0 0 [])) (hs : l.length ≤ 65536) {i1 : Nat} {e1 : Int} (h1 : rdf l 3 0 0 = (4, i1, e1)) {s i2 : Nat} {e2 : Int} (h2 : rdf l 5 i1 e1 = (s, i2, e2)) {t : Int} {i3 : Nat} {e3 : Int} (h3 : rdTg l i2 e2 = (t, i3, e3)) {a i4 : Nat} {e4 : Int} (h4 : rdf l 8 i3 e3 = (a, i4, e4)) {q i5 : Nat} {e5 : Int} (h5 : rdf l 8 i4 e4 = (q, i5, e5)) {d : List UInt8} {i6 : Nat} {e6 : Int} (h6 : rdText l i5 e5 = (d, i6, e6)) :
    Calls Try.prog 27 #[Pr g, .pointer (some ⟨gf, 0, none⟩)] w fun r w' => r = .returned (.bool true) ∧ Rf B G w' g l i6 e6 gf (fr ((4 : Int)) ((s : Int)) (t) ((a : Int)) ((q : Int)) 0 0 0 0 0 0 (d)) ∧ Below B w w' := by
  have L0 : Hid (0 ≤ 8 * l.length) := Lib.hid (by omega)
  have L1 := Lib.hid (le_of h1 L0.out)
  have H1 := Lib.hid h1
  have L2 := Lib.hid (le_of h2 L1.out)
  have H2 := Lib.hid h2
  have L3 := Lib.hid (leG_of h3 L2.out)
  have H3 := Lib.hid h3
  have L4 := Lib.hid (le_of h4 L3.out)
  have H4 := Lib.hid h4
  have L5 := Lib.hid (le_of h5 L4.out)
  have H5 := Lib.hid h5
  have H6 := Lib.hid h6
  have hlt := h.1.lt
  have hltf := h.1.guest_lt (.head _)
  have hW0 := h.alloc (Br g)
  have hB0 := boxB h (Br g)
  obtain ⟨m1, m2, m3, m4, o, r1, r2, r3, r4, mb, ms, mo, m8, look⟩ := kinds_map (w.alloc (Br g))
  have es : (w.alloc (Br g)).heap.size = w.heap.size + 1 := by simp
  have HW := Lib.hid (Rf.addG (Rf.below hW0 mb) (mb := w.heap.size + 1) (by rw [← es]; exact mo) (by omega) (by omega))
  have HB := Lib.hid (hB0.trans (mb.mono (by rw [es]; have := h.1.1; omega)))
  rw [es] at r1 r2 r3 r4 look
  have HL := Lib.hid look
  have hmm := @run_makeMap Try.prog
  clear hlt hltf h hW0 hB0 mb ms mo m8 look es h1 h2 h3 h4 h5 h6
  go_enter Try.func27, Try.ntmps27
  go_wp2_with fail
  clear r1 r2 r3 r4 hmm
  have p0 := (Rf.boxAt HW.out (pb := w.heap.size) (.tail _ (.head _))).1
  have p1 := (Rf.boxAt HW.out (pb := w.heap.size) (.tail _ (.head _))).2
  refine wp_region_still_tail 4 (by kernel_rfl) (by kernel_rfl) ?_
  simp only [List.take_succ_cons, List.take_zero, List.drop_succ_cons, List.drop_zero]
  change wpStill _ _ (World.drew m4) (fun a' => wpList _ _ _ _ a' (World.drew m4)) _ _
  have s0 : (World.drew m4).cell? ⟨w.heap.size, 0, none⟩ = some (.pointer none) := p0
  have s1 : (World.drew m4).cell? ⟨w.heap.size, 1, none⟩ = some (.pointer (some ⟨g, 0, none⟩)) := p1
  have HWd := Lib.hid (Rf.drew HW.out)
  have HBd := Lib.hid (below_drew' HB.out)
  clear p0 p1 HW HB
  generalize World.drew m4 = wa0 at s0 s1 HWd HBd ⊢
  repeat still_step
  refine wpStill_nil ?_
  clear s0 s1
  go_wp2_with fail
  ((with_reducible refine (unsigned_e HWd.out hs L0.out 3 3 rfl (by omega) (by omega) H1.out (j := 0) rfl (fr ((4 : Int)) 0 0 0 0 0 0 0 0 0 0 []) rfl).mono ?_); rintro r wb0 ⟨rfl, h3, b3⟩)
  have HW := Lib.hid h3
  have HB := Lib.hid (HBd.out.trans b3)
  clear h3 b3 HWd HBd
  have p0 := (Rf.boxAt HW.out (pb := w.heap.size) (.tail _ (.head _))).1
  have p1 := (Rf.boxAt HW.out (pb := w.heap.size) (.tail _ (.head _))).2
  go_wp2_with fail
  refine wp_region_still_tail 4 (by kernel_rfl) (by kernel_rfl) ?_
  simp only [List.take_succ_cons, List.take_zero, List.drop_succ_cons, List.drop_zero]
  change wpStill _ _ (World.drew wb0) (fun a' => wpList _ _ _ _ a' (World.drew wb0)) _ _
  have s0 : (World.drew wb0).cell? ⟨w.heap.size, 0, none⟩ = some (.pointer none) := p0
  have s1 : (World.drew wb0).cell? ⟨w.heap.size, 1, none⟩ = some (.pointer (some ⟨g, 0, none⟩)) := p1
  have HWd := Lib.hid (Rf.drew HW.out)
  have HBd := Lib.hid (below_drew' HB.out)
  clear p0 p1 HW HB
  generalize World.drew wb0 = wa1 at s0 s1 HWd HBd ⊢
  repeat still_step
  refine wpStill_nil ?_
  clear s0 s1
  go_wp2_with fail
  ((with_reducible refine (unsigned_e HWd.out hs L1.out 5 5 rfl (by omega) (by omega) H2.out (j := 1) rfl (fr ((4 : Int)) ((s : Int)) 0 0 0 0 0 0 0 0 0 []) rfl).mono ?_); rintro r wb1 ⟨rfl, h3, b3⟩)
  have HW := Lib.hid h3
  have HB := Lib.hid (HBd.out.trans b3)
  clear h3 b3 HWd HBd
  have p0 := (Rf.boxAt HW.out (pb := w.heap.size) (.tail _ (.head _))).1
  have p1 := (Rf.boxAt HW.out (pb := w.heap.size) (.tail _ (.head _))).2
  go_wp2_with fail
  refine wp_region_still_tail 4 (by kernel_rfl) (by kernel_rfl) ?_
  simp only [List.take_succ_cons, List.take_zero, List.drop_succ_cons, List.drop_zero]
  change wpStill _ _ (World.drew wb1) (fun a' => wpList _ _ _ _ a' (World.drew wb1)) _ _
  have s0 : (World.drew wb1).cell? ⟨w.heap.size, 0, none⟩ = some (.pointer none) := p0
  have s1 : (World.drew wb1).cell? ⟨w.heap.size, 1, none⟩ = some (.pointer (some ⟨g, 0, none⟩)) := p1
  have HWd := Lib.hid (Rf.drew HW.out)
  have HBd := Lib.hid (below_drew' HB.out)
  clear p0 p1 HW HB
  generalize World.drew wb1 = wa2 at s0 s1 HWd HBd ⊢
  repeat still_step
  refine wpStill_nil ?_
  clear s0 s1
  go_wp2_with fail
  ((with_reducible refine (target_e HWd.out hs L2.out H3.out rfl (fr ((4 : Int)) ((s : Int)) (t) 0 0 0 0 0 0 0 0 []) rfl).mono ?_); rintro r wb2 ⟨rfl, h3, b3⟩)
  have HW := Lib.hid h3
  have HB := Lib.hid (HBd.out.trans b3)
  clear h3 b3 HWd HBd
  have p0 := (Rf.boxAt HW.out (pb := w.heap.size) (.tail _ (.head _))).1
  have p1 := (Rf.boxAt HW.out (pb := w.heap.size) (.tail _ (.head _))).2
  go_wp2_with fail
  refine wp_region_still_tail 4 (by kernel_rfl) (by kernel_rfl) ?_
  simp only [List.take_succ_cons, List.take_zero, List.drop_succ_cons, List.drop_zero]
  change wpStill _ _ (World.drew wb2) (fun a' => wpList _ _ _ _ a' (World.drew wb2)) _ _
  have s0 : (World.drew wb2).cell? ⟨w.heap.size, 0, none⟩ = some (.pointer none) := p0
  have s1 : (World.drew wb2).cell? ⟨w.heap.size, 1, none⟩ = some (.pointer (some ⟨g, 0, none⟩)) := p1
  have HWd := Lib.hid (Rf.drew HW.out)
  have HBd := Lib.hid (below_drew' HB.out)
  clear p0 p1 HW HB
  generalize World.drew wb2 = wa3 at s0 s1 HWd HBd ⊢
  repeat still_step
  refine wpStill_nil ?_
  clear s0 s1
  go_wp2_with fail
  ((with_reducible refine (unsigned_e HWd.out hs L3.out 8 8 rfl (by omega) (by omega) H4.out (j := 3) rfl (fr ((4 : Int)) ((s : Int)) (t) ((a : Int)) 0 0 0 0 0 0 0 []) rfl).mono ?_); rintro r wb3 ⟨rfl, h3, b3⟩)
  have HW := Lib.hid h3
  have HB := Lib.hid (HBd.out.trans b3)
  clear h3 b3 HWd HBd
  have p0 := (Rf.boxAt HW.out (pb := w.heap.size) (.tail _ (.head _))).1
  have p1 := (Rf.boxAt HW.out (pb := w.heap.size) (.tail _ (.head _))).2
  go_wp2_with fail
  refine wp_region_still_tail 4 (by kernel_rfl) (by kernel_rfl) ?_
  simp only [List.take_succ_cons, List.take_zero, List.drop_succ_cons, List.drop_zero]
  change wpStill _ _ (World.drew wb3) (fun a' => wpList _ _ _ _ a' (World.drew wb3)) _ _
  have s0 : (World.drew wb3).cell? ⟨w.heap.size, 0, none⟩ = some (.pointer none) := p0
  have s1 : (World.drew wb3).cell? ⟨w.heap.size, 1, none⟩ = some (.pointer (some ⟨g, 0, none⟩)) := p1
  have HWd := Lib.hid (Rf.drew HW.out)
  have HBd := Lib.hid (below_drew' HB.out)
  clear p0 p1 HW HB
  generalize World.drew wb3 = wa4 at s0 s1 HWd HBd ⊢
  repeat still_step
  refine wpStill_nil ?_
  clear s0 s1
  go_wp2_with fail
  ((with_reducible refine (unsigned_e HWd.out hs L4.out 8 8 rfl (by omega) (by omega) H5.out (j := 4) rfl (fr ((4 : Int)) ((s : Int)) (t) ((a : Int)) ((q : Int)) 0 0 0 0 0 0 []) rfl).mono ?_); rintro r wb4 ⟨rfl, h3, b3⟩)
  have HW := Lib.hid h3
  have HB := Lib.hid (HBd.out.trans b3)
  clear h3 b3 HWd HBd
  have p0 := (Rf.boxAt HW.out (pb := w.heap.size) (.tail _ (.head _))).1
  have p1 := (Rf.boxAt HW.out (pb := w.heap.size) (.tail _ (.head _))).2
  have k0 : wb4.cell? ⟨gf, 0, none⟩ = some (.int .i64 (4 : Int)) := (Rf.cell HW.out rfl).1
  have hl := (HL.out wb4 (HW.out.1.guest (.tail _ (.head _)))).2.2.2.1
  go_wp2_with fail
  ((with_reducible refine (message_r HW.out hs L5.out H6.out).mono ?_); rintro r wz ⟨rfl, h3, b3⟩)
  have HWz := Lib.hid h3
  have HBz := Lib.hid (HB.out.trans b3)
  clear h3 b3 p0 p1 k0 hl HW HB
  go_wp2_with fail
  go_ret
  exact ⟨rfl, HWz.out.drop.drop, HBz.out⟩
set_option maxRecDepth 100000 in
set_option maxHeartbeats 8000000 in
theorem frame_none (h : Rf B G w g l 0 0 gf (fr 0 0 0 0 0 0 0 0 0 0 0 [])) (hs : l.length ≤ 65536) {k : Nat} (n1 : k ≠ 1) (n2 : k ≠ 2) (n3 : k ≠ 3) (n4 : k ≠ 4) {i1 : Nat} {e1 : Int} (h1 : rdf l 3 0 0 = (k, i1, e1)) {s i2 : Nat} {e2 : Int} (h2 : rdf l 5 i1 e1 = (s, i2, e2)) {t : Int} {i3 : Nat} {e3 : Int} (h3 : rdTg l i2 e2 = (t, i3, e3)) {a i4 : Nat} {e4 : Int} (h4 : rdf l 8 i3 e3 = (a, i4, e4)) {q i5 : Nat} {e5 : Int} (h5 : rdf l 8 i4 e4 = (q, i5, e5)) :
    Calls Try.prog 27 #[Pr g, .pointer (some ⟨gf, 0, none⟩)] w fun r w' => r = .returned (.bool false) ∧ Rf B G w' g l i5 e5 gf (fr ((k : Int)) ((s : Int)) (t) ((a : Int)) ((q : Int)) 0 0 0 0 0 0 []) ∧ Below B w w' := by
  have L0 : Hid (0 ≤ 8 * l.length) := Lib.hid (by omega)
  have L1 := Lib.hid (le_of h1 L0.out)
  have H1 := Lib.hid h1
  have L2 := Lib.hid (le_of h2 L1.out)
  have H2 := Lib.hid h2
  have L3 := Lib.hid (leG_of h3 L2.out)
  have H3 := Lib.hid h3
  have L4 := Lib.hid (le_of h4 L3.out)
  have H4 := Lib.hid h4
  have L5 := Lib.hid (le_of h5 L4.out)
  have H5 := Lib.hid h5
  have hk8 : k < 8 := by have := rdf_lt l 3 0 0; rw [h1] at this; exact this
  have hlt := h.1.lt
  have hltf := h.1.guest_lt (.head _)
  have hW0 := h.alloc (Br g)
  have hB0 := boxB h (Br g)
  obtain ⟨m1, m2, m3, m4, o, r1, r2, r3, r4, mb, ms, mo, m8, look⟩ := kinds_map (w.alloc (Br g))
  have es : (w.alloc (Br g)).heap.size = w.heap.size + 1 := by simp
  have HW := Lib.hid (Rf.addG (Rf.below hW0 mb) (mb := w.heap.size + 1) (by rw [← es]; exact mo) (by omega) (by omega))
  have HB := Lib.hid (hB0.trans (mb.mono (by rw [es]; have := h.1.1; omega)))
  rw [es] at r1 r2 r3 r4 look
  have HL := Lib.hid look
  have hmm := @run_makeMap Try.prog
  clear hlt hltf h hW0 hB0 mb ms mo m8 look es h1 h2 h3 h4 h5
  go_enter Try.func27, Try.ntmps27
  go_wp2_with fail
  clear r1 r2 r3 r4 hmm
  have p0 := (Rf.boxAt HW.out (pb := w.heap.size) (.tail _ (.head _))).1
  have p1 := (Rf.boxAt HW.out (pb := w.heap.size) (.tail _ (.head _))).2
  refine wp_region_still_tail 4 (by kernel_rfl) (by kernel_rfl) ?_
  simp only [List.take_succ_cons, List.take_zero, List.drop_succ_cons, List.drop_zero]
  change wpStill _ _ (World.drew m4) (fun a' => wpList _ _ _ _ a' (World.drew m4)) _ _
  have s0 : (World.drew m4).cell? ⟨w.heap.size, 0, none⟩ = some (.pointer none) := p0
  have s1 : (World.drew m4).cell? ⟨w.heap.size, 1, none⟩ = some (.pointer (some ⟨g, 0, none⟩)) := p1
  have HWd := Lib.hid (Rf.drew HW.out)
  have HBd := Lib.hid (below_drew' HB.out)
  clear p0 p1 HW HB
  generalize World.drew m4 = wa0 at s0 s1 HWd HBd ⊢
  repeat still_step
  refine wpStill_nil ?_
  clear s0 s1
  go_wp2_with fail
  ((with_reducible refine (unsigned_e HWd.out hs L0.out 3 3 rfl (by omega) (by omega) H1.out (j := 0) rfl (fr ((k : Int)) 0 0 0 0 0 0 0 0 0 0 []) rfl).mono ?_); rintro r wb0 ⟨rfl, h3, b3⟩)
  have HW := Lib.hid h3
  have HB := Lib.hid (HBd.out.trans b3)
  clear h3 b3 HWd HBd
  have p0 := (Rf.boxAt HW.out (pb := w.heap.size) (.tail _ (.head _))).1
  have p1 := (Rf.boxAt HW.out (pb := w.heap.size) (.tail _ (.head _))).2
  go_wp2_with fail
  refine wp_region_still_tail 4 (by kernel_rfl) (by kernel_rfl) ?_
  simp only [List.take_succ_cons, List.take_zero, List.drop_succ_cons, List.drop_zero]
  change wpStill _ _ (World.drew wb0) (fun a' => wpList _ _ _ _ a' (World.drew wb0)) _ _
  have s0 : (World.drew wb0).cell? ⟨w.heap.size, 0, none⟩ = some (.pointer none) := p0
  have s1 : (World.drew wb0).cell? ⟨w.heap.size, 1, none⟩ = some (.pointer (some ⟨g, 0, none⟩)) := p1
  have HWd := Lib.hid (Rf.drew HW.out)
  have HBd := Lib.hid (below_drew' HB.out)
  clear p0 p1 HW HB
  generalize World.drew wb0 = wa1 at s0 s1 HWd HBd ⊢
  repeat still_step
  refine wpStill_nil ?_
  clear s0 s1
  go_wp2_with fail
  ((with_reducible refine (unsigned_e HWd.out hs L1.out 5 5 rfl (by omega) (by omega) H2.out (j := 1) rfl (fr ((k : Int)) ((s : Int)) 0 0 0 0 0 0 0 0 0 []) rfl).mono ?_); rintro r wb1 ⟨rfl, h3, b3⟩)
  have HW := Lib.hid h3
  have HB := Lib.hid (HBd.out.trans b3)
  clear h3 b3 HWd HBd
  have p0 := (Rf.boxAt HW.out (pb := w.heap.size) (.tail _ (.head _))).1
  have p1 := (Rf.boxAt HW.out (pb := w.heap.size) (.tail _ (.head _))).2
  go_wp2_with fail
  refine wp_region_still_tail 4 (by kernel_rfl) (by kernel_rfl) ?_
  simp only [List.take_succ_cons, List.take_zero, List.drop_succ_cons, List.drop_zero]
  change wpStill _ _ (World.drew wb1) (fun a' => wpList _ _ _ _ a' (World.drew wb1)) _ _
  have s0 : (World.drew wb1).cell? ⟨w.heap.size, 0, none⟩ = some (.pointer none) := p0
  have s1 : (World.drew wb1).cell? ⟨w.heap.size, 1, none⟩ = some (.pointer (some ⟨g, 0, none⟩)) := p1
  have HWd := Lib.hid (Rf.drew HW.out)
  have HBd := Lib.hid (below_drew' HB.out)
  clear p0 p1 HW HB
  generalize World.drew wb1 = wa2 at s0 s1 HWd HBd ⊢
  repeat still_step
  refine wpStill_nil ?_
  clear s0 s1
  go_wp2_with fail
  ((with_reducible refine (target_e HWd.out hs L2.out H3.out rfl (fr ((k : Int)) ((s : Int)) (t) 0 0 0 0 0 0 0 0 []) rfl).mono ?_); rintro r wb2 ⟨rfl, h3, b3⟩)
  have HW := Lib.hid h3
  have HB := Lib.hid (HBd.out.trans b3)
  clear h3 b3 HWd HBd
  have p0 := (Rf.boxAt HW.out (pb := w.heap.size) (.tail _ (.head _))).1
  have p1 := (Rf.boxAt HW.out (pb := w.heap.size) (.tail _ (.head _))).2
  go_wp2_with fail
  refine wp_region_still_tail 4 (by kernel_rfl) (by kernel_rfl) ?_
  simp only [List.take_succ_cons, List.take_zero, List.drop_succ_cons, List.drop_zero]
  change wpStill _ _ (World.drew wb2) (fun a' => wpList _ _ _ _ a' (World.drew wb2)) _ _
  have s0 : (World.drew wb2).cell? ⟨w.heap.size, 0, none⟩ = some (.pointer none) := p0
  have s1 : (World.drew wb2).cell? ⟨w.heap.size, 1, none⟩ = some (.pointer (some ⟨g, 0, none⟩)) := p1
  have HWd := Lib.hid (Rf.drew HW.out)
  have HBd := Lib.hid (below_drew' HB.out)
  clear p0 p1 HW HB
  generalize World.drew wb2 = wa3 at s0 s1 HWd HBd ⊢
  repeat still_step
  refine wpStill_nil ?_
  clear s0 s1
  go_wp2_with fail
  ((with_reducible refine (unsigned_e HWd.out hs L3.out 8 8 rfl (by omega) (by omega) H4.out (j := 3) rfl (fr ((k : Int)) ((s : Int)) (t) ((a : Int)) 0 0 0 0 0 0 0 []) rfl).mono ?_); rintro r wb3 ⟨rfl, h3, b3⟩)
  have HW := Lib.hid h3
  have HB := Lib.hid (HBd.out.trans b3)
  clear h3 b3 HWd HBd
  have p0 := (Rf.boxAt HW.out (pb := w.heap.size) (.tail _ (.head _))).1
  have p1 := (Rf.boxAt HW.out (pb := w.heap.size) (.tail _ (.head _))).2
  go_wp2_with fail
  refine wp_region_still_tail 4 (by kernel_rfl) (by kernel_rfl) ?_
  simp only [List.take_succ_cons, List.take_zero, List.drop_succ_cons, List.drop_zero]
  change wpStill _ _ (World.drew wb3) (fun a' => wpList _ _ _ _ a' (World.drew wb3)) _ _
  have s0 : (World.drew wb3).cell? ⟨w.heap.size, 0, none⟩ = some (.pointer none) := p0
  have s1 : (World.drew wb3).cell? ⟨w.heap.size, 1, none⟩ = some (.pointer (some ⟨g, 0, none⟩)) := p1
  have HWd := Lib.hid (Rf.drew HW.out)
  have HBd := Lib.hid (below_drew' HB.out)
  clear p0 p1 HW HB
  generalize World.drew wb3 = wa4 at s0 s1 HWd HBd ⊢
  repeat still_step
  refine wpStill_nil ?_
  clear s0 s1
  go_wp2_with fail
  ((with_reducible refine (unsigned_e HWd.out hs L4.out 8 8 rfl (by omega) (by omega) H5.out (j := 4) rfl (fr ((k : Int)) ((s : Int)) (t) ((a : Int)) ((q : Int)) 0 0 0 0 0 0 []) rfl).mono ?_); rintro r wb4 ⟨rfl, h3, b3⟩)
  have HW := Lib.hid h3
  have HB := Lib.hid (HBd.out.trans b3)
  clear h3 b3 HWd HBd
  have p0 := (Rf.boxAt HW.out (pb := w.heap.size) (.tail _ (.head _))).1
  have p1 := (Rf.boxAt HW.out (pb := w.heap.size) (.tail _ (.head _))).2
  have k0 : wb4.cell? ⟨gf, 0, none⟩ = some (.int .i64 (k : Int)) := (Rf.cell HW.out rfl).1
  have hl := (HL.out wb4 (HW.out.1.guest (.tail _ (.head _)))).2.2.2.2 (k : Int) (by omega) (by omega) (by omega) (by omega) (by omega) (by omega)
  go_wp2_with fail
  go_ret
  exact ⟨rfl, HW.out.drop.drop, HB.out⟩
end Go.Proofs.Ytbgnkjaikbhdoaa.PenRd
