/- frame.pen.frame, writing: one walk for each kind. Printed by wip/penfr.py. (cut to what is reached: wip/tools/slimout2.py) -/
import Derived.Test.YtbgnkjaikbhdoaaFGPenF
namespace Go.Proofs.Ytbgnkjaikbhdoaa.PenFr
set_option linter.unusedSimpArgs false
set_option linter.unusedVariables false
open Go.RowKit Go.Proofs.Ytbgnkjaikbhdoaa.Pack Go.Proofs.Ytbgnkjaikbhdoaa.Wr Go.Proofs.Ytbgnkjaikbhdoaa.WrPut Go.Proofs.Ytbgnkjaikbhdoaa.WrAll Go.Proofs.Ytbgnkjaikbhdoaa.WrText Go.Proofs.Ytbgnkjaikbhdoaa.PenW Go.Proofs.Ytbgnkjaikbhdoaa.PenF
open Go.Proofs.Ytbgnkjaikbhdoaa.Bytes (Str)
def headBits (k s t l q : Int) : List Bool := bitsN 3 k.toNat ++ bitsN 5 s.toNat ++ targetBits t ++ bitsN 8 l.toNat ++ bitsN 8 q.toNat
theorem targetBits_length (t : Int) : (targetBits t).length ≤ 6 := by unfold targetBits; split <;> simp [bitsN_length]
theorem addG {B g n mb : Nat} {G : List (Nat × Obj)} {w : World} {l : List UInt8} {err : Int} {o : Obj} (h : WrL B G w g l n err) (ho : w.heap[mb]? = some o) (hne : mb ≠ g) (h8 : ¬ T8 o) : WrL B ((mb, o) :: G) w g l n err := by
  refine ⟨h.1, h.2.1, fun p hp => ?_⟩
  rcases List.mem_cons.1 hp with rfl | hp
  · exact ⟨ho, hne, h8⟩
  · exact h.2.2 p hp
set_option maxRecDepth 100000 in
set_option maxHeartbeats 8000000 in
theorem frame_data {B g gf : Nat} {G : List (Nat × Obj)} {w : World} {cs : Array Value} (h : Wr B G w g [] 0) (hG : (gf, .cells cs 23) ∈ G) (c0 : cs[0]? = some (.int .i64 1)) (s : Int) (c1 : cs[1]? = some (.int .i64 s)) (l1 : 0 ≤ s) (u1 : s ≤ 31) (t : Int) (c2 : cs[2]? = some (.int .i64 t)) (l2 : -1 ≤ t) (u2 : t ≤ 31) (l : Int) (c3 : cs[3]? = some (.int .i64 l)) (l3 : 0 ≤ l) (u3 : l ≤ 255) (q : Int) (c4 : cs[4]? = some (.int .i64 q)) (l4 : 0 ≤ q) (u4 : q ≤ 255) (x : Int) (c5 : cs[5]? = some (.int .i64 x)) (l5 : 0 ≤ x) (u5 : x ≤ 255) (y : Int) (c6 : cs[6]? = some (.int .i64 y)) (l6 : 0 ≤ y) (u6 : y ≤ 65535) (d : List UInt8) (c11 : cs[11]? = some (.string (Str d))) (hd : d.length ≤ 127) :
    Calls Try.prog 27 #[Pw g, .pointer (some ⟨gf, 0, none⟩)] w fun e w' => e = .returned (.bool true) ∧ Wr B G w' g (headBits 1 s t l q ++ (bitsN 8 x.toNat ++ bitsN 16 y.toNat ++ textBits d)) 0 ∧ Below B w w' := by
  have hlt := WrL.lt h
  have hB := h.1
  have hW0 : Wr B ((w.heap.size, Pb g) :: G) (w.alloc (Pb g)) g [] 0 := WrL.allocG h _ (pb_not8 g)
  have hB0 : Below B w (w.alloc (Pb g)) := Below.alloc (Below.refl B w) (by omega) _
  obtain ⟨m1, m2, m3, m4, o, r1, r2, r3, r4, mb, ms, mo, m8, look⟩ := kinds_map (w.alloc (Pb g))
  have es : (w.alloc (Pb g)).heap.size = w.heap.size + 1 := by simp
  have hW1 : Wr B ((w.heap.size + 1, o) :: (w.heap.size, Pb g) :: G) m4 g [] 0 := addG (WrL.below hW0 mb) (by rw [← es]; exact mo) (by omega) m8
  have hB1 : Below B w m4 := hB0.trans (mb.mono (by rw [es]; omega))
  rw [es] at r1 r2 r3 r4 look
  have HW1 := Lib.hid hW1
  have HB1 := Lib.hid hB1
  have HG := Lib.hid hG
  have HL := Lib.hid look
  have hmm := @run_makeMap Try.prog
  have p0 : m4.cell? ⟨w.heap.size, 0, none⟩ = some (.pointer (some ⟨g, 0, none⟩)) := guest_cell hW1 (.tail _ (.head _)) rfl
  have p1 : m4.cell? ⟨w.heap.size, 1, none⟩ = some (.pointer none) := guest_cell hW1 (.tail _ (.head _)) rfl
  clear hlt hG h hW0 hB0 mb ms mo m8 look es hW1 hB1
  go_enter Try.func27, Try.ntmps27
  go_wp2_with fail
  clear r1 r2 r3 r4 hmm
  refine wp_region_still_tail 4 (by kernel_rfl) (by kernel_rfl) ?_
  simp only [List.take_succ_cons, List.take_zero, List.drop_succ_cons, List.drop_zero]
  change wpStill _ _ (World.drew m4) (fun a' => wpList _ _ _ _ a' (World.drew m4)) _ _
  have s0 : (World.drew m4).cell? ⟨w.heap.size, 0, none⟩ = some (.pointer (some ⟨g, 0, none⟩)) := p0
  have s1 : (World.drew m4).cell? ⟨w.heap.size, 1, none⟩ = some (.pointer none) := p1
  have HWd := Lib.hid (WrL.drew HW1.out)
  have HBd := Lib.hid (below_drew' HB1.out)
  clear p0 p1 HW1 HB1
  generalize World.drew m4 = wa0 at s0 s1 HWd HBd ⊢
  repeat still_step
  refine wpStill_nil ?_
  clear s0 s1
  go_wp2_with fail
  refine (unsigned_w (j := 0) (show Wr _ _ _ _ _ _ from HWd.out) (.tail _ (.tail _ HG.out)) (k := 3) (by omega) (by omega) 1 c0 (by omega) (by omega) (by omega) (by first | omega | (simp only [List.length_append, List.length_nil, bitsN_length]; have := targetBits_length t; omega))).mono ?_
  rintro e wb0 ⟨rfl, h3, b3⟩
  have HW1 := Lib.hid h3
  have HB1 := Lib.hid (HBd.out.trans b3)
  clear h3 b3 HWd HBd
  have p0 : wb0.cell? ⟨w.heap.size, 0, none⟩ = some (.pointer (some ⟨g, 0, none⟩)) := guest_cell HW1.out (.tail _ (.head _)) rfl
  have p1 : wb0.cell? ⟨w.heap.size, 1, none⟩ = some (.pointer none) := guest_cell HW1.out (.tail _ (.head _)) rfl
  go_wp2_with fail
  refine wp_region_still_tail 4 (by kernel_rfl) (by kernel_rfl) ?_
  simp only [List.take_succ_cons, List.take_zero, List.drop_succ_cons, List.drop_zero]
  change wpStill _ _ (World.drew wb0) (fun a' => wpList _ _ _ _ a' (World.drew wb0)) _ _
  have s0 : (World.drew wb0).cell? ⟨w.heap.size, 0, none⟩ = some (.pointer (some ⟨g, 0, none⟩)) := p0
  have s1 : (World.drew wb0).cell? ⟨w.heap.size, 1, none⟩ = some (.pointer none) := p1
  have HWd := Lib.hid (WrL.drew HW1.out)
  have HBd := Lib.hid (below_drew' HB1.out)
  clear p0 p1 HW1 HB1
  generalize World.drew wb0 = wa1 at s0 s1 HWd HBd ⊢
  repeat still_step
  refine wpStill_nil ?_
  clear s0 s1
  go_wp2_with fail
  refine (unsigned_w (j := 1) (show Wr _ _ _ _ _ _ from HWd.out) (.tail _ (.tail _ HG.out)) (k := 5) (by omega) (by omega) s c1 (by omega) (by omega) (by omega) (by first | omega | (simp only [List.length_append, List.length_nil, bitsN_length]; have := targetBits_length t; omega))).mono ?_
  rintro e wb1 ⟨rfl, h3, b3⟩
  have HW1 := Lib.hid h3
  have HB1 := Lib.hid (HBd.out.trans b3)
  clear h3 b3 HWd HBd
  have p0 : wb1.cell? ⟨w.heap.size, 0, none⟩ = some (.pointer (some ⟨g, 0, none⟩)) := guest_cell HW1.out (.tail _ (.head _)) rfl
  have p1 : wb1.cell? ⟨w.heap.size, 1, none⟩ = some (.pointer none) := guest_cell HW1.out (.tail _ (.head _)) rfl
  go_wp2_with fail
  refine wp_region_still_tail 4 (by kernel_rfl) (by kernel_rfl) ?_
  simp only [List.take_succ_cons, List.take_zero, List.drop_succ_cons, List.drop_zero]
  change wpStill _ _ (World.drew wb1) (fun a' => wpList _ _ _ _ a' (World.drew wb1)) _ _
  have s0 : (World.drew wb1).cell? ⟨w.heap.size, 0, none⟩ = some (.pointer (some ⟨g, 0, none⟩)) := p0
  have s1 : (World.drew wb1).cell? ⟨w.heap.size, 1, none⟩ = some (.pointer none) := p1
  have HWd := Lib.hid (WrL.drew HW1.out)
  have HBd := Lib.hid (below_drew' HB1.out)
  clear p0 p1 HW1 HB1
  generalize World.drew wb1 = wa2 at s0 s1 HWd HBd ⊢
  repeat still_step
  refine wpStill_nil ?_
  clear s0 s1
  go_wp2_with fail
  refine (target_w (show Wr _ _ _ _ _ _ from HWd.out) (.tail _ (.tail _ HG.out)) t c2 l2 u2 (by simp only [List.length_nil, List.length_append, bitsN_length]; omega)).mono ?_
  rintro e wb2 ⟨rfl, h3, b3⟩
  have HW1 := Lib.hid h3
  have HB1 := Lib.hid (HBd.out.trans b3)
  clear h3 b3 HWd HBd
  have p0 : wb2.cell? ⟨w.heap.size, 0, none⟩ = some (.pointer (some ⟨g, 0, none⟩)) := guest_cell HW1.out (.tail _ (.head _)) rfl
  have p1 : wb2.cell? ⟨w.heap.size, 1, none⟩ = some (.pointer none) := guest_cell HW1.out (.tail _ (.head _)) rfl
  go_wp2_with fail
  refine wp_region_still_tail 4 (by kernel_rfl) (by kernel_rfl) ?_
  simp only [List.take_succ_cons, List.take_zero, List.drop_succ_cons, List.drop_zero]
  change wpStill _ _ (World.drew wb2) (fun a' => wpList _ _ _ _ a' (World.drew wb2)) _ _
  have s0 : (World.drew wb2).cell? ⟨w.heap.size, 0, none⟩ = some (.pointer (some ⟨g, 0, none⟩)) := p0
  have s1 : (World.drew wb2).cell? ⟨w.heap.size, 1, none⟩ = some (.pointer none) := p1
  have HWd := Lib.hid (WrL.drew HW1.out)
  have HBd := Lib.hid (below_drew' HB1.out)
  clear p0 p1 HW1 HB1
  generalize World.drew wb2 = wa3 at s0 s1 HWd HBd ⊢
  repeat still_step
  refine wpStill_nil ?_
  clear s0 s1
  go_wp2_with fail
  refine (unsigned_w (j := 3) (show Wr _ _ _ _ _ _ from HWd.out) (.tail _ (.tail _ HG.out)) (k := 8) (by omega) (by omega) l c3 (by omega) (by omega) (by omega) (by first | omega | (simp only [List.length_append, List.length_nil, bitsN_length]; have := targetBits_length t; omega))).mono ?_
  rintro e wb3 ⟨rfl, h3, b3⟩
  have HW1 := Lib.hid h3
  have HB1 := Lib.hid (HBd.out.trans b3)
  clear h3 b3 HWd HBd
  have p0 : wb3.cell? ⟨w.heap.size, 0, none⟩ = some (.pointer (some ⟨g, 0, none⟩)) := guest_cell HW1.out (.tail _ (.head _)) rfl
  have p1 : wb3.cell? ⟨w.heap.size, 1, none⟩ = some (.pointer none) := guest_cell HW1.out (.tail _ (.head _)) rfl
  go_wp2_with fail
  refine wp_region_still_tail 4 (by kernel_rfl) (by kernel_rfl) ?_
  simp only [List.take_succ_cons, List.take_zero, List.drop_succ_cons, List.drop_zero]
  change wpStill _ _ (World.drew wb3) (fun a' => wpList _ _ _ _ a' (World.drew wb3)) _ _
  have s0 : (World.drew wb3).cell? ⟨w.heap.size, 0, none⟩ = some (.pointer (some ⟨g, 0, none⟩)) := p0
  have s1 : (World.drew wb3).cell? ⟨w.heap.size, 1, none⟩ = some (.pointer none) := p1
  have HWd := Lib.hid (WrL.drew HW1.out)
  have HBd := Lib.hid (below_drew' HB1.out)
  clear p0 p1 HW1 HB1
  generalize World.drew wb3 = wa4 at s0 s1 HWd HBd ⊢
  repeat still_step
  refine wpStill_nil ?_
  clear s0 s1
  go_wp2_with fail
  refine (unsigned_w (j := 4) (show Wr _ _ _ _ _ _ from HWd.out) (.tail _ (.tail _ HG.out)) (k := 8) (by omega) (by omega) q c4 (by omega) (by omega) (by omega) (by first | omega | (simp only [List.length_append, List.length_nil, bitsN_length]; have := targetBits_length t; omega))).mono ?_
  rintro e wb4 ⟨rfl, h3, b3⟩
  have HW1 := Lib.hid h3
  have HB1 := Lib.hid (HBd.out.trans b3)
  clear h3 b3 HWd HBd
  have p0 : wb4.cell? ⟨w.heap.size, 0, none⟩ = some (.pointer (some ⟨g, 0, none⟩)) := guest_cell HW1.out (.tail _ (.head _)) rfl
  have p1 : wb4.cell? ⟨w.heap.size, 1, none⟩ = some (.pointer none) := guest_cell HW1.out (.tail _ (.head _)) rfl
  have k0 : wb4.cell? ⟨gf, 0, none⟩ = some (.int .i64 1) := guest_cell HW1.out (.tail _ (.tail _ HG.out)) c0
  have hl := (HL.out wb4 (WrL.guest HW1.out (.head _))).1
  go_wp2_with fail
  refine (data_w (show Wr _ _ _ _ _ _ from HW1.out) (.tail _ (.tail _ HG.out)) x c5 l5 u5 y c6 l6 u6 d c11 hd (by first | omega | (simp only [List.length_append, List.length_nil, bitsN_length]; have := targetBits_length t; omega))).mono ?_
  rintro e wz ⟨rfl, h3, b3⟩
  have HWz := Lib.hid h3
  have HBz := Lib.hid (HB1.out.trans b3)
  clear h3 b3 p0 p1 k0 hl
  go_wp2_with fail
  go_ret
  have h9 : Wr B G _ g _ _ := WrL.drop (WrL.drop HWz.out)
  exact ⟨rfl, by unfold headBits; simpa only [List.nil_append, List.append_assoc, List.append_nil] using h9, HBz.out⟩
set_option maxRecDepth 100000 in
set_option maxHeartbeats 8000000 in
theorem frame_data_long {B g gf : Nat} {G : List (Nat × Obj)} {w : World} {cs : Array Value} (h : Wr B G w g [] 0) (hG : (gf, .cells cs 23) ∈ G) (c0 : cs[0]? = some (.int .i64 1)) (s : Int) (c1 : cs[1]? = some (.int .i64 s)) (l1 : 0 ≤ s) (u1 : s ≤ 31) (t : Int) (c2 : cs[2]? = some (.int .i64 t)) (l2 : -1 ≤ t) (u2 : t ≤ 31) (l : Int) (c3 : cs[3]? = some (.int .i64 l)) (l3 : 0 ≤ l) (u3 : l ≤ 255) (q : Int) (c4 : cs[4]? = some (.int .i64 q)) (l4 : 0 ≤ q) (u4 : q ≤ 255) (x : Int) (c5 : cs[5]? = some (.int .i64 x)) (l5 : 0 ≤ x) (u5 : x ≤ 255) (y : Int) (c6 : cs[6]? = some (.int .i64 y)) (l6 : 0 ≤ y) (u6 : y ≤ 65535) (d : List UInt8) (c11 : cs[11]? = some (.string (Str d))) (hd : 127 < d.length) :
    Calls Try.prog 27 #[Pw g, .pointer (some ⟨gf, 0, none⟩)] w fun e w' => e = .returned (.bool true) ∧ Wr B G w' g (headBits 1 s t l q ++ (bitsN 8 x.toNat ++ bitsN 16 y.toNat)) 8 ∧ Below B w w' := by
  have hlt := WrL.lt h
  have hB := h.1
  have hW0 : Wr B ((w.heap.size, Pb g) :: G) (w.alloc (Pb g)) g [] 0 := WrL.allocG h _ (pb_not8 g)
  have hB0 : Below B w (w.alloc (Pb g)) := Below.alloc (Below.refl B w) (by omega) _
  obtain ⟨m1, m2, m3, m4, o, r1, r2, r3, r4, mb, ms, mo, m8, look⟩ := kinds_map (w.alloc (Pb g))
  have es : (w.alloc (Pb g)).heap.size = w.heap.size + 1 := by simp
  have hW1 : Wr B ((w.heap.size + 1, o) :: (w.heap.size, Pb g) :: G) m4 g [] 0 := addG (WrL.below hW0 mb) (by rw [← es]; exact mo) (by omega) m8
  have hB1 : Below B w m4 := hB0.trans (mb.mono (by rw [es]; omega))
  rw [es] at r1 r2 r3 r4 look
  have HW1 := Lib.hid hW1
  have HB1 := Lib.hid hB1
  have HG := Lib.hid hG
  have HL := Lib.hid look
  have hmm := @run_makeMap Try.prog
  have p0 : m4.cell? ⟨w.heap.size, 0, none⟩ = some (.pointer (some ⟨g, 0, none⟩)) := guest_cell hW1 (.tail _ (.head _)) rfl
  have p1 : m4.cell? ⟨w.heap.size, 1, none⟩ = some (.pointer none) := guest_cell hW1 (.tail _ (.head _)) rfl
  clear hlt hG h hW0 hB0 mb ms mo m8 look es hW1 hB1
  go_enter Try.func27, Try.ntmps27
  go_wp2_with fail
  clear r1 r2 r3 r4 hmm
  refine wp_region_still_tail 4 (by kernel_rfl) (by kernel_rfl) ?_
  simp only [List.take_succ_cons, List.take_zero, List.drop_succ_cons, List.drop_zero]
  change wpStill _ _ (World.drew m4) (fun a' => wpList _ _ _ _ a' (World.drew m4)) _ _
  have s0 : (World.drew m4).cell? ⟨w.heap.size, 0, none⟩ = some (.pointer (some ⟨g, 0, none⟩)) := p0
  have s1 : (World.drew m4).cell? ⟨w.heap.size, 1, none⟩ = some (.pointer none) := p1
  have HWd := Lib.hid (WrL.drew HW1.out)
  have HBd := Lib.hid (below_drew' HB1.out)
  clear p0 p1 HW1 HB1
  generalize World.drew m4 = wa0 at s0 s1 HWd HBd ⊢
  repeat still_step
  refine wpStill_nil ?_
  clear s0 s1
  go_wp2_with fail
  refine (unsigned_w (j := 0) (show Wr _ _ _ _ _ _ from HWd.out) (.tail _ (.tail _ HG.out)) (k := 3) (by omega) (by omega) 1 c0 (by omega) (by omega) (by omega) (by first | omega | (simp only [List.length_append, List.length_nil, bitsN_length]; have := targetBits_length t; omega))).mono ?_
  rintro e wb0 ⟨rfl, h3, b3⟩
  have HW1 := Lib.hid h3
  have HB1 := Lib.hid (HBd.out.trans b3)
  clear h3 b3 HWd HBd
  have p0 : wb0.cell? ⟨w.heap.size, 0, none⟩ = some (.pointer (some ⟨g, 0, none⟩)) := guest_cell HW1.out (.tail _ (.head _)) rfl
  have p1 : wb0.cell? ⟨w.heap.size, 1, none⟩ = some (.pointer none) := guest_cell HW1.out (.tail _ (.head _)) rfl
  go_wp2_with fail
  refine wp_region_still_tail 4 (by kernel_rfl) (by kernel_rfl) ?_
  simp only [List.take_succ_cons, List.take_zero, List.drop_succ_cons, List.drop_zero]
  change wpStill _ _ (World.drew wb0) (fun a' => wpList _ _ _ _ a' (World.drew wb0)) _ _
  have s0 : (World.drew wb0).cell? ⟨w.heap.size, 0, none⟩ = some (.pointer (some ⟨g, 0, none⟩)) := p0
  have s1 : (World.drew wb0).cell? ⟨w.heap.size, 1, none⟩ = some (.pointer none) := p1
  have HWd := Lib.hid (WrL.drew HW1.out)
  have HBd := Lib.hid (below_drew' HB1.out)
  clear p0 p1 HW1 HB1
  generalize World.drew wb0 = wa1 at s0 s1 HWd HBd ⊢
  repeat still_step
  refine wpStill_nil ?_
  clear s0 s1
  go_wp2_with fail
  refine (unsigned_w (j := 1) (show Wr _ _ _ _ _ _ from HWd.out) (.tail _ (.tail _ HG.out)) (k := 5) (by omega) (by omega) s c1 (by omega) (by omega) (by omega) (by first | omega | (simp only [List.length_append, List.length_nil, bitsN_length]; have := targetBits_length t; omega))).mono ?_
  rintro e wb1 ⟨rfl, h3, b3⟩
  have HW1 := Lib.hid h3
  have HB1 := Lib.hid (HBd.out.trans b3)
  clear h3 b3 HWd HBd
  have p0 : wb1.cell? ⟨w.heap.size, 0, none⟩ = some (.pointer (some ⟨g, 0, none⟩)) := guest_cell HW1.out (.tail _ (.head _)) rfl
  have p1 : wb1.cell? ⟨w.heap.size, 1, none⟩ = some (.pointer none) := guest_cell HW1.out (.tail _ (.head _)) rfl
  go_wp2_with fail
  refine wp_region_still_tail 4 (by kernel_rfl) (by kernel_rfl) ?_
  simp only [List.take_succ_cons, List.take_zero, List.drop_succ_cons, List.drop_zero]
  change wpStill _ _ (World.drew wb1) (fun a' => wpList _ _ _ _ a' (World.drew wb1)) _ _
  have s0 : (World.drew wb1).cell? ⟨w.heap.size, 0, none⟩ = some (.pointer (some ⟨g, 0, none⟩)) := p0
  have s1 : (World.drew wb1).cell? ⟨w.heap.size, 1, none⟩ = some (.pointer none) := p1
  have HWd := Lib.hid (WrL.drew HW1.out)
  have HBd := Lib.hid (below_drew' HB1.out)
  clear p0 p1 HW1 HB1
  generalize World.drew wb1 = wa2 at s0 s1 HWd HBd ⊢
  repeat still_step
  refine wpStill_nil ?_
  clear s0 s1
  go_wp2_with fail
  refine (target_w (show Wr _ _ _ _ _ _ from HWd.out) (.tail _ (.tail _ HG.out)) t c2 l2 u2 (by simp only [List.length_nil, List.length_append, bitsN_length]; omega)).mono ?_
  rintro e wb2 ⟨rfl, h3, b3⟩
  have HW1 := Lib.hid h3
  have HB1 := Lib.hid (HBd.out.trans b3)
  clear h3 b3 HWd HBd
  have p0 : wb2.cell? ⟨w.heap.size, 0, none⟩ = some (.pointer (some ⟨g, 0, none⟩)) := guest_cell HW1.out (.tail _ (.head _)) rfl
  have p1 : wb2.cell? ⟨w.heap.size, 1, none⟩ = some (.pointer none) := guest_cell HW1.out (.tail _ (.head _)) rfl
  go_wp2_with fail
  refine wp_region_still_tail 4 (by kernel_rfl) (by kernel_rfl) ?_
  simp only [List.take_succ_cons, List.take_zero, List.drop_succ_cons, List.drop_zero]
  change wpStill _ _ (World.drew wb2) (fun a' => wpList _ _ _ _ a' (World.drew wb2)) _ _
  have s0 : (World.drew wb2).cell? ⟨w.heap.size, 0, none⟩ = some (.pointer (some ⟨g, 0, none⟩)) := p0
  have s1 : (World.drew wb2).cell? ⟨w.heap.size, 1, none⟩ = some (.pointer none) := p1
  have HWd := Lib.hid (WrL.drew HW1.out)
  have HBd := Lib.hid (below_drew' HB1.out)
  clear p0 p1 HW1 HB1
  generalize World.drew wb2 = wa3 at s0 s1 HWd HBd ⊢
  repeat still_step
  refine wpStill_nil ?_
  clear s0 s1
  go_wp2_with fail
  refine (unsigned_w (j := 3) (show Wr _ _ _ _ _ _ from HWd.out) (.tail _ (.tail _ HG.out)) (k := 8) (by omega) (by omega) l c3 (by omega) (by omega) (by omega) (by first | omega | (simp only [List.length_append, List.length_nil, bitsN_length]; have := targetBits_length t; omega))).mono ?_
  rintro e wb3 ⟨rfl, h3, b3⟩
  have HW1 := Lib.hid h3
  have HB1 := Lib.hid (HBd.out.trans b3)
  clear h3 b3 HWd HBd
  have p0 : wb3.cell? ⟨w.heap.size, 0, none⟩ = some (.pointer (some ⟨g, 0, none⟩)) := guest_cell HW1.out (.tail _ (.head _)) rfl
  have p1 : wb3.cell? ⟨w.heap.size, 1, none⟩ = some (.pointer none) := guest_cell HW1.out (.tail _ (.head _)) rfl
  go_wp2_with fail
  refine wp_region_still_tail 4 (by kernel_rfl) (by kernel_rfl) ?_
  simp only [List.take_succ_cons, List.take_zero, List.drop_succ_cons, List.drop_zero]
  change wpStill _ _ (World.drew wb3) (fun a' => wpList _ _ _ _ a' (World.drew wb3)) _ _
  have s0 : (World.drew wb3).cell? ⟨w.heap.size, 0, none⟩ = some (.pointer (some ⟨g, 0, none⟩)) := p0
  have s1 : (World.drew wb3).cell? ⟨w.heap.size, 1, none⟩ = some (.pointer none) := p1
  have HWd := Lib.hid (WrL.drew HW1.out)
  have HBd := Lib.hid (below_drew' HB1.out)
  clear p0 p1 HW1 HB1
  generalize World.drew wb3 = wa4 at s0 s1 HWd HBd ⊢
  repeat still_step
  refine wpStill_nil ?_
  clear s0 s1
  go_wp2_with fail
  refine (unsigned_w (j := 4) (show Wr _ _ _ _ _ _ from HWd.out) (.tail _ (.tail _ HG.out)) (k := 8) (by omega) (by omega) q c4 (by omega) (by omega) (by omega) (by first | omega | (simp only [List.length_append, List.length_nil, bitsN_length]; have := targetBits_length t; omega))).mono ?_
  rintro e wb4 ⟨rfl, h3, b3⟩
  have HW1 := Lib.hid h3
  have HB1 := Lib.hid (HBd.out.trans b3)
  clear h3 b3 HWd HBd
  have p0 : wb4.cell? ⟨w.heap.size, 0, none⟩ = some (.pointer (some ⟨g, 0, none⟩)) := guest_cell HW1.out (.tail _ (.head _)) rfl
  have p1 : wb4.cell? ⟨w.heap.size, 1, none⟩ = some (.pointer none) := guest_cell HW1.out (.tail _ (.head _)) rfl
  have k0 : wb4.cell? ⟨gf, 0, none⟩ = some (.int .i64 1) := guest_cell HW1.out (.tail _ (.tail _ HG.out)) c0
  have hl := (HL.out wb4 (WrL.guest HW1.out (.head _))).1
  go_wp2_with fail
  refine (data_w_long (show Wr _ _ _ _ _ _ from HW1.out) (.tail _ (.tail _ HG.out)) x c5 l5 u5 y c6 l6 u6 d c11 hd (by first | omega | (simp only [List.length_append, List.length_nil, bitsN_length]; have := targetBits_length t; omega))).mono ?_
  rintro e wz ⟨rfl, h3, b3⟩
  have HWz := Lib.hid h3
  have HBz := Lib.hid (HB1.out.trans b3)
  clear h3 b3 p0 p1 k0 hl
  go_wp2_with fail
  go_ret
  have h9 : Wr B G _ g _ _ := WrL.drop (WrL.drop HWz.out)
  exact ⟨rfl, by unfold headBits; simpa only [List.nil_append, List.append_assoc, List.append_nil] using h9, HBz.out⟩
set_option maxRecDepth 100000 in
set_option maxHeartbeats 8000000 in
theorem frame_ack {B g gf : Nat} {G : List (Nat × Obj)} {w : World} {cs : Array Value} (h : Wr B G w g [] 0) (hG : (gf, .cells cs 23) ∈ G) (c0 : cs[0]? = some (.int .i64 2)) (s : Int) (c1 : cs[1]? = some (.int .i64 s)) (l1 : 0 ≤ s) (u1 : s ≤ 31) (t : Int) (c2 : cs[2]? = some (.int .i64 t)) (l2 : -1 ≤ t) (u2 : t ≤ 31) (l : Int) (c3 : cs[3]? = some (.int .i64 l)) (l3 : 0 ≤ l) (u3 : l ≤ 255) (q : Int) (c4 : cs[4]? = some (.int .i64 q)) (l4 : 0 ≤ q) (u4 : q ≤ 255) (x : Int) (c7 : cs[7]? = some (.int .i64 x)) (l7 : -32768 ≤ x) (u7 : x ≤ 32767) :
    Calls Try.prog 27 #[Pw g, .pointer (some ⟨gf, 0, none⟩)] w fun e w' => e = .returned (.bool true) ∧ Wr B G w' g (headBits 2 s t l q ++ (bitsN 16 (x % 18446744073709551616).toNat)) 0 ∧ Below B w w' := by
  have hlt := WrL.lt h
  have hB := h.1
  have hW0 : Wr B ((w.heap.size, Pb g) :: G) (w.alloc (Pb g)) g [] 0 := WrL.allocG h _ (pb_not8 g)
  have hB0 : Below B w (w.alloc (Pb g)) := Below.alloc (Below.refl B w) (by omega) _
  obtain ⟨m1, m2, m3, m4, o, r1, r2, r3, r4, mb, ms, mo, m8, look⟩ := kinds_map (w.alloc (Pb g))
  have es : (w.alloc (Pb g)).heap.size = w.heap.size + 1 := by simp
  have hW1 : Wr B ((w.heap.size + 1, o) :: (w.heap.size, Pb g) :: G) m4 g [] 0 := addG (WrL.below hW0 mb) (by rw [← es]; exact mo) (by omega) m8
  have hB1 : Below B w m4 := hB0.trans (mb.mono (by rw [es]; omega))
  rw [es] at r1 r2 r3 r4 look
  have HW1 := Lib.hid hW1
  have HB1 := Lib.hid hB1
  have HG := Lib.hid hG
  have HL := Lib.hid look
  have hmm := @run_makeMap Try.prog
  have p0 : m4.cell? ⟨w.heap.size, 0, none⟩ = some (.pointer (some ⟨g, 0, none⟩)) := guest_cell hW1 (.tail _ (.head _)) rfl
  have p1 : m4.cell? ⟨w.heap.size, 1, none⟩ = some (.pointer none) := guest_cell hW1 (.tail _ (.head _)) rfl
  clear hlt hG h hW0 hB0 mb ms mo m8 look es hW1 hB1
  go_enter Try.func27, Try.ntmps27
  go_wp2_with fail
  clear r1 r2 r3 r4 hmm
  refine wp_region_still_tail 4 (by kernel_rfl) (by kernel_rfl) ?_
  simp only [List.take_succ_cons, List.take_zero, List.drop_succ_cons, List.drop_zero]
  change wpStill _ _ (World.drew m4) (fun a' => wpList _ _ _ _ a' (World.drew m4)) _ _
  have s0 : (World.drew m4).cell? ⟨w.heap.size, 0, none⟩ = some (.pointer (some ⟨g, 0, none⟩)) := p0
  have s1 : (World.drew m4).cell? ⟨w.heap.size, 1, none⟩ = some (.pointer none) := p1
  have HWd := Lib.hid (WrL.drew HW1.out)
  have HBd := Lib.hid (below_drew' HB1.out)
  clear p0 p1 HW1 HB1
  generalize World.drew m4 = wa0 at s0 s1 HWd HBd ⊢
  repeat still_step
  refine wpStill_nil ?_
  clear s0 s1
  go_wp2_with fail
  refine (unsigned_w (j := 0) (show Wr _ _ _ _ _ _ from HWd.out) (.tail _ (.tail _ HG.out)) (k := 3) (by omega) (by omega) 2 c0 (by omega) (by omega) (by omega) (by first | omega | (simp only [List.length_append, List.length_nil, bitsN_length]; have := targetBits_length t; omega))).mono ?_
  rintro e wb0 ⟨rfl, h3, b3⟩
  have HW1 := Lib.hid h3
  have HB1 := Lib.hid (HBd.out.trans b3)
  clear h3 b3 HWd HBd
  have p0 : wb0.cell? ⟨w.heap.size, 0, none⟩ = some (.pointer (some ⟨g, 0, none⟩)) := guest_cell HW1.out (.tail _ (.head _)) rfl
  have p1 : wb0.cell? ⟨w.heap.size, 1, none⟩ = some (.pointer none) := guest_cell HW1.out (.tail _ (.head _)) rfl
  go_wp2_with fail
  refine wp_region_still_tail 4 (by kernel_rfl) (by kernel_rfl) ?_
  simp only [List.take_succ_cons, List.take_zero, List.drop_succ_cons, List.drop_zero]
  change wpStill _ _ (World.drew wb0) (fun a' => wpList _ _ _ _ a' (World.drew wb0)) _ _
  have s0 : (World.drew wb0).cell? ⟨w.heap.size, 0, none⟩ = some (.pointer (some ⟨g, 0, none⟩)) := p0
  have s1 : (World.drew wb0).cell? ⟨w.heap.size, 1, none⟩ = some (.pointer none) := p1
  have HWd := Lib.hid (WrL.drew HW1.out)
  have HBd := Lib.hid (below_drew' HB1.out)
  clear p0 p1 HW1 HB1
  generalize World.drew wb0 = wa1 at s0 s1 HWd HBd ⊢
  repeat still_step
  refine wpStill_nil ?_
  clear s0 s1
  go_wp2_with fail
  refine (unsigned_w (j := 1) (show Wr _ _ _ _ _ _ from HWd.out) (.tail _ (.tail _ HG.out)) (k := 5) (by omega) (by omega) s c1 (by omega) (by omega) (by omega) (by first | omega | (simp only [List.length_append, List.length_nil, bitsN_length]; have := targetBits_length t; omega))).mono ?_
  rintro e wb1 ⟨rfl, h3, b3⟩
  have HW1 := Lib.hid h3
  have HB1 := Lib.hid (HBd.out.trans b3)
  clear h3 b3 HWd HBd
  have p0 : wb1.cell? ⟨w.heap.size, 0, none⟩ = some (.pointer (some ⟨g, 0, none⟩)) := guest_cell HW1.out (.tail _ (.head _)) rfl
  have p1 : wb1.cell? ⟨w.heap.size, 1, none⟩ = some (.pointer none) := guest_cell HW1.out (.tail _ (.head _)) rfl
  go_wp2_with fail
  refine wp_region_still_tail 4 (by kernel_rfl) (by kernel_rfl) ?_
  simp only [List.take_succ_cons, List.take_zero, List.drop_succ_cons, List.drop_zero]
  change wpStill _ _ (World.drew wb1) (fun a' => wpList _ _ _ _ a' (World.drew wb1)) _ _
  have s0 : (World.drew wb1).cell? ⟨w.heap.size, 0, none⟩ = some (.pointer (some ⟨g, 0, none⟩)) := p0
  have s1 : (World.drew wb1).cell? ⟨w.heap.size, 1, none⟩ = some (.pointer none) := p1
  have HWd := Lib.hid (WrL.drew HW1.out)
  have HBd := Lib.hid (below_drew' HB1.out)
  clear p0 p1 HW1 HB1
  generalize World.drew wb1 = wa2 at s0 s1 HWd HBd ⊢
  repeat still_step
  refine wpStill_nil ?_
  clear s0 s1
  go_wp2_with fail
  refine (target_w (show Wr _ _ _ _ _ _ from HWd.out) (.tail _ (.tail _ HG.out)) t c2 l2 u2 (by simp only [List.length_nil, List.length_append, bitsN_length]; omega)).mono ?_
  rintro e wb2 ⟨rfl, h3, b3⟩
  have HW1 := Lib.hid h3
  have HB1 := Lib.hid (HBd.out.trans b3)
  clear h3 b3 HWd HBd
  have p0 : wb2.cell? ⟨w.heap.size, 0, none⟩ = some (.pointer (some ⟨g, 0, none⟩)) := guest_cell HW1.out (.tail _ (.head _)) rfl
  have p1 : wb2.cell? ⟨w.heap.size, 1, none⟩ = some (.pointer none) := guest_cell HW1.out (.tail _ (.head _)) rfl
  go_wp2_with fail
  refine wp_region_still_tail 4 (by kernel_rfl) (by kernel_rfl) ?_
  simp only [List.take_succ_cons, List.take_zero, List.drop_succ_cons, List.drop_zero]
  change wpStill _ _ (World.drew wb2) (fun a' => wpList _ _ _ _ a' (World.drew wb2)) _ _
  have s0 : (World.drew wb2).cell? ⟨w.heap.size, 0, none⟩ = some (.pointer (some ⟨g, 0, none⟩)) := p0
  have s1 : (World.drew wb2).cell? ⟨w.heap.size, 1, none⟩ = some (.pointer none) := p1
  have HWd := Lib.hid (WrL.drew HW1.out)
  have HBd := Lib.hid (below_drew' HB1.out)
  clear p0 p1 HW1 HB1
  generalize World.drew wb2 = wa3 at s0 s1 HWd HBd ⊢
  repeat still_step
  refine wpStill_nil ?_
  clear s0 s1
  go_wp2_with fail
  refine (unsigned_w (j := 3) (show Wr _ _ _ _ _ _ from HWd.out) (.tail _ (.tail _ HG.out)) (k := 8) (by omega) (by omega) l c3 (by omega) (by omega) (by omega) (by first | omega | (simp only [List.length_append, List.length_nil, bitsN_length]; have := targetBits_length t; omega))).mono ?_
  rintro e wb3 ⟨rfl, h3, b3⟩
  have HW1 := Lib.hid h3
  have HB1 := Lib.hid (HBd.out.trans b3)
  clear h3 b3 HWd HBd
  have p0 : wb3.cell? ⟨w.heap.size, 0, none⟩ = some (.pointer (some ⟨g, 0, none⟩)) := guest_cell HW1.out (.tail _ (.head _)) rfl
  have p1 : wb3.cell? ⟨w.heap.size, 1, none⟩ = some (.pointer none) := guest_cell HW1.out (.tail _ (.head _)) rfl
  go_wp2_with fail
  refine wp_region_still_tail 4 (by kernel_rfl) (by kernel_rfl) ?_
  simp only [List.take_succ_cons, List.take_zero, List.drop_succ_cons, List.drop_zero]
  change wpStill _ _ (World.drew wb3) (fun a' => wpList _ _ _ _ a' (World.drew wb3)) _ _
  have s0 : (World.drew wb3).cell? ⟨w.heap.size, 0, none⟩ = some (.pointer (some ⟨g, 0, none⟩)) := p0
  have s1 : (World.drew wb3).cell? ⟨w.heap.size, 1, none⟩ = some (.pointer none) := p1
  have HWd := Lib.hid (WrL.drew HW1.out)
  have HBd := Lib.hid (below_drew' HB1.out)
  clear p0 p1 HW1 HB1
  generalize World.drew wb3 = wa4 at s0 s1 HWd HBd ⊢
  repeat still_step
  refine wpStill_nil ?_
  clear s0 s1
  go_wp2_with fail
  refine (unsigned_w (j := 4) (show Wr _ _ _ _ _ _ from HWd.out) (.tail _ (.tail _ HG.out)) (k := 8) (by omega) (by omega) q c4 (by omega) (by omega) (by omega) (by first | omega | (simp only [List.length_append, List.length_nil, bitsN_length]; have := targetBits_length t; omega))).mono ?_
  rintro e wb4 ⟨rfl, h3, b3⟩
  have HW1 := Lib.hid h3
  have HB1 := Lib.hid (HBd.out.trans b3)
  clear h3 b3 HWd HBd
  have p0 : wb4.cell? ⟨w.heap.size, 0, none⟩ = some (.pointer (some ⟨g, 0, none⟩)) := guest_cell HW1.out (.tail _ (.head _)) rfl
  have p1 : wb4.cell? ⟨w.heap.size, 1, none⟩ = some (.pointer none) := guest_cell HW1.out (.tail _ (.head _)) rfl
  have k0 : wb4.cell? ⟨gf, 0, none⟩ = some (.int .i64 2) := guest_cell HW1.out (.tail _ (.tail _ HG.out)) c0
  have hl := (HL.out wb4 (WrL.guest HW1.out (.head _))).2.1
  go_wp2_with fail
  refine (ack_w (show Wr _ _ _ _ _ _ from HW1.out) (.tail _ (.tail _ HG.out)) x c7 l7 u7 (by first | omega | (simp only [List.length_append, List.length_nil, bitsN_length]; have := targetBits_length t; omega))).mono ?_
  rintro e wz ⟨rfl, h3, b3⟩
  have HWz := Lib.hid h3
  have HBz := Lib.hid (HB1.out.trans b3)
  clear h3 b3 p0 p1 k0 hl
  go_wp2_with fail
  go_ret
  have h9 : Wr B G _ g _ _ := WrL.drop (WrL.drop HWz.out)
  exact ⟨rfl, by unfold headBits; simpa only [List.nil_append, List.append_assoc, List.append_nil] using h9, HBz.out⟩
set_option maxRecDepth 100000 in
set_option maxHeartbeats 8000000 in
theorem frame_beacon {B g gf : Nat} {G : List (Nat × Obj)} {w : World} {cs : Array Value} (h : Wr B G w g [] 0) (hG : (gf, .cells cs 23) ∈ G) (c0 : cs[0]? = some (.int .i64 3)) (s : Int) (c1 : cs[1]? = some (.int .i64 s)) (l1 : 0 ≤ s) (u1 : s ≤ 31) (t : Int) (c2 : cs[2]? = some (.int .i64 t)) (l2 : -1 ≤ t) (u2 : t ≤ 31) (l : Int) (c3 : cs[3]? = some (.int .i64 l)) (l3 : 0 ≤ l) (u3 : l ≤ 255) (q : Int) (c4 : cs[4]? = some (.int .i64 q)) (l4 : 0 ≤ q) (u4 : q ≤ 255) (x : Int) (c8 : cs[8]? = some (.int .i64 x)) (l8 : 0 ≤ x) (u8 : x ≤ 109951162) (y : Int) (c9 : cs[9]? = some (.int .i64 y)) (l9 : 0 ≤ y) (u9 : y ≤ 65535) (z : Int) (c10 : cs[10]? = some (.int .i64 z)) (l10 : 0 ≤ z) (u10 : z ≤ 65535) (d : List UInt8) (c11 : cs[11]? = some (.string (Str d))) (hd : d.length ≤ 127) :
    Calls Try.prog 27 #[Pw g, .pointer (some ⟨gf, 0, none⟩)] w fun e w' => e = .returned (.bool true) ∧ Wr B G w' g (headBits 3 s t l q ++ (bitsN 27 x.toNat ++ bitsN 16 y.toNat ++ bitsN 16 z.toNat ++ textBits d)) 0 ∧ Below B w w' := by
  have hlt := WrL.lt h
  have hB := h.1
  have hW0 : Wr B ((w.heap.size, Pb g) :: G) (w.alloc (Pb g)) g [] 0 := WrL.allocG h _ (pb_not8 g)
  have hB0 : Below B w (w.alloc (Pb g)) := Below.alloc (Below.refl B w) (by omega) _
  obtain ⟨m1, m2, m3, m4, o, r1, r2, r3, r4, mb, ms, mo, m8, look⟩ := kinds_map (w.alloc (Pb g))
  have es : (w.alloc (Pb g)).heap.size = w.heap.size + 1 := by simp
  have hW1 : Wr B ((w.heap.size + 1, o) :: (w.heap.size, Pb g) :: G) m4 g [] 0 := addG (WrL.below hW0 mb) (by rw [← es]; exact mo) (by omega) m8
  have hB1 : Below B w m4 := hB0.trans (mb.mono (by rw [es]; omega))
  rw [es] at r1 r2 r3 r4 look
  have HW1 := Lib.hid hW1
  have HB1 := Lib.hid hB1
  have HG := Lib.hid hG
  have HL := Lib.hid look
  have hmm := @run_makeMap Try.prog
  have p0 : m4.cell? ⟨w.heap.size, 0, none⟩ = some (.pointer (some ⟨g, 0, none⟩)) := guest_cell hW1 (.tail _ (.head _)) rfl
  have p1 : m4.cell? ⟨w.heap.size, 1, none⟩ = some (.pointer none) := guest_cell hW1 (.tail _ (.head _)) rfl
  clear hlt hG h hW0 hB0 mb ms mo m8 look es hW1 hB1
  go_enter Try.func27, Try.ntmps27
  go_wp2_with fail
  clear r1 r2 r3 r4 hmm
  refine wp_region_still_tail 4 (by kernel_rfl) (by kernel_rfl) ?_
  simp only [List.take_succ_cons, List.take_zero, List.drop_succ_cons, List.drop_zero]
  change wpStill _ _ (World.drew m4) (fun a' => wpList _ _ _ _ a' (World.drew m4)) _ _
  have s0 : (World.drew m4).cell? ⟨w.heap.size, 0, none⟩ = some (.pointer (some ⟨g, 0, none⟩)) := p0
  have s1 : (World.drew m4).cell? ⟨w.heap.size, 1, none⟩ = some (.pointer none) := p1
  have HWd := Lib.hid (WrL.drew HW1.out)
  have HBd := Lib.hid (below_drew' HB1.out)
  clear p0 p1 HW1 HB1
  generalize World.drew m4 = wa0 at s0 s1 HWd HBd ⊢
  repeat still_step
  refine wpStill_nil ?_
  clear s0 s1
  go_wp2_with fail
  refine (unsigned_w (j := 0) (show Wr _ _ _ _ _ _ from HWd.out) (.tail _ (.tail _ HG.out)) (k := 3) (by omega) (by omega) 3 c0 (by omega) (by omega) (by omega) (by first | omega | (simp only [List.length_append, List.length_nil, bitsN_length]; have := targetBits_length t; omega))).mono ?_
  rintro e wb0 ⟨rfl, h3, b3⟩
  have HW1 := Lib.hid h3
  have HB1 := Lib.hid (HBd.out.trans b3)
  clear h3 b3 HWd HBd
  have p0 : wb0.cell? ⟨w.heap.size, 0, none⟩ = some (.pointer (some ⟨g, 0, none⟩)) := guest_cell HW1.out (.tail _ (.head _)) rfl
  have p1 : wb0.cell? ⟨w.heap.size, 1, none⟩ = some (.pointer none) := guest_cell HW1.out (.tail _ (.head _)) rfl
  go_wp2_with fail
  refine wp_region_still_tail 4 (by kernel_rfl) (by kernel_rfl) ?_
  simp only [List.take_succ_cons, List.take_zero, List.drop_succ_cons, List.drop_zero]
  change wpStill _ _ (World.drew wb0) (fun a' => wpList _ _ _ _ a' (World.drew wb0)) _ _
  have s0 : (World.drew wb0).cell? ⟨w.heap.size, 0, none⟩ = some (.pointer (some ⟨g, 0, none⟩)) := p0
  have s1 : (World.drew wb0).cell? ⟨w.heap.size, 1, none⟩ = some (.pointer none) := p1
  have HWd := Lib.hid (WrL.drew HW1.out)
  have HBd := Lib.hid (below_drew' HB1.out)
  clear p0 p1 HW1 HB1
  generalize World.drew wb0 = wa1 at s0 s1 HWd HBd ⊢
  repeat still_step
  refine wpStill_nil ?_
  clear s0 s1
  go_wp2_with fail
  refine (unsigned_w (j := 1) (show Wr _ _ _ _ _ _ from HWd.out) (.tail _ (.tail _ HG.out)) (k := 5) (by omega) (by omega) s c1 (by omega) (by omega) (by omega) (by first | omega | (simp only [List.length_append, List.length_nil, bitsN_length]; have := targetBits_length t; omega))).mono ?_
  rintro e wb1 ⟨rfl, h3, b3⟩
  have HW1 := Lib.hid h3
  have HB1 := Lib.hid (HBd.out.trans b3)
  clear h3 b3 HWd HBd
  have p0 : wb1.cell? ⟨w.heap.size, 0, none⟩ = some (.pointer (some ⟨g, 0, none⟩)) := guest_cell HW1.out (.tail _ (.head _)) rfl
  have p1 : wb1.cell? ⟨w.heap.size, 1, none⟩ = some (.pointer none) := guest_cell HW1.out (.tail _ (.head _)) rfl
  go_wp2_with fail
  refine wp_region_still_tail 4 (by kernel_rfl) (by kernel_rfl) ?_
  simp only [List.take_succ_cons, List.take_zero, List.drop_succ_cons, List.drop_zero]
  change wpStill _ _ (World.drew wb1) (fun a' => wpList _ _ _ _ a' (World.drew wb1)) _ _
  have s0 : (World.drew wb1).cell? ⟨w.heap.size, 0, none⟩ = some (.pointer (some ⟨g, 0, none⟩)) := p0
  have s1 : (World.drew wb1).cell? ⟨w.heap.size, 1, none⟩ = some (.pointer none) := p1
  have HWd := Lib.hid (WrL.drew HW1.out)
  have HBd := Lib.hid (below_drew' HB1.out)
  clear p0 p1 HW1 HB1
  generalize World.drew wb1 = wa2 at s0 s1 HWd HBd ⊢
  repeat still_step
  refine wpStill_nil ?_
  clear s0 s1
  go_wp2_with fail
  refine (target_w (show Wr _ _ _ _ _ _ from HWd.out) (.tail _ (.tail _ HG.out)) t c2 l2 u2 (by simp only [List.length_nil, List.length_append, bitsN_length]; omega)).mono ?_
  rintro e wb2 ⟨rfl, h3, b3⟩
  have HW1 := Lib.hid h3
  have HB1 := Lib.hid (HBd.out.trans b3)
  clear h3 b3 HWd HBd
  have p0 : wb2.cell? ⟨w.heap.size, 0, none⟩ = some (.pointer (some ⟨g, 0, none⟩)) := guest_cell HW1.out (.tail _ (.head _)) rfl
  have p1 : wb2.cell? ⟨w.heap.size, 1, none⟩ = some (.pointer none) := guest_cell HW1.out (.tail _ (.head _)) rfl
  go_wp2_with fail
  refine wp_region_still_tail 4 (by kernel_rfl) (by kernel_rfl) ?_
  simp only [List.take_succ_cons, List.take_zero, List.drop_succ_cons, List.drop_zero]
  change wpStill _ _ (World.drew wb2) (fun a' => wpList _ _ _ _ a' (World.drew wb2)) _ _
  have s0 : (World.drew wb2).cell? ⟨w.heap.size, 0, none⟩ = some (.pointer (some ⟨g, 0, none⟩)) := p0
  have s1 : (World.drew wb2).cell? ⟨w.heap.size, 1, none⟩ = some (.pointer none) := p1
  have HWd := Lib.hid (WrL.drew HW1.out)
  have HBd := Lib.hid (below_drew' HB1.out)
  clear p0 p1 HW1 HB1
  generalize World.drew wb2 = wa3 at s0 s1 HWd HBd ⊢
  repeat still_step
  refine wpStill_nil ?_
  clear s0 s1
  go_wp2_with fail
  refine (unsigned_w (j := 3) (show Wr _ _ _ _ _ _ from HWd.out) (.tail _ (.tail _ HG.out)) (k := 8) (by omega) (by omega) l c3 (by omega) (by omega) (by omega) (by first | omega | (simp only [List.length_append, List.length_nil, bitsN_length]; have := targetBits_length t; omega))).mono ?_
  rintro e wb3 ⟨rfl, h3, b3⟩
  have HW1 := Lib.hid h3
  have HB1 := Lib.hid (HBd.out.trans b3)
  clear h3 b3 HWd HBd
  have p0 : wb3.cell? ⟨w.heap.size, 0, none⟩ = some (.pointer (some ⟨g, 0, none⟩)) := guest_cell HW1.out (.tail _ (.head _)) rfl
  have p1 : wb3.cell? ⟨w.heap.size, 1, none⟩ = some (.pointer none) := guest_cell HW1.out (.tail _ (.head _)) rfl
  go_wp2_with fail
  refine wp_region_still_tail 4 (by kernel_rfl) (by kernel_rfl) ?_
  simp only [List.take_succ_cons, List.take_zero, List.drop_succ_cons, List.drop_zero]
  change wpStill _ _ (World.drew wb3) (fun a' => wpList _ _ _ _ a' (World.drew wb3)) _ _
  have s0 : (World.drew wb3).cell? ⟨w.heap.size, 0, none⟩ = some (.pointer (some ⟨g, 0, none⟩)) := p0
  have s1 : (World.drew wb3).cell? ⟨w.heap.size, 1, none⟩ = some (.pointer none) := p1
  have HWd := Lib.hid (WrL.drew HW1.out)
  have HBd := Lib.hid (below_drew' HB1.out)
  clear p0 p1 HW1 HB1
  generalize World.drew wb3 = wa4 at s0 s1 HWd HBd ⊢
  repeat still_step
  refine wpStill_nil ?_
  clear s0 s1
  go_wp2_with fail
  refine (unsigned_w (j := 4) (show Wr _ _ _ _ _ _ from HWd.out) (.tail _ (.tail _ HG.out)) (k := 8) (by omega) (by omega) q c4 (by omega) (by omega) (by omega) (by first | omega | (simp only [List.length_append, List.length_nil, bitsN_length]; have := targetBits_length t; omega))).mono ?_
  rintro e wb4 ⟨rfl, h3, b3⟩
  have HW1 := Lib.hid h3
  have HB1 := Lib.hid (HBd.out.trans b3)
  clear h3 b3 HWd HBd
  have p0 : wb4.cell? ⟨w.heap.size, 0, none⟩ = some (.pointer (some ⟨g, 0, none⟩)) := guest_cell HW1.out (.tail _ (.head _)) rfl
  have p1 : wb4.cell? ⟨w.heap.size, 1, none⟩ = some (.pointer none) := guest_cell HW1.out (.tail _ (.head _)) rfl
  have k0 : wb4.cell? ⟨gf, 0, none⟩ = some (.int .i64 3) := guest_cell HW1.out (.tail _ (.tail _ HG.out)) c0
  have hl := (HL.out wb4 (WrL.guest HW1.out (.head _))).2.2.1
  go_wp2_with fail
  refine (beacon_w (show Wr _ _ _ _ _ _ from HW1.out) (.tail _ (.tail _ HG.out)) x c8 l8 u8 y c9 l9 u9 z c10 l10 u10 d c11 hd (by first | omega | (simp only [List.length_append, List.length_nil, bitsN_length]; have := targetBits_length t; omega))).mono ?_
  rintro e wz ⟨rfl, h3, b3⟩
  have HWz := Lib.hid h3
  have HBz := Lib.hid (HB1.out.trans b3)
  clear h3 b3 p0 p1 k0 hl
  go_wp2_with fail
  go_ret
  have h9 : Wr B G _ g _ _ := WrL.drop (WrL.drop HWz.out)
  exact ⟨rfl, by unfold headBits; simpa only [List.nil_append, List.append_assoc, List.append_nil] using h9, HBz.out⟩
set_option maxRecDepth 100000 in
set_option maxHeartbeats 8000000 in
theorem frame_beacon_long {B g gf : Nat} {G : List (Nat × Obj)} {w : World} {cs : Array Value} (h : Wr B G w g [] 0) (hG : (gf, .cells cs 23) ∈ G) (c0 : cs[0]? = some (.int .i64 3)) (s : Int) (c1 : cs[1]? = some (.int .i64 s)) (l1 : 0 ≤ s) (u1 : s ≤ 31) (t : Int) (c2 : cs[2]? = some (.int .i64 t)) (l2 : -1 ≤ t) (u2 : t ≤ 31) (l : Int) (c3 : cs[3]? = some (.int .i64 l)) (l3 : 0 ≤ l) (u3 : l ≤ 255) (q : Int) (c4 : cs[4]? = some (.int .i64 q)) (l4 : 0 ≤ q) (u4 : q ≤ 255) (x : Int) (c8 : cs[8]? = some (.int .i64 x)) (l8 : 0 ≤ x) (u8 : x ≤ 109951162) (y : Int) (c9 : cs[9]? = some (.int .i64 y)) (l9 : 0 ≤ y) (u9 : y ≤ 65535) (z : Int) (c10 : cs[10]? = some (.int .i64 z)) (l10 : 0 ≤ z) (u10 : z ≤ 65535) (d : List UInt8) (c11 : cs[11]? = some (.string (Str d))) (hd : 127 < d.length) :
    Calls Try.prog 27 #[Pw g, .pointer (some ⟨gf, 0, none⟩)] w fun e w' => e = .returned (.bool true) ∧ Wr B G w' g (headBits 3 s t l q ++ (bitsN 27 x.toNat ++ bitsN 16 y.toNat ++ bitsN 16 z.toNat)) 8 ∧ Below B w w' := by
  have hlt := WrL.lt h
  have hB := h.1
  have hW0 : Wr B ((w.heap.size, Pb g) :: G) (w.alloc (Pb g)) g [] 0 := WrL.allocG h _ (pb_not8 g)
  have hB0 : Below B w (w.alloc (Pb g)) := Below.alloc (Below.refl B w) (by omega) _
  obtain ⟨m1, m2, m3, m4, o, r1, r2, r3, r4, mb, ms, mo, m8, look⟩ := kinds_map (w.alloc (Pb g))
  have es : (w.alloc (Pb g)).heap.size = w.heap.size + 1 := by simp
  have hW1 : Wr B ((w.heap.size + 1, o) :: (w.heap.size, Pb g) :: G) m4 g [] 0 := addG (WrL.below hW0 mb) (by rw [← es]; exact mo) (by omega) m8
  have hB1 : Below B w m4 := hB0.trans (mb.mono (by rw [es]; omega))
  rw [es] at r1 r2 r3 r4 look
  have HW1 := Lib.hid hW1
  have HB1 := Lib.hid hB1
  have HG := Lib.hid hG
  have HL := Lib.hid look
  have hmm := @run_makeMap Try.prog
  have p0 : m4.cell? ⟨w.heap.size, 0, none⟩ = some (.pointer (some ⟨g, 0, none⟩)) := guest_cell hW1 (.tail _ (.head _)) rfl
  have p1 : m4.cell? ⟨w.heap.size, 1, none⟩ = some (.pointer none) := guest_cell hW1 (.tail _ (.head _)) rfl
  clear hlt hG h hW0 hB0 mb ms mo m8 look es hW1 hB1
  go_enter Try.func27, Try.ntmps27
  go_wp2_with fail
  clear r1 r2 r3 r4 hmm
  refine wp_region_still_tail 4 (by kernel_rfl) (by kernel_rfl) ?_
  simp only [List.take_succ_cons, List.take_zero, List.drop_succ_cons, List.drop_zero]
  change wpStill _ _ (World.drew m4) (fun a' => wpList _ _ _ _ a' (World.drew m4)) _ _
  have s0 : (World.drew m4).cell? ⟨w.heap.size, 0, none⟩ = some (.pointer (some ⟨g, 0, none⟩)) := p0
  have s1 : (World.drew m4).cell? ⟨w.heap.size, 1, none⟩ = some (.pointer none) := p1
  have HWd := Lib.hid (WrL.drew HW1.out)
  have HBd := Lib.hid (below_drew' HB1.out)
  clear p0 p1 HW1 HB1
  generalize World.drew m4 = wa0 at s0 s1 HWd HBd ⊢
  repeat still_step
  refine wpStill_nil ?_
  clear s0 s1
  go_wp2_with fail
  refine (unsigned_w (j := 0) (show Wr _ _ _ _ _ _ from HWd.out) (.tail _ (.tail _ HG.out)) (k := 3) (by omega) (by omega) 3 c0 (by omega) (by omega) (by omega) (by first | omega | (simp only [List.length_append, List.length_nil, bitsN_length]; have := targetBits_length t; omega))).mono ?_
  rintro e wb0 ⟨rfl, h3, b3⟩
  have HW1 := Lib.hid h3
  have HB1 := Lib.hid (HBd.out.trans b3)
  clear h3 b3 HWd HBd
  have p0 : wb0.cell? ⟨w.heap.size, 0, none⟩ = some (.pointer (some ⟨g, 0, none⟩)) := guest_cell HW1.out (.tail _ (.head _)) rfl
  have p1 : wb0.cell? ⟨w.heap.size, 1, none⟩ = some (.pointer none) := guest_cell HW1.out (.tail _ (.head _)) rfl
  go_wp2_with fail
  refine wp_region_still_tail 4 (by kernel_rfl) (by kernel_rfl) ?_
  simp only [List.take_succ_cons, List.take_zero, List.drop_succ_cons, List.drop_zero]
  change wpStill _ _ (World.drew wb0) (fun a' => wpList _ _ _ _ a' (World.drew wb0)) _ _
  have s0 : (World.drew wb0).cell? ⟨w.heap.size, 0, none⟩ = some (.pointer (some ⟨g, 0, none⟩)) := p0
  have s1 : (World.drew wb0).cell? ⟨w.heap.size, 1, none⟩ = some (.pointer none) := p1
  have HWd := Lib.hid (WrL.drew HW1.out)
  have HBd := Lib.hid (below_drew' HB1.out)
  clear p0 p1 HW1 HB1
  generalize World.drew wb0 = wa1 at s0 s1 HWd HBd ⊢
  repeat still_step
  refine wpStill_nil ?_
  clear s0 s1
  go_wp2_with fail
  refine (unsigned_w (j := 1) (show Wr _ _ _ _ _ _ from HWd.out) (.tail _ (.tail _ HG.out)) (k := 5) (by omega) (by omega) s c1 (by omega) (by omega) (by omega) (by first | omega | (simp only [List.length_append, List.length_nil, bitsN_length]; have := targetBits_length t; omega))).mono ?_
  rintro e wb1 ⟨rfl, h3, b3⟩
  have HW1 := Lib.hid h3
  have HB1 := Lib.hid (HBd.out.trans b3)
  clear h3 b3 HWd HBd
  have p0 : wb1.cell? ⟨w.heap.size, 0, none⟩ = some (.pointer (some ⟨g, 0, none⟩)) := guest_cell HW1.out (.tail _ (.head _)) rfl
  have p1 : wb1.cell? ⟨w.heap.size, 1, none⟩ = some (.pointer none) := guest_cell HW1.out (.tail _ (.head _)) rfl
  go_wp2_with fail
  refine wp_region_still_tail 4 (by kernel_rfl) (by kernel_rfl) ?_
  simp only [List.take_succ_cons, List.take_zero, List.drop_succ_cons, List.drop_zero]
  change wpStill _ _ (World.drew wb1) (fun a' => wpList _ _ _ _ a' (World.drew wb1)) _ _
  have s0 : (World.drew wb1).cell? ⟨w.heap.size, 0, none⟩ = some (.pointer (some ⟨g, 0, none⟩)) := p0
  have s1 : (World.drew wb1).cell? ⟨w.heap.size, 1, none⟩ = some (.pointer none) := p1
  have HWd := Lib.hid (WrL.drew HW1.out)
  have HBd := Lib.hid (below_drew' HB1.out)
  clear p0 p1 HW1 HB1
  generalize World.drew wb1 = wa2 at s0 s1 HWd HBd ⊢
  repeat still_step
  refine wpStill_nil ?_
  clear s0 s1
  go_wp2_with fail
  refine (target_w (show Wr _ _ _ _ _ _ from HWd.out) (.tail _ (.tail _ HG.out)) t c2 l2 u2 (by simp only [List.length_nil, List.length_append, bitsN_length]; omega)).mono ?_
  rintro e wb2 ⟨rfl, h3, b3⟩
  have HW1 := Lib.hid h3
  have HB1 := Lib.hid (HBd.out.trans b3)
  clear h3 b3 HWd HBd
  have p0 : wb2.cell? ⟨w.heap.size, 0, none⟩ = some (.pointer (some ⟨g, 0, none⟩)) := guest_cell HW1.out (.tail _ (.head _)) rfl
  have p1 : wb2.cell? ⟨w.heap.size, 1, none⟩ = some (.pointer none) := guest_cell HW1.out (.tail _ (.head _)) rfl
  go_wp2_with fail
  refine wp_region_still_tail 4 (by kernel_rfl) (by kernel_rfl) ?_
  simp only [List.take_succ_cons, List.take_zero, List.drop_succ_cons, List.drop_zero]
  change wpStill _ _ (World.drew wb2) (fun a' => wpList _ _ _ _ a' (World.drew wb2)) _ _
  have s0 : (World.drew wb2).cell? ⟨w.heap.size, 0, none⟩ = some (.pointer (some ⟨g, 0, none⟩)) := p0
  have s1 : (World.drew wb2).cell? ⟨w.heap.size, 1, none⟩ = some (.pointer none) := p1
  have HWd := Lib.hid (WrL.drew HW1.out)
  have HBd := Lib.hid (below_drew' HB1.out)
  clear p0 p1 HW1 HB1
  generalize World.drew wb2 = wa3 at s0 s1 HWd HBd ⊢
  repeat still_step
  refine wpStill_nil ?_
  clear s0 s1
  go_wp2_with fail
  refine (unsigned_w (j := 3) (show Wr _ _ _ _ _ _ from HWd.out) (.tail _ (.tail _ HG.out)) (k := 8) (by omega) (by omega) l c3 (by omega) (by omega) (by omega) (by first | omega | (simp only [List.length_append, List.length_nil, bitsN_length]; have := targetBits_length t; omega))).mono ?_
  rintro e wb3 ⟨rfl, h3, b3⟩
  have HW1 := Lib.hid h3
  have HB1 := Lib.hid (HBd.out.trans b3)
  clear h3 b3 HWd HBd
  have p0 : wb3.cell? ⟨w.heap.size, 0, none⟩ = some (.pointer (some ⟨g, 0, none⟩)) := guest_cell HW1.out (.tail _ (.head _)) rfl
  have p1 : wb3.cell? ⟨w.heap.size, 1, none⟩ = some (.pointer none) := guest_cell HW1.out (.tail _ (.head _)) rfl
  go_wp2_with fail
  refine wp_region_still_tail 4 (by kernel_rfl) (by kernel_rfl) ?_
  simp only [List.take_succ_cons, List.take_zero, List.drop_succ_cons, List.drop_zero]
  change wpStill _ _ (World.drew wb3) (fun a' => wpList _ _ _ _ a' (World.drew wb3)) _ _
  have s0 : (World.drew wb3).cell? ⟨w.heap.size, 0, none⟩ = some (.pointer (some ⟨g, 0, none⟩)) := p0
  have s1 : (World.drew wb3).cell? ⟨w.heap.size, 1, none⟩ = some (.pointer none) := p1
  have HWd := Lib.hid (WrL.drew HW1.out)
  have HBd := Lib.hid (below_drew' HB1.out)
  clear p0 p1 HW1 HB1
  generalize World.drew wb3 = wa4 at s0 s1 HWd HBd ⊢
  repeat still_step
  refine wpStill_nil ?_
  clear s0 s1
  go_wp2_with fail
  refine (unsigned_w (j := 4) (show Wr _ _ _ _ _ _ from HWd.out) (.tail _ (.tail _ HG.out)) (k := 8) (by omega) (by omega) q c4 (by omega) (by omega) (by omega) (by first | omega | (simp only [List.length_append, List.length_nil, bitsN_length]; have := targetBits_length t; omega))).mono ?_
  rintro e wb4 ⟨rfl, h3, b3⟩
  have HW1 := Lib.hid h3
  have HB1 := Lib.hid (HBd.out.trans b3)
  clear h3 b3 HWd HBd
  have p0 : wb4.cell? ⟨w.heap.size, 0, none⟩ = some (.pointer (some ⟨g, 0, none⟩)) := guest_cell HW1.out (.tail _ (.head _)) rfl
  have p1 : wb4.cell? ⟨w.heap.size, 1, none⟩ = some (.pointer none) := guest_cell HW1.out (.tail _ (.head _)) rfl
  have k0 : wb4.cell? ⟨gf, 0, none⟩ = some (.int .i64 3) := guest_cell HW1.out (.tail _ (.tail _ HG.out)) c0
  have hl := (HL.out wb4 (WrL.guest HW1.out (.head _))).2.2.1
  go_wp2_with fail
  refine (beacon_w_long (show Wr _ _ _ _ _ _ from HW1.out) (.tail _ (.tail _ HG.out)) x c8 l8 u8 y c9 l9 u9 z c10 l10 u10 d c11 hd (by first | omega | (simp only [List.length_append, List.length_nil, bitsN_length]; have := targetBits_length t; omega))).mono ?_
  rintro e wz ⟨rfl, h3, b3⟩
  have HWz := Lib.hid h3
  have HBz := Lib.hid (HB1.out.trans b3)
  clear h3 b3 p0 p1 k0 hl
  go_wp2_with fail
  go_ret
  have h9 : Wr B G _ g _ _ := WrL.drop (WrL.drop HWz.out)
  exact ⟨rfl, by unfold headBits; simpa only [List.nil_append, List.append_assoc, List.append_nil] using h9, HBz.out⟩
set_option maxRecDepth 100000 in
set_option maxHeartbeats 8000000 in
theorem frame_message {B g gf : Nat} {G : List (Nat × Obj)} {w : World} {cs : Array Value} (h : Wr B G w g [] 0) (hG : (gf, .cells cs 23) ∈ G) (c0 : cs[0]? = some (.int .i64 4)) (s : Int) (c1 : cs[1]? = some (.int .i64 s)) (l1 : 0 ≤ s) (u1 : s ≤ 31) (t : Int) (c2 : cs[2]? = some (.int .i64 t)) (l2 : -1 ≤ t) (u2 : t ≤ 31) (l : Int) (c3 : cs[3]? = some (.int .i64 l)) (l3 : 0 ≤ l) (u3 : l ≤ 255) (q : Int) (c4 : cs[4]? = some (.int .i64 q)) (l4 : 0 ≤ q) (u4 : q ≤ 255) (d : List UInt8) (c11 : cs[11]? = some (.string (Str d))) (hd : d.length ≤ 127) :
    Calls Try.prog 27 #[Pw g, .pointer (some ⟨gf, 0, none⟩)] w fun e w' => e = .returned (.bool true) ∧ Wr B G w' g (headBits 4 s t l q ++ (textBits d)) 0 ∧ Below B w w' := by
  have hlt := WrL.lt h
  have hB := h.1
  have hW0 : Wr B ((w.heap.size, Pb g) :: G) (w.alloc (Pb g)) g [] 0 := WrL.allocG h _ (pb_not8 g)
  have hB0 : Below B w (w.alloc (Pb g)) := Below.alloc (Below.refl B w) (by omega) _
  obtain ⟨m1, m2, m3, m4, o, r1, r2, r3, r4, mb, ms, mo, m8, look⟩ := kinds_map (w.alloc (Pb g))
  have es : (w.alloc (Pb g)).heap.size = w.heap.size + 1 := by simp
  have hW1 : Wr B ((w.heap.size + 1, o) :: (w.heap.size, Pb g) :: G) m4 g [] 0 := addG (WrL.below hW0 mb) (by rw [← es]; exact mo) (by omega) m8
  have hB1 : Below B w m4 := hB0.trans (mb.mono (by rw [es]; omega))
  rw [es] at r1 r2 r3 r4 look
  have HW1 := Lib.hid hW1
  have HB1 := Lib.hid hB1
  have HG := Lib.hid hG
  have HL := Lib.hid look
  have hmm := @run_makeMap Try.prog
  have p0 : m4.cell? ⟨w.heap.size, 0, none⟩ = some (.pointer (some ⟨g, 0, none⟩)) := guest_cell hW1 (.tail _ (.head _)) rfl
  have p1 : m4.cell? ⟨w.heap.size, 1, none⟩ = some (.pointer none) := guest_cell hW1 (.tail _ (.head _)) rfl
  clear hlt hG h hW0 hB0 mb ms mo m8 look es hW1 hB1
  go_enter Try.func27, Try.ntmps27
  go_wp2_with fail
  clear r1 r2 r3 r4 hmm
  refine wp_region_still_tail 4 (by kernel_rfl) (by kernel_rfl) ?_
  simp only [List.take_succ_cons, List.take_zero, List.drop_succ_cons, List.drop_zero]
  change wpStill _ _ (World.drew m4) (fun a' => wpList _ _ _ _ a' (World.drew m4)) _ _
  have s0 : (World.drew m4).cell? ⟨w.heap.size, 0, none⟩ = some (.pointer (some ⟨g, 0, none⟩)) := p0
  have s1 : (World.drew m4).cell? ⟨w.heap.size, 1, none⟩ = some (.pointer none) := p1
  have HWd := Lib.hid (WrL.drew HW1.out)
  have HBd := Lib.hid (below_drew' HB1.out)
  clear p0 p1 HW1 HB1
  generalize World.drew m4 = wa0 at s0 s1 HWd HBd ⊢
  repeat still_step
  refine wpStill_nil ?_
  clear s0 s1
  go_wp2_with fail
  refine (unsigned_w (j := 0) (show Wr _ _ _ _ _ _ from HWd.out) (.tail _ (.tail _ HG.out)) (k := 3) (by omega) (by omega) 4 c0 (by omega) (by omega) (by omega) (by first | omega | (simp only [List.length_append, List.length_nil, bitsN_length]; have := targetBits_length t; omega))).mono ?_
  rintro e wb0 ⟨rfl, h3, b3⟩
  have HW1 := Lib.hid h3
  have HB1 := Lib.hid (HBd.out.trans b3)
  clear h3 b3 HWd HBd
  have p0 : wb0.cell? ⟨w.heap.size, 0, none⟩ = some (.pointer (some ⟨g, 0, none⟩)) := guest_cell HW1.out (.tail _ (.head _)) rfl
  have p1 : wb0.cell? ⟨w.heap.size, 1, none⟩ = some (.pointer none) := guest_cell HW1.out (.tail _ (.head _)) rfl
  go_wp2_with fail
  refine wp_region_still_tail 4 (by kernel_rfl) (by kernel_rfl) ?_
  simp only [List.take_succ_cons, List.take_zero, List.drop_succ_cons, List.drop_zero]
  change wpStill _ _ (World.drew wb0) (fun a' => wpList _ _ _ _ a' (World.drew wb0)) _ _
  have s0 : (World.drew wb0).cell? ⟨w.heap.size, 0, none⟩ = some (.pointer (some ⟨g, 0, none⟩)) := p0
  have s1 : (World.drew wb0).cell? ⟨w.heap.size, 1, none⟩ = some (.pointer none) := p1
  have HWd := Lib.hid (WrL.drew HW1.out)
  have HBd := Lib.hid (below_drew' HB1.out)
  clear p0 p1 HW1 HB1
  generalize World.drew wb0 = wa1 at s0 s1 HWd HBd ⊢
  repeat still_step
  refine wpStill_nil ?_
  clear s0 s1
  go_wp2_with fail
  refine (unsigned_w (j := 1) (show Wr _ _ _ _ _ _ from HWd.out) (.tail _ (.tail _ HG.out)) (k := 5) (by omega) (by omega) s c1 (by omega) (by omega) (by omega) (by first | omega | (simp only [List.length_append, List.length_nil, bitsN_length]; have := targetBits_length t; omega))).mono ?_
  rintro e wb1 ⟨rfl, h3, b3⟩
  have HW1 := Lib.hid h3
  have HB1 := Lib.hid (HBd.out.trans b3)
  clear h3 b3 HWd HBd
  have p0 : wb1.cell? ⟨w.heap.size, 0, none⟩ = some (.pointer (some ⟨g, 0, none⟩)) := guest_cell HW1.out (.tail _ (.head _)) rfl
  have p1 : wb1.cell? ⟨w.heap.size, 1, none⟩ = some (.pointer none) := guest_cell HW1.out (.tail _ (.head _)) rfl
  go_wp2_with fail
  refine wp_region_still_tail 4 (by kernel_rfl) (by kernel_rfl) ?_
  simp only [List.take_succ_cons, List.take_zero, List.drop_succ_cons, List.drop_zero]
  change wpStill _ _ (World.drew wb1) (fun a' => wpList _ _ _ _ a' (World.drew wb1)) _ _
  have s0 : (World.drew wb1).cell? ⟨w.heap.size, 0, none⟩ = some (.pointer (some ⟨g, 0, none⟩)) := p0
  have s1 : (World.drew wb1).cell? ⟨w.heap.size, 1, none⟩ = some (.pointer none) := p1
  have HWd := Lib.hid (WrL.drew HW1.out)
  have HBd := Lib.hid (below_drew' HB1.out)
  clear p0 p1 HW1 HB1
  generalize World.drew wb1 = wa2 at s0 s1 HWd HBd ⊢
  repeat still_step
  refine wpStill_nil ?_
  clear s0 s1
  go_wp2_with fail
  refine (target_w (show Wr _ _ _ _ _ _ from HWd.out) (.tail _ (.tail _ HG.out)) t c2 l2 u2 (by simp only [List.length_nil, List.length_append, bitsN_length]; omega)).mono ?_
  rintro e wb2 ⟨rfl, h3, b3⟩
  have HW1 := Lib.hid h3
  have HB1 := Lib.hid (HBd.out.trans b3)
  clear h3 b3 HWd HBd
  have p0 : wb2.cell? ⟨w.heap.size, 0, none⟩ = some (.pointer (some ⟨g, 0, none⟩)) := guest_cell HW1.out (.tail _ (.head _)) rfl
  have p1 : wb2.cell? ⟨w.heap.size, 1, none⟩ = some (.pointer none) := guest_cell HW1.out (.tail _ (.head _)) rfl
  go_wp2_with fail
  refine wp_region_still_tail 4 (by kernel_rfl) (by kernel_rfl) ?_
  simp only [List.take_succ_cons, List.take_zero, List.drop_succ_cons, List.drop_zero]
  change wpStill _ _ (World.drew wb2) (fun a' => wpList _ _ _ _ a' (World.drew wb2)) _ _
  have s0 : (World.drew wb2).cell? ⟨w.heap.size, 0, none⟩ = some (.pointer (some ⟨g, 0, none⟩)) := p0
  have s1 : (World.drew wb2).cell? ⟨w.heap.size, 1, none⟩ = some (.pointer none) := p1
  have HWd := Lib.hid (WrL.drew HW1.out)
  have HBd := Lib.hid (below_drew' HB1.out)
  clear p0 p1 HW1 HB1
  generalize World.drew wb2 = wa3 at s0 s1 HWd HBd ⊢
  repeat still_step
  refine wpStill_nil ?_
  clear s0 s1
  go_wp2_with fail
  refine (unsigned_w (j := 3) (show Wr _ _ _ _ _ _ from HWd.out) (.tail _ (.tail _ HG.out)) (k := 8) (by omega) (by omega) l c3 (by omega) (by omega) (by omega) (by first | omega | (simp only [List.length_append, List.length_nil, bitsN_length]; have := targetBits_length t; omega))).mono ?_
  rintro e wb3 ⟨rfl, h3, b3⟩
  have HW1 := Lib.hid h3
  have HB1 := Lib.hid (HBd.out.trans b3)
  clear h3 b3 HWd HBd
  have p0 : wb3.cell? ⟨w.heap.size, 0, none⟩ = some (.pointer (some ⟨g, 0, none⟩)) := guest_cell HW1.out (.tail _ (.head _)) rfl
  have p1 : wb3.cell? ⟨w.heap.size, 1, none⟩ = some (.pointer none) := guest_cell HW1.out (.tail _ (.head _)) rfl
  go_wp2_with fail
  refine wp_region_still_tail 4 (by kernel_rfl) (by kernel_rfl) ?_
  simp only [List.take_succ_cons, List.take_zero, List.drop_succ_cons, List.drop_zero]
  change wpStill _ _ (World.drew wb3) (fun a' => wpList _ _ _ _ a' (World.drew wb3)) _ _
  have s0 : (World.drew wb3).cell? ⟨w.heap.size, 0, none⟩ = some (.pointer (some ⟨g, 0, none⟩)) := p0
  have s1 : (World.drew wb3).cell? ⟨w.heap.size, 1, none⟩ = some (.pointer none) := p1
  have HWd := Lib.hid (WrL.drew HW1.out)
  have HBd := Lib.hid (below_drew' HB1.out)
  clear p0 p1 HW1 HB1
  generalize World.drew wb3 = wa4 at s0 s1 HWd HBd ⊢
  repeat still_step
  refine wpStill_nil ?_
  clear s0 s1
  go_wp2_with fail
  refine (unsigned_w (j := 4) (show Wr _ _ _ _ _ _ from HWd.out) (.tail _ (.tail _ HG.out)) (k := 8) (by omega) (by omega) q c4 (by omega) (by omega) (by omega) (by first | omega | (simp only [List.length_append, List.length_nil, bitsN_length]; have := targetBits_length t; omega))).mono ?_
  rintro e wb4 ⟨rfl, h3, b3⟩
  have HW1 := Lib.hid h3
  have HB1 := Lib.hid (HBd.out.trans b3)
  clear h3 b3 HWd HBd
  have p0 : wb4.cell? ⟨w.heap.size, 0, none⟩ = some (.pointer (some ⟨g, 0, none⟩)) := guest_cell HW1.out (.tail _ (.head _)) rfl
  have p1 : wb4.cell? ⟨w.heap.size, 1, none⟩ = some (.pointer none) := guest_cell HW1.out (.tail _ (.head _)) rfl
  have k0 : wb4.cell? ⟨gf, 0, none⟩ = some (.int .i64 4) := guest_cell HW1.out (.tail _ (.tail _ HG.out)) c0
  have hl := (HL.out wb4 (WrL.guest HW1.out (.head _))).2.2.2.1
  go_wp2_with fail
  refine (message_w (show Wr _ _ _ _ _ _ from HW1.out) (.tail _ (.tail _ HG.out)) d c11 hd (by first | omega | (simp only [List.length_append, List.length_nil, bitsN_length]; have := targetBits_length t; omega))).mono ?_
  rintro e wz ⟨rfl, h3, b3⟩
  have HWz := Lib.hid h3
  have HBz := Lib.hid (HB1.out.trans b3)
  clear h3 b3 p0 p1 k0 hl
  go_wp2_with fail
  go_ret
  have h9 : Wr B G _ g _ _ := WrL.drop (WrL.drop HWz.out)
  exact ⟨rfl, by unfold headBits; simpa only [List.nil_append, List.append_assoc, List.append_nil] using h9, HBz.out⟩
set_option maxRecDepth 100000 in
set_option maxHeartbeats 8000000 in
theorem frame_message_long {B g gf : Nat} {G : List (Nat × Obj)} {w : World} {cs : Array Value} (h : Wr B G w g [] 0) (hG : (gf, .cells cs 23) ∈ G) (c0 : cs[0]? = some (.int .i64 4)) (s : Int) (c1 : cs[1]? = some (.int .i64 s)) (l1 : 0 ≤ s) (u1 : s ≤ 31) (t : Int) (c2 : cs[2]? = some (.int .i64 t)) (l2 : -1 ≤ t) (u2 : t ≤ 31) (l : Int) (c3 : cs[3]? = some (.int .i64 l)) (l3 : 0 ≤ l) (u3 : l ≤ 255) (q : Int) (c4 : cs[4]? = some (.int .i64 q)) (l4 : 0 ≤ q) (u4 : q ≤ 255) (d : List UInt8) (c11 : cs[11]? = some (.string (Str d))) (hd : 127 < d.length) :
    Calls Try.prog 27 #[Pw g, .pointer (some ⟨gf, 0, none⟩)] w fun e w' => e = .returned (.bool true) ∧ Wr B G w' g (headBits 4 s t l q ++ ([])) 8 ∧ Below B w w' := by
  have hlt := WrL.lt h
  have hB := h.1
  have hW0 : Wr B ((w.heap.size, Pb g) :: G) (w.alloc (Pb g)) g [] 0 := WrL.allocG h _ (pb_not8 g)
  have hB0 : Below B w (w.alloc (Pb g)) := Below.alloc (Below.refl B w) (by omega) _
  obtain ⟨m1, m2, m3, m4, o, r1, r2, r3, r4, mb, ms, mo, m8, look⟩ := kinds_map (w.alloc (Pb g))
  have es : (w.alloc (Pb g)).heap.size = w.heap.size + 1 := by simp
  have hW1 : Wr B ((w.heap.size + 1, o) :: (w.heap.size, Pb g) :: G) m4 g [] 0 := addG (WrL.below hW0 mb) (by rw [← es]; exact mo) (by omega) m8
  have hB1 : Below B w m4 := hB0.trans (mb.mono (by rw [es]; omega))
  rw [es] at r1 r2 r3 r4 look
  have HW1 := Lib.hid hW1
  have HB1 := Lib.hid hB1
  have HG := Lib.hid hG
  have HL := Lib.hid look
  have hmm := @run_makeMap Try.prog
  have p0 : m4.cell? ⟨w.heap.size, 0, none⟩ = some (.pointer (some ⟨g, 0, none⟩)) := guest_cell hW1 (.tail _ (.head _)) rfl
  have p1 : m4.cell? ⟨w.heap.size, 1, none⟩ = some (.pointer none) := guest_cell hW1 (.tail _ (.head _)) rfl
  clear hlt hG h hW0 hB0 mb ms mo m8 look es hW1 hB1
  go_enter Try.func27, Try.ntmps27
  go_wp2_with fail
  clear r1 r2 r3 r4 hmm
  refine wp_region_still_tail 4 (by kernel_rfl) (by kernel_rfl) ?_
  simp only [List.take_succ_cons, List.take_zero, List.drop_succ_cons, List.drop_zero]
  change wpStill _ _ (World.drew m4) (fun a' => wpList _ _ _ _ a' (World.drew m4)) _ _
  have s0 : (World.drew m4).cell? ⟨w.heap.size, 0, none⟩ = some (.pointer (some ⟨g, 0, none⟩)) := p0
  have s1 : (World.drew m4).cell? ⟨w.heap.size, 1, none⟩ = some (.pointer none) := p1
  have HWd := Lib.hid (WrL.drew HW1.out)
  have HBd := Lib.hid (below_drew' HB1.out)
  clear p0 p1 HW1 HB1
  generalize World.drew m4 = wa0 at s0 s1 HWd HBd ⊢
  repeat still_step
  refine wpStill_nil ?_
  clear s0 s1
  go_wp2_with fail
  refine (unsigned_w (j := 0) (show Wr _ _ _ _ _ _ from HWd.out) (.tail _ (.tail _ HG.out)) (k := 3) (by omega) (by omega) 4 c0 (by omega) (by omega) (by omega) (by first | omega | (simp only [List.length_append, List.length_nil, bitsN_length]; have := targetBits_length t; omega))).mono ?_
  rintro e wb0 ⟨rfl, h3, b3⟩
  have HW1 := Lib.hid h3
  have HB1 := Lib.hid (HBd.out.trans b3)
  clear h3 b3 HWd HBd
  have p0 : wb0.cell? ⟨w.heap.size, 0, none⟩ = some (.pointer (some ⟨g, 0, none⟩)) := guest_cell HW1.out (.tail _ (.head _)) rfl
  have p1 : wb0.cell? ⟨w.heap.size, 1, none⟩ = some (.pointer none) := guest_cell HW1.out (.tail _ (.head _)) rfl
  go_wp2_with fail
  refine wp_region_still_tail 4 (by kernel_rfl) (by kernel_rfl) ?_
  simp only [List.take_succ_cons, List.take_zero, List.drop_succ_cons, List.drop_zero]
  change wpStill _ _ (World.drew wb0) (fun a' => wpList _ _ _ _ a' (World.drew wb0)) _ _
  have s0 : (World.drew wb0).cell? ⟨w.heap.size, 0, none⟩ = some (.pointer (some ⟨g, 0, none⟩)) := p0
  have s1 : (World.drew wb0).cell? ⟨w.heap.size, 1, none⟩ = some (.pointer none) := p1
  have HWd := Lib.hid (WrL.drew HW1.out)
  have HBd := Lib.hid (below_drew' HB1.out)
  clear p0 p1 HW1 HB1
  generalize World.drew wb0 = wa1 at s0 s1 HWd HBd ⊢
  repeat still_step
  refine wpStill_nil ?_
  clear s0 s1
  go_wp2_with fail
  refine (unsigned_w (j := 1) (show Wr _ _ _ _ _ _ from HWd.out) (.tail _ (.tail _ HG.out)) (k := 5) (by omega) (by omega) s c1 (by omega) (by omega) (by omega) (by first | omega | (simp only [List.length_append, List.length_nil, bitsN_length]; have := targetBits_length t; omega))).mono ?_
  rintro e wb1 ⟨rfl, h3, b3⟩
  have HW1 := Lib.hid h3
  have HB1 := Lib.hid (HBd.out.trans b3)
  clear h3 b3 HWd HBd
  have p0 : wb1.cell? ⟨w.heap.size, 0, none⟩ = some (.pointer (some ⟨g, 0, none⟩)) := guest_cell HW1.out (.tail _ (.head _)) rfl
  have p1 : wb1.cell? ⟨w.heap.size, 1, none⟩ = some (.pointer none) := guest_cell HW1.out (.tail _ (.head _)) rfl
  go_wp2_with fail
  refine wp_region_still_tail 4 (by kernel_rfl) (by kernel_rfl) ?_
  simp only [List.take_succ_cons, List.take_zero, List.drop_succ_cons, List.drop_zero]
  change wpStill _ _ (World.drew wb1) (fun a' => wpList _ _ _ _ a' (World.drew wb1)) _ _
  have s0 : (World.drew wb1).cell? ⟨w.heap.size, 0, none⟩ = some (.pointer (some ⟨g, 0, none⟩)) := p0
  have s1 : (World.drew wb1).cell? ⟨w.heap.size, 1, none⟩ = some (.pointer none) := p1
  have HWd := Lib.hid (WrL.drew HW1.out)
  have HBd := Lib.hid (below_drew' HB1.out)
  clear p0 p1 HW1 HB1
  generalize World.drew wb1 = wa2 at s0 s1 HWd HBd ⊢
  repeat still_step
  refine wpStill_nil ?_
  clear s0 s1
  go_wp2_with fail
  refine (target_w (show Wr _ _ _ _ _ _ from HWd.out) (.tail _ (.tail _ HG.out)) t c2 l2 u2 (by simp only [List.length_nil, List.length_append, bitsN_length]; omega)).mono ?_
  rintro e wb2 ⟨rfl, h3, b3⟩
  have HW1 := Lib.hid h3
  have HB1 := Lib.hid (HBd.out.trans b3)
  clear h3 b3 HWd HBd
  have p0 : wb2.cell? ⟨w.heap.size, 0, none⟩ = some (.pointer (some ⟨g, 0, none⟩)) := guest_cell HW1.out (.tail _ (.head _)) rfl
  have p1 : wb2.cell? ⟨w.heap.size, 1, none⟩ = some (.pointer none) := guest_cell HW1.out (.tail _ (.head _)) rfl
  go_wp2_with fail
  refine wp_region_still_tail 4 (by kernel_rfl) (by kernel_rfl) ?_
  simp only [List.take_succ_cons, List.take_zero, List.drop_succ_cons, List.drop_zero]
  change wpStill _ _ (World.drew wb2) (fun a' => wpList _ _ _ _ a' (World.drew wb2)) _ _
  have s0 : (World.drew wb2).cell? ⟨w.heap.size, 0, none⟩ = some (.pointer (some ⟨g, 0, none⟩)) := p0
  have s1 : (World.drew wb2).cell? ⟨w.heap.size, 1, none⟩ = some (.pointer none) := p1
  have HWd := Lib.hid (WrL.drew HW1.out)
  have HBd := Lib.hid (below_drew' HB1.out)
  clear p0 p1 HW1 HB1
  generalize World.drew wb2 = wa3 at s0 s1 HWd HBd ⊢
  repeat still_step
  refine wpStill_nil ?_
  clear s0 s1
  go_wp2_with fail
  refine (unsigned_w (j := 3) (show Wr _ _ _ _ _ _ from HWd.out) (.tail _ (.tail _ HG.out)) (k := 8) (by omega) (by omega) l c3 (by omega) (by omega) (by omega) (by first | omega | (simp only [List.length_append, List.length_nil, bitsN_length]; have := targetBits_length t; omega))).mono ?_
  rintro e wb3 ⟨rfl, h3, b3⟩
  have HW1 := Lib.hid h3
  have HB1 := Lib.hid (HBd.out.trans b3)
  clear h3 b3 HWd HBd
  have p0 : wb3.cell? ⟨w.heap.size, 0, none⟩ = some (.pointer (some ⟨g, 0, none⟩)) := guest_cell HW1.out (.tail _ (.head _)) rfl
  have p1 : wb3.cell? ⟨w.heap.size, 1, none⟩ = some (.pointer none) := guest_cell HW1.out (.tail _ (.head _)) rfl
  go_wp2_with fail
  refine wp_region_still_tail 4 (by kernel_rfl) (by kernel_rfl) ?_
  simp only [List.take_succ_cons, List.take_zero, List.drop_succ_cons, List.drop_zero]
  change wpStill _ _ (World.drew wb3) (fun a' => wpList _ _ _ _ a' (World.drew wb3)) _ _
  have s0 : (World.drew wb3).cell? ⟨w.heap.size, 0, none⟩ = some (.pointer (some ⟨g, 0, none⟩)) := p0
  have s1 : (World.drew wb3).cell? ⟨w.heap.size, 1, none⟩ = some (.pointer none) := p1
  have HWd := Lib.hid (WrL.drew HW1.out)
  have HBd := Lib.hid (below_drew' HB1.out)
  clear p0 p1 HW1 HB1
  generalize World.drew wb3 = wa4 at s0 s1 HWd HBd ⊢
  repeat still_step
  refine wpStill_nil ?_
  clear s0 s1
  go_wp2_with fail
  refine (unsigned_w (j := 4) (show Wr _ _ _ _ _ _ from HWd.out) (.tail _ (.tail _ HG.out)) (k := 8) (by omega) (by omega) q c4 (by omega) (by omega) (by omega) (by first | omega | (simp only [List.length_append, List.length_nil, bitsN_length]; have := targetBits_length t; omega))).mono ?_
  rintro e wb4 ⟨rfl, h3, b3⟩
  have HW1 := Lib.hid h3
  have HB1 := Lib.hid (HBd.out.trans b3)
  clear h3 b3 HWd HBd
  have p0 : wb4.cell? ⟨w.heap.size, 0, none⟩ = some (.pointer (some ⟨g, 0, none⟩)) := guest_cell HW1.out (.tail _ (.head _)) rfl
  have p1 : wb4.cell? ⟨w.heap.size, 1, none⟩ = some (.pointer none) := guest_cell HW1.out (.tail _ (.head _)) rfl
  have k0 : wb4.cell? ⟨gf, 0, none⟩ = some (.int .i64 4) := guest_cell HW1.out (.tail _ (.tail _ HG.out)) c0
  have hl := (HL.out wb4 (WrL.guest HW1.out (.head _))).2.2.2.1
  go_wp2_with fail
  refine (message_w_long (show Wr _ _ _ _ _ _ from HW1.out) (.tail _ (.tail _ HG.out)) d c11 hd (by first | omega | (simp only [List.length_append, List.length_nil, bitsN_length]; have := targetBits_length t; omega))).mono ?_
  rintro e wz ⟨rfl, h3, b3⟩
  have HWz := Lib.hid h3
  have HBz := Lib.hid (HB1.out.trans b3)
  clear h3 b3 p0 p1 k0 hl
  go_wp2_with fail
  go_ret
  have h9 : Wr B G _ g _ _ := WrL.drop (WrL.drop HWz.out)
  exact ⟨rfl, by unfold headBits; simpa only [List.nil_append, List.append_assoc, List.append_nil] using h9, HBz.out⟩
end Go.Proofs.Ytbgnkjaikbhdoaa.PenFr
