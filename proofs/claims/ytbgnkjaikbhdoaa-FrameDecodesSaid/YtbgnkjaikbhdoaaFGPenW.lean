/- frame.pen, writing: each method writes its fields. Printed by wip/penw.py. (cut to what is reached: wip/tools/slimout2.py) -/
import Derived.Test.YtbgnkjaikbhdoaaFGWrText
import Derived.StillTailTactics
namespace Go.Proofs.Ytbgnkjaikbhdoaa.PenW
set_option linter.unusedSimpArgs false
set_option linter.unusedVariables false
open Go.RowKit Go.Proofs.Ytbgnkjaikbhdoaa.Pack Go.Proofs.Ytbgnkjaikbhdoaa.Wr Go.Proofs.Ytbgnkjaikbhdoaa.WrPut Go.Proofs.Ytbgnkjaikbhdoaa.WrAll Go.Proofs.Ytbgnkjaikbhdoaa.WrText
open Go.Proofs.Ytbgnkjaikbhdoaa.Bytes (Str)
abbrev Pw (g : Nat) : Value := .agg #[.pointer (some ⟨g, 0, none⟩), .pointer none]
abbrev Pb (g : Nat) : Obj := .cells #[.pointer (some ⟨g, 0, none⟩), .pointer none] 48
theorem guest_cell {B g gf j : Nat} {G : List (Nat × Obj)} {w : World} {l : List UInt8} {n : Nat} {err : Int} {cs : Array Value} {t : TypeId} {v : Value} (h : WrL B G w g l n err) (hG : (gf, .cells cs t) ∈ G) (hj : cs[j]? = some v) : w.cell? ⟨gf, j, none⟩ = some v := by
  have := h.guest hG
  rw [cell_of_row _ _ _ _ _ _ this]; exact hj
theorem guest_lt {B g gf : Nat} {G : List (Nat × Obj)} {w : World} {l : List UInt8} {n : Nat} {err : Int} {o : Obj} (h : WrL B G w g l n err) (hG : (gf, o) ∈ G) : gf < w.heap.size :=
  (Array.getElem?_eq_some_iff.1 (h.guest hG)).1
theorem not8 {cs : Array Value} {t : TypeId} (ht : t ≠ 5) : ¬ T8 (.cells cs t) := by
  rintro ⟨cur, e⟩; injection e with _ e; exact ht e
theorem pb_not8 (g : Nat) : ¬ T8 (Pb g) := not8 (by decide)
set_option maxRecDepth 100000 in
set_option maxHeartbeats 4000000 in
theorem unsigned_w {B g gf j k : Nat} {G : List (Nat × Obj)} {w : World} {bs : List Bool} {cs : Array Value} (h : Wr B G w g bs 0) (hG : (gf, .cells cs 23) ∈ G) (hk1 : 1 ≤ k) (hk : k ≤ 63) (n : Int) (hj : cs[j]? = some (.int .i64 n)) (h0 : 0 ≤ n) (h1 : n ≤ 4611686018427387903) (h2 : n.toNat < 2 ^ k) (hn : bs.length + k ≤ 524288) :
    Calls Try.prog 61 #[Pw g, .int .i64 (k : Int), .pointer (some ⟨gf, j, none⟩)] w fun e w' => e = .returned (.tuple #[]) ∧ Wr B G w' g (bs ++ (bitsN k n.toNat)) 0 ∧ Below B w w' := by
  have hlt := WrL.lt h
  have hB := h.1
  obtain ⟨w1, hw1⟩ : ∃ w1, w1 = w.alloc (Pb g) := ⟨_, rfl⟩
  obtain ⟨pb, hpb⟩ : ∃ pb, pb = w.heap.size := ⟨_, rfl⟩
  have hW1 : Wr B ((pb, Pb g) :: G) w1 g bs 0 := by rw [hw1, hpb]; exact WrL.allocG h _ (pb_not8 g)
  have hB1 : Below B w w1 := by rw [hw1]; exact Below.alloc (Below.refl B w) (by omega) _
  have p0 : w1.cell? ⟨pb, 0, none⟩ = some (.pointer (some ⟨g, 0, none⟩)) := guest_cell hW1 (.head _) rfl
  have p1 : w1.cell? ⟨pb, 1, none⟩ = some (.pointer none) := guest_cell hW1 (.head _) rfl
  have q0 : w1.cell? ⟨gf, j, none⟩ = some (.int .i64 n) := guest_cell hW1 (.tail _ hG) hj
  have HP := Lib.hid (unsigned_ok (WrL.drew (WrL.drop hW1)) k hk1 hk n h0 h1 h2 hn)
  have HB1 := Lib.hid (below_drew' hB1)
  clear h hG hW1 hB1 p1 hj h2
  go_enter Try.func61, Try.ntmps61
  go_wp2_with fail
  rw [← hw1, ← hpb]
  clear hw1 hpb
  refine wp_region_still_tail 6 (by kernel_rfl) (by kernel_rfl) ?_
  simp only [List.take_succ_cons, List.take_zero, List.drop_succ_cons, List.drop_zero]
  change wpStill _ _ (World.drew w1) (fun a' => wpList _ _ _ _ a' (World.drew w1)) _ _
  have p0' : w1.drew.cell? ⟨pb, 0, none⟩ = some (.pointer (some ⟨g, 0, none⟩)) := p0
  have q0' : w1.drew.cell? ⟨gf, j, none⟩ = some (.int .i64 n) := q0
  clear p0 q0
  generalize World.drew w1 = w2 at p0' q0' HP HB1 ⊢
  repeat still_step
  refine wpStill_nil ?_
  go_wp2_with fail
  refine HP.out.mono ?_
  rintro e w3 ⟨rfl, h3, b3⟩
  have H3 := Lib.hid h3
  have HB3 := Lib.hid (HB1.out.trans b3)
  clear h3 b3
  go_wp2_with fail
  go_end0
  exact ⟨rfl, H3.out, HB3.out⟩
set_option maxRecDepth 100000 in
set_option maxHeartbeats 4000000 in
theorem text_w {B g gf j : Nat} {G : List (Nat × Obj)} {w : World} {bs : List Bool} {cs : Array Value} (h : Wr B G w g bs 0) (hG : (gf, .cells cs 23) ∈ G) (l : List UInt8) (hj : cs[j]? = some (.string (Str l))) (hl : l.length ≤ 127) (hn : bs.length + 7 + 8 * l.length ≤ 500000) :
    Calls Try.prog 82 #[Pw g, .pointer (some ⟨gf, j, none⟩)] w fun e w' => e = .returned (.tuple #[]) ∧ Wr B G w' g (bs ++ (textBits l)) 0 ∧ Below B w w' := by
  have hlt := WrL.lt h
  have hB := h.1
  obtain ⟨w1, hw1⟩ : ∃ w1, w1 = w.alloc (Pb g) := ⟨_, rfl⟩
  obtain ⟨pb, hpb⟩ : ∃ pb, pb = w.heap.size := ⟨_, rfl⟩
  have hW1 : Wr B ((pb, Pb g) :: G) w1 g bs 0 := by rw [hw1, hpb]; exact WrL.allocG h _ (pb_not8 g)
  have hB1 : Below B w w1 := by rw [hw1]; exact Below.alloc (Below.refl B w) (by omega) _
  have p0 : w1.cell? ⟨pb, 0, none⟩ = some (.pointer (some ⟨g, 0, none⟩)) := guest_cell hW1 (.head _) rfl
  have p1 : w1.cell? ⟨pb, 1, none⟩ = some (.pointer none) := guest_cell hW1 (.head _) rfl
  have q0 : w1.cell? ⟨gf, j, none⟩ = some (.string (Str l)) := guest_cell hW1 (.tail _ hG) hj
  have HP := Lib.hid (text_ok (WrL.drew (WrL.drop hW1)) l hl hn)
  have HB1 := Lib.hid (below_drew' hB1)
  clear h hG hW1 hB1 p1 hj
  go_enter Try.func82, Try.ntmps82
  go_wp2_with fail
  rw [← hw1, ← hpb]
  clear hw1 hpb
  refine wp_region_still_tail 5 (by kernel_rfl) (by kernel_rfl) ?_
  simp only [List.take_succ_cons, List.take_zero, List.drop_succ_cons, List.drop_zero]
  change wpStill _ _ (World.drew w1) (fun a' => wpList _ _ _ _ a' (World.drew w1)) _ _
  have p0' : w1.drew.cell? ⟨pb, 0, none⟩ = some (.pointer (some ⟨g, 0, none⟩)) := p0
  have q0' : w1.drew.cell? ⟨gf, j, none⟩ = some (.string (Str l)) := q0
  clear p0 q0
  generalize World.drew w1 = w2 at p0' q0' HP HB1 ⊢
  repeat still_step
  refine wpStill_nil ?_
  go_wp2_with fail
  refine HP.out.mono ?_
  rintro e w3 ⟨rfl, h3, b3⟩
  have H3 := Lib.hid h3
  have HB3 := Lib.hid (HB1.out.trans b3)
  clear h3 b3
  go_wp2_with fail
  go_end0
  exact ⟨rfl, H3.out, HB3.out⟩
set_option maxRecDepth 100000 in
set_option maxHeartbeats 4000000 in
theorem ack_w {B g gf : Nat} {G : List (Nat × Obj)} {w : World} {bs : List Bool} {cs : Array Value} (h : Wr B G w g bs 0) (hG : (gf, .cells cs 23) ∈ G) (n : Int) (hj : cs[7]? = some (.int .i64 n)) (h0 : -32768 ≤ n) (h1 : n ≤ 32767) (hn : bs.length + 16 ≤ 524288) :
    Calls Try.prog 58 #[Pw g, .pointer (some ⟨gf, 0, none⟩)] w fun e w' => e = .returned (.tuple #[]) ∧ Wr B G w' g (bs ++ (bitsN 16 (n % 18446744073709551616).toNat)) 0 ∧ Below B w w' := by
  have hlt := WrL.lt h
  have hB := h.1
  obtain ⟨w1, hw1⟩ : ∃ w1, w1 = w.alloc (Pb g) := ⟨_, rfl⟩
  obtain ⟨pb, hpb⟩ : ∃ pb, pb = w.heap.size := ⟨_, rfl⟩
  have hW1 : Wr B ((pb, Pb g) :: G) w1 g bs 0 := by rw [hw1, hpb]; exact WrL.allocG h _ (pb_not8 g)
  have hB1 : Below B w w1 := by rw [hw1]; exact Below.alloc (Below.refl B w) (by omega) _
  have p0 : w1.cell? ⟨pb, 0, none⟩ = some (.pointer (some ⟨g, 0, none⟩)) := guest_cell hW1 (.head _) rfl
  have p1 : w1.cell? ⟨pb, 1, none⟩ = some (.pointer none) := guest_cell hW1 (.head _) rfl
  have q0 : w1.cell? ⟨gf, 7, none⟩ = some (.int .i64 n) := guest_cell hW1 (.tail _ hG) hj
  have HP := Lib.hid (signed_ok (WrL.drew (WrL.drop hW1)) n h0 h1 hn)
  have HB1 := Lib.hid (below_drew' hB1)
  clear h hG hW1 hB1 p1 hj
  go_enter Try.func58, Try.ntmps58
  go_wp2_with fail
  rw [← hw1, ← hpb]
  clear hw1 hpb
  refine wp_region_still_tail 6 (by kernel_rfl) (by kernel_rfl) ?_
  simp only [List.take_succ_cons, List.take_zero, List.drop_succ_cons, List.drop_zero]
  change wpStill _ _ (World.drew w1) (fun a' => wpList _ _ _ _ a' (World.drew w1)) _ _
  have p0' : w1.drew.cell? ⟨pb, 0, none⟩ = some (.pointer (some ⟨g, 0, none⟩)) := p0
  have q0' : w1.drew.cell? ⟨gf, 7, none⟩ = some (.int .i64 n) := q0
  clear p0 q0
  generalize World.drew w1 = w2 at p0' q0' HP HB1 ⊢
  repeat still_step
  refine wpStill_nil ?_
  go_wp2_with fail
  refine HP.out.mono ?_
  rintro e w3 ⟨rfl, h3, b3⟩
  have H3 := Lib.hid h3
  have HB3 := Lib.hid (HB1.out.trans b3)
  clear h3 b3
  go_wp2_with fail
  go_end0
  exact ⟨rfl, H3.out, HB3.out⟩
set_option maxRecDepth 100000 in
set_option maxHeartbeats 4000000 in
theorem text_w_long {B g gf j : Nat} {G : List (Nat × Obj)} {w : World} {bs : List Bool} {cs : Array Value} (h : Wr B G w g bs 0) (hG : (gf, .cells cs 23) ∈ G) (l : List UInt8) (hj : cs[j]? = some (.string (Str l))) (hl : 127 < l.length) :
    Calls Try.prog 82 #[Pw g, .pointer (some ⟨gf, j, none⟩)] w fun e w' => e = .returned (.tuple #[]) ∧ Wr B G w' g bs 8 ∧ Below B w w' := by
  have hlt := WrL.lt h
  have hB := h.1
  obtain ⟨w1, hw1⟩ : ∃ w1, w1 = w.alloc (Pb g) := ⟨_, rfl⟩
  obtain ⟨pb, hpb⟩ : ∃ pb, pb = w.heap.size := ⟨_, rfl⟩
  have hW1 : Wr B ((pb, Pb g) :: G) w1 g bs 0 := by rw [hw1, hpb]; exact WrL.allocG h _ (pb_not8 g)
  have hB1 : Below B w w1 := by rw [hw1]; exact Below.alloc (Below.refl B w) (by omega) _
  have p0 : w1.cell? ⟨pb, 0, none⟩ = some (.pointer (some ⟨g, 0, none⟩)) := guest_cell hW1 (.head _) rfl
  have p1 : w1.cell? ⟨pb, 1, none⟩ = some (.pointer none) := guest_cell hW1 (.head _) rfl
  have q0 : w1.cell? ⟨gf, j, none⟩ = some (.string (Str l)) := guest_cell hW1 (.tail _ hG) hj
  have HP := Lib.hid (text_long (WrL.drew (WrL.drop hW1)) l hl)
  have HB1 := Lib.hid (below_drew' hB1)
  clear h hG hW1 hB1 p1 hj
  go_enter Try.func82, Try.ntmps82
  go_wp2_with fail
  rw [← hw1, ← hpb]
  clear hw1 hpb
  refine wp_region_still_tail 5 (by kernel_rfl) (by kernel_rfl) ?_
  simp only [List.take_succ_cons, List.take_zero, List.drop_succ_cons, List.drop_zero]
  change wpStill _ _ (World.drew w1) (fun a' => wpList _ _ _ _ a' (World.drew w1)) _ _
  have p0' : w1.drew.cell? ⟨pb, 0, none⟩ = some (.pointer (some ⟨g, 0, none⟩)) := p0
  have q0' : w1.drew.cell? ⟨gf, j, none⟩ = some (.string (Str l)) := q0
  clear p0 q0
  generalize World.drew w1 = w2 at p0' q0' HP HB1 ⊢
  repeat still_step
  refine wpStill_nil ?_
  go_wp2_with fail
  refine HP.out.mono ?_
  rintro e w3 ⟨rfl, h3, b3⟩
  have H3 := Lib.hid h3
  have HB3 := Lib.hid (HB1.out.trans b3)
  clear h3 b3
  go_wp2_with fail
  go_end0
  exact ⟨rfl, H3.out, HB3.out⟩
theorem again {B g gf j : Nat} {G : List (Nat × Obj)} {w : World} {l : List UInt8} {n : Nat} {err : Int} {cs : Array Value} {t : TypeId} {v : Value} (h : WrL B G w g l n err) (hG : (gf, .cells cs t) ∈ G) (hj : cs[j]? = some v) : WrL B G (w.setCell ⟨gf, j, none⟩ v) g l n err := by
  obtain ⟨hf, hne, hn8⟩ := h.2.2 _ hG
  have same : ∀ k : Nat, (w.setCell ⟨gf, j, none⟩ v).heap[k]? = w.heap[k]? := by
    intro k
    by_cases e : k = gf
    · subst e
      have hh : w.heap[k]? = some (.cells cs t (0, 0)) := hf
      rw [heap_setCell_same _ _ _ _ _ _ hh, hh]
      congr 2
      apply Array.ext_getElem?
      intro i
      rw [Array.getElem?_setIfInBounds]
      split
      · rename_i e; subst e
        have := (Array.getElem?_eq_some_iff.1 hj).1
        rw [if_pos this, hj]
      · rfl
    · rw [heap_setCell_other _ _ _ _ e]
  obtain ⟨h1, ⟨v', hv, hr⟩, hGG⟩ := h
  refine ⟨h1, ⟨v', by rw [same]; exact hv, hr.1, ?_⟩, fun p hp => ?_⟩
  · rcases hr.2 with b | ⟨gr, cap, cur, b1, b2, b3, b4⟩
    · exact .inl b
    · exact .inr ⟨gr, cap, cur, b1, b2, by rw [same]; exact b3, b4⟩
  · obtain ⟨a, b, c⟩ := hGG p hp
    exact ⟨by rw [same]; exact a, b, c⟩
theorem again_below {B g gf j : Nat} {G : List (Nat × Obj)} {w w1 : World} {l : List UInt8} {n : Nat} {err : Int} {cs : Array Value} {t : TypeId} {v : Value} (hb : Below B w w1) (h : WrL B G w1 g l n err) (hG : (gf, .cells cs t) ∈ G) (hj : cs[j]? = some v) : Below B w (w1.setCell ⟨gf, j, none⟩ v) := by
  obtain ⟨hf, hne, hn8⟩ := h.2.2 _ hG
  have hh : w1.heap[gf]? = some (.cells cs t (0, 0)) := hf
  refine ⟨hb.os, hb.tape, hb.output, by simpa using hb.size, fun i hi => ?_⟩
  by_cases e : i = gf
  · subst e
    rw [heap_setCell_same _ _ _ _ _ _ hh, ← hb.block i hi, hh]
    congr 2
    apply Array.ext_getElem?
    intro k
    rw [Array.getElem?_setIfInBounds]
    split
    · rename_i e; subst e
      have := (Array.getElem?_eq_some_iff.1 hj).1
      rw [if_pos this, hj]
    · rfl
  · rw [heap_setCell_other _ _ _ _ e]; exact hb.block i hi
set_option maxRecDepth 100000 in
set_option maxHeartbeats 4000000 in
theorem data_w {B g gf : Nat} {G : List (Nat × Obj)} {w : World} {bs : List Bool} {cs : Array Value} (h : Wr B G w g bs 0) (hG : (gf, .cells cs 23) ∈ G) (f : Int) (hcf : cs[5]? = some (.int .i64 f)) (hlf : 0 ≤ f) (huf : f ≤ 255) (m : Int) (hcm : cs[6]? = some (.int .i64 m)) (hlm : 0 ≤ m) (hum : m ≤ 65535) (l : List UInt8) (hcl : cs[11]? = some (.string (Str l))) (hl7 : l.length ≤ 127) (hn : bs.length ≤ 100) :
    Calls Try.prog 57 #[Pw g, .pointer (some ⟨gf, 0, none⟩)] w fun e w' => e = .returned (.tuple #[]) ∧ Wr B G w' g (bs ++ (bitsN 8 f.toNat ++ bitsN 16 m.toNat ++ textBits l)) 0 ∧ Below B w w' := by
  have hlt := WrL.lt h
  have hB := h.1
  obtain ⟨w1, hw1⟩ : ∃ w1, w1 = w.alloc (Pb g) := ⟨_, rfl⟩
  obtain ⟨pb, hpb⟩ : ∃ pb, pb = w.heap.size := ⟨_, rfl⟩
  have hW1 : Wr B ((pb, Pb g) :: G) w1 g bs 0 := by rw [hw1, hpb]; exact WrL.allocG h _ (pb_not8 g)
  have hB1 : Below B w w1 := by rw [hw1]; exact Below.alloc (Below.refl B w) (by omega) _
  have p0 : w1.cell? ⟨pb, 0, none⟩ = some (.pointer (some ⟨g, 0, none⟩)) := guest_cell hW1 (.head _) rfl
  have p1 : w1.cell? ⟨pb, 1, none⟩ = some (.pointer none) := guest_cell hW1 (.head _) rfl
  have HW1 := Lib.hid hW1
  have HB1 := Lib.hid hB1
  have HG := Lib.hid hG
  clear h hW1 hB1 hG
  go_enter Try.func57, Try.ntmps57
  go_wp2_with fail
  rw [← hw1, ← hpb]
  clear hw1 hpb

  refine wp_region_still_tail 4 (by kernel_rfl) (by kernel_rfl) ?_
  simp only [List.take_succ_cons, List.take_zero, List.drop_succ_cons, List.drop_zero]
  change wpStill _ _ (World.drew w1) (fun a' => wpList _ _ _ _ a' (World.drew w1)) _ _
  have r0 : (World.drew w1).cell? ⟨pb, 0, none⟩ = some (.pointer (some ⟨g, 0, none⟩)) := p0
  have r1 : (World.drew w1).cell? ⟨pb, 1, none⟩ = some (.pointer none) := p1
  have HWd := Lib.hid (WrL.drew HW1.out)
  have HBd := Lib.hid (below_drew' HB1.out)
  clear p0 p1 HW1 HB1
  generalize World.drew w1 = wa0 at r0 r1 HWd HBd ⊢
  repeat still_step
  refine wpStill_nil ?_
  clear r0 r1
  go_wp2_with fail
  refine (unsigned_w (j := 5) (show Wr _ _ _ _ _ _ from HWd.out) (.tail _ HG.out) (k := 8) (by omega) (by omega) f hcf hlf (by omega) (by omega) (by first | omega | (simp only [List.length_append, bitsN_length]; omega))).mono ?_
  rintro e wb0 ⟨rfl, h3, b3⟩
  have HW1 := Lib.hid h3
  have HB1 := Lib.hid (HBd.out.trans b3)
  clear h3 b3 HWd HBd
  have p0 : wb0.cell? ⟨pb, 0, none⟩ = some (.pointer (some ⟨g, 0, none⟩)) := guest_cell HW1.out (.head _) rfl
  have p1 : wb0.cell? ⟨pb, 1, none⟩ = some (.pointer none) := guest_cell HW1.out (.head _) rfl
  go_wp2_with fail
  refine wp_region_still_tail 4 (by kernel_rfl) (by kernel_rfl) ?_
  simp only [List.take_succ_cons, List.take_zero, List.drop_succ_cons, List.drop_zero]
  change wpStill _ _ (World.drew wb0) (fun a' => wpList _ _ _ _ a' (World.drew wb0)) _ _
  have r0 : (World.drew wb0).cell? ⟨pb, 0, none⟩ = some (.pointer (some ⟨g, 0, none⟩)) := p0
  have r1 : (World.drew wb0).cell? ⟨pb, 1, none⟩ = some (.pointer none) := p1
  have HWd := Lib.hid (WrL.drew HW1.out)
  have HBd := Lib.hid (below_drew' HB1.out)
  clear p0 p1 HW1 HB1
  generalize World.drew wb0 = wa1 at r0 r1 HWd HBd ⊢
  repeat still_step
  refine wpStill_nil ?_
  clear r0 r1
  go_wp2_with fail
  refine (unsigned_w (j := 6) (show Wr _ _ _ _ _ _ from HWd.out) (.tail _ HG.out) (k := 16) (by omega) (by omega) m hcm hlm (by omega) (by omega) (by first | omega | (simp only [List.length_append, bitsN_length]; omega))).mono ?_
  rintro e wb1 ⟨rfl, h3, b3⟩
  have HW1 := Lib.hid h3
  have HB1 := Lib.hid (HBd.out.trans b3)
  clear h3 b3 HWd HBd
  have p0 : wb1.cell? ⟨pb, 0, none⟩ = some (.pointer (some ⟨g, 0, none⟩)) := guest_cell HW1.out (.head _) rfl
  have p1 : wb1.cell? ⟨pb, 1, none⟩ = some (.pointer none) := guest_cell HW1.out (.head _) rfl
  go_wp2_with fail
  refine wp_region_still_tail 4 (by kernel_rfl) (by kernel_rfl) ?_
  simp only [List.take_succ_cons, List.take_zero, List.drop_succ_cons, List.drop_zero]
  change wpStill _ _ (World.drew wb1) (fun a' => wpList _ _ _ _ a' (World.drew wb1)) _ _
  have r0 : (World.drew wb1).cell? ⟨pb, 0, none⟩ = some (.pointer (some ⟨g, 0, none⟩)) := p0
  have r1 : (World.drew wb1).cell? ⟨pb, 1, none⟩ = some (.pointer none) := p1
  have HWd := Lib.hid (WrL.drew HW1.out)
  have HBd := Lib.hid (below_drew' HB1.out)
  clear p0 p1 HW1 HB1
  generalize World.drew wb1 = wa2 at r0 r1 HWd HBd ⊢
  repeat still_step
  refine wpStill_nil ?_
  clear r0 r1
  go_wp2_with fail
  refine (text_w (j := 11) (show Wr _ _ _ _ _ _ from HWd.out) (.tail _ HG.out) l hcl hl7 (by first | omega | (simp only [List.length_append, bitsN_length]; omega))).mono ?_
  rintro e wb2 ⟨rfl, h3, b3⟩
  have HW1 := Lib.hid h3
  have HB1 := Lib.hid (HBd.out.trans b3)
  clear h3 b3 HWd HBd
  go_wp2_with fail
  go_end0
  have h9 : Wr B G _ g _ _ := WrL.drop HW1.out
  exact ⟨rfl, by simpa only [List.append_assoc, List.append_nil] using h9, HB1.out⟩
set_option maxRecDepth 100000 in
set_option maxHeartbeats 4000000 in
theorem beacon_w {B g gf : Nat} {G : List (Nat × Obj)} {w : World} {bs : List Bool} {cs : Array Value} (h : Wr B G w g bs 0) (hG : (gf, .cells cs 23) ∈ G) (s : Int) (hcs : cs[8]? = some (.int .i64 s)) (hls : 0 ≤ s) (hus : s ≤ 109951162) (r : Int) (hcr : cs[9]? = some (.int .i64 r)) (hlr : 0 ≤ r) (hur : r ≤ 65535) (q : Int) (hcq : cs[10]? = some (.int .i64 q)) (hlq : 0 ≤ q) (huq : q ≤ 65535) (l : List UInt8) (hcl : cs[11]? = some (.string (Str l))) (hl7 : l.length ≤ 127) (hn : bs.length ≤ 100) :
    Calls Try.prog 59 #[Pw g, .pointer (some ⟨gf, 0, none⟩)] w fun e w' => e = .returned (.tuple #[]) ∧ Wr B G w' g (bs ++ (bitsN 27 s.toNat ++ bitsN 16 r.toNat ++ bitsN 16 q.toNat ++ textBits l)) 0 ∧ Below B w w' := by
  have hlt := WrL.lt h
  have hB := h.1
  obtain ⟨w1, hw1⟩ : ∃ w1, w1 = w.alloc (Pb g) := ⟨_, rfl⟩
  obtain ⟨pb, hpb⟩ : ∃ pb, pb = w.heap.size := ⟨_, rfl⟩
  have hW1 : Wr B ((pb, Pb g) :: G) w1 g bs 0 := by rw [hw1, hpb]; exact WrL.allocG h _ (pb_not8 g)
  have hB1 : Below B w w1 := by rw [hw1]; exact Below.alloc (Below.refl B w) (by omega) _
  have p0 : w1.cell? ⟨pb, 0, none⟩ = some (.pointer (some ⟨g, 0, none⟩)) := guest_cell hW1 (.head _) rfl
  have p1 : w1.cell? ⟨pb, 1, none⟩ = some (.pointer none) := guest_cell hW1 (.head _) rfl
  have HW1 := Lib.hid hW1
  have HB1 := Lib.hid hB1
  have HG := Lib.hid hG
  clear h hW1 hB1 hG
  go_enter Try.func59, Try.ntmps59
  go_wp2_with fail
  rw [← hw1, ← hpb]
  clear hw1 hpb

  refine wp_region_still_tail 4 (by kernel_rfl) (by kernel_rfl) ?_
  simp only [List.take_succ_cons, List.take_zero, List.drop_succ_cons, List.drop_zero]
  change wpStill _ _ (World.drew w1) (fun a' => wpList _ _ _ _ a' (World.drew w1)) _ _
  have r0 : (World.drew w1).cell? ⟨pb, 0, none⟩ = some (.pointer (some ⟨g, 0, none⟩)) := p0
  have r1 : (World.drew w1).cell? ⟨pb, 1, none⟩ = some (.pointer none) := p1
  have HWd := Lib.hid (WrL.drew HW1.out)
  have HBd := Lib.hid (below_drew' HB1.out)
  clear p0 p1 HW1 HB1
  generalize World.drew w1 = wa0 at r0 r1 HWd HBd ⊢
  repeat still_step
  refine wpStill_nil ?_
  clear r0 r1
  go_wp2_with fail
  refine (unsigned_w (j := 8) (show Wr _ _ _ _ _ _ from HWd.out) (.tail _ HG.out) (k := 27) (by omega) (by omega) s hcs hls (by omega) (by omega) (by first | omega | (simp only [List.length_append, bitsN_length]; omega))).mono ?_
  rintro e wb0 ⟨rfl, h3, b3⟩
  have HW1 := Lib.hid h3
  have HB1 := Lib.hid (HBd.out.trans b3)
  clear h3 b3 HWd HBd
  have p0 : wb0.cell? ⟨pb, 0, none⟩ = some (.pointer (some ⟨g, 0, none⟩)) := guest_cell HW1.out (.head _) rfl
  have p1 : wb0.cell? ⟨pb, 1, none⟩ = some (.pointer none) := guest_cell HW1.out (.head _) rfl
  go_wp2_with fail
  refine wp_region_still_tail 4 (by kernel_rfl) (by kernel_rfl) ?_
  simp only [List.take_succ_cons, List.take_zero, List.drop_succ_cons, List.drop_zero]
  change wpStill _ _ (World.drew wb0) (fun a' => wpList _ _ _ _ a' (World.drew wb0)) _ _
  have r0 : (World.drew wb0).cell? ⟨pb, 0, none⟩ = some (.pointer (some ⟨g, 0, none⟩)) := p0
  have r1 : (World.drew wb0).cell? ⟨pb, 1, none⟩ = some (.pointer none) := p1
  have HWd := Lib.hid (WrL.drew HW1.out)
  have HBd := Lib.hid (below_drew' HB1.out)
  clear p0 p1 HW1 HB1
  generalize World.drew wb0 = wa1 at r0 r1 HWd HBd ⊢
  repeat still_step
  refine wpStill_nil ?_
  clear r0 r1
  go_wp2_with fail
  refine (unsigned_w (j := 9) (show Wr _ _ _ _ _ _ from HWd.out) (.tail _ HG.out) (k := 16) (by omega) (by omega) r hcr hlr (by omega) (by omega) (by first | omega | (simp only [List.length_append, bitsN_length]; omega))).mono ?_
  rintro e wb1 ⟨rfl, h3, b3⟩
  have HW1 := Lib.hid h3
  have HB1 := Lib.hid (HBd.out.trans b3)
  clear h3 b3 HWd HBd
  have p0 : wb1.cell? ⟨pb, 0, none⟩ = some (.pointer (some ⟨g, 0, none⟩)) := guest_cell HW1.out (.head _) rfl
  have p1 : wb1.cell? ⟨pb, 1, none⟩ = some (.pointer none) := guest_cell HW1.out (.head _) rfl
  go_wp2_with fail
  refine wp_region_still_tail 4 (by kernel_rfl) (by kernel_rfl) ?_
  simp only [List.take_succ_cons, List.take_zero, List.drop_succ_cons, List.drop_zero]
  change wpStill _ _ (World.drew wb1) (fun a' => wpList _ _ _ _ a' (World.drew wb1)) _ _
  have r0 : (World.drew wb1).cell? ⟨pb, 0, none⟩ = some (.pointer (some ⟨g, 0, none⟩)) := p0
  have r1 : (World.drew wb1).cell? ⟨pb, 1, none⟩ = some (.pointer none) := p1
  have HWd := Lib.hid (WrL.drew HW1.out)
  have HBd := Lib.hid (below_drew' HB1.out)
  clear p0 p1 HW1 HB1
  generalize World.drew wb1 = wa2 at r0 r1 HWd HBd ⊢
  repeat still_step
  refine wpStill_nil ?_
  clear r0 r1
  go_wp2_with fail
  refine (unsigned_w (j := 10) (show Wr _ _ _ _ _ _ from HWd.out) (.tail _ HG.out) (k := 16) (by omega) (by omega) q hcq hlq (by omega) (by omega) (by first | omega | (simp only [List.length_append, bitsN_length]; omega))).mono ?_
  rintro e wb2 ⟨rfl, h3, b3⟩
  have HW1 := Lib.hid h3
  have HB1 := Lib.hid (HBd.out.trans b3)
  clear h3 b3 HWd HBd
  have p0 : wb2.cell? ⟨pb, 0, none⟩ = some (.pointer (some ⟨g, 0, none⟩)) := guest_cell HW1.out (.head _) rfl
  have p1 : wb2.cell? ⟨pb, 1, none⟩ = some (.pointer none) := guest_cell HW1.out (.head _) rfl
  go_wp2_with fail
  refine wp_region_still_tail 4 (by kernel_rfl) (by kernel_rfl) ?_
  simp only [List.take_succ_cons, List.take_zero, List.drop_succ_cons, List.drop_zero]
  change wpStill _ _ (World.drew wb2) (fun a' => wpList _ _ _ _ a' (World.drew wb2)) _ _
  have r0 : (World.drew wb2).cell? ⟨pb, 0, none⟩ = some (.pointer (some ⟨g, 0, none⟩)) := p0
  have r1 : (World.drew wb2).cell? ⟨pb, 1, none⟩ = some (.pointer none) := p1
  have HWd := Lib.hid (WrL.drew HW1.out)
  have HBd := Lib.hid (below_drew' HB1.out)
  clear p0 p1 HW1 HB1
  generalize World.drew wb2 = wa3 at r0 r1 HWd HBd ⊢
  repeat still_step
  refine wpStill_nil ?_
  clear r0 r1
  go_wp2_with fail
  refine (text_w (j := 11) (show Wr _ _ _ _ _ _ from HWd.out) (.tail _ HG.out) l hcl hl7 (by first | omega | (simp only [List.length_append, bitsN_length]; omega))).mono ?_
  rintro e wb3 ⟨rfl, h3, b3⟩
  have HW1 := Lib.hid h3
  have HB1 := Lib.hid (HBd.out.trans b3)
  clear h3 b3 HWd HBd
  go_wp2_with fail
  go_end0
  have h9 : Wr B G _ g _ _ := WrL.drop HW1.out
  exact ⟨rfl, by simpa only [List.append_assoc, List.append_nil] using h9, HB1.out⟩
set_option maxRecDepth 100000 in
set_option maxHeartbeats 4000000 in
theorem message_w {B g gf : Nat} {G : List (Nat × Obj)} {w : World} {bs : List Bool} {cs : Array Value} (h : Wr B G w g bs 0) (hG : (gf, .cells cs 23) ∈ G) (l : List UInt8) (hcl : cs[11]? = some (.string (Str l))) (hl7 : l.length ≤ 127) (hn : bs.length ≤ 100) :
    Calls Try.prog 60 #[Pw g, .pointer (some ⟨gf, 0, none⟩)] w fun e w' => e = .returned (.tuple #[]) ∧ Wr B G w' g (bs ++ (textBits l)) 0 ∧ Below B w w' := by
  have hlt := WrL.lt h
  have hB := h.1
  obtain ⟨w1, hw1⟩ : ∃ w1, w1 = w.alloc (Pb g) := ⟨_, rfl⟩
  obtain ⟨pb, hpb⟩ : ∃ pb, pb = w.heap.size := ⟨_, rfl⟩
  have hW1 : Wr B ((pb, Pb g) :: G) w1 g bs 0 := by rw [hw1, hpb]; exact WrL.allocG h _ (pb_not8 g)
  have hB1 : Below B w w1 := by rw [hw1]; exact Below.alloc (Below.refl B w) (by omega) _
  have p0 : w1.cell? ⟨pb, 0, none⟩ = some (.pointer (some ⟨g, 0, none⟩)) := guest_cell hW1 (.head _) rfl
  have p1 : w1.cell? ⟨pb, 1, none⟩ = some (.pointer none) := guest_cell hW1 (.head _) rfl
  have HW1 := Lib.hid hW1
  have HB1 := Lib.hid hB1
  have HG := Lib.hid hG
  clear h hW1 hB1 hG
  go_enter Try.func60, Try.ntmps60
  go_wp2_with fail
  rw [← hw1, ← hpb]
  clear hw1 hpb

  refine wp_region_still_tail 4 (by kernel_rfl) (by kernel_rfl) ?_
  simp only [List.take_succ_cons, List.take_zero, List.drop_succ_cons, List.drop_zero]
  change wpStill _ _ (World.drew w1) (fun a' => wpList _ _ _ _ a' (World.drew w1)) _ _
  have r0 : (World.drew w1).cell? ⟨pb, 0, none⟩ = some (.pointer (some ⟨g, 0, none⟩)) := p0
  have r1 : (World.drew w1).cell? ⟨pb, 1, none⟩ = some (.pointer none) := p1
  have HWd := Lib.hid (WrL.drew HW1.out)
  have HBd := Lib.hid (below_drew' HB1.out)
  clear p0 p1 HW1 HB1
  generalize World.drew w1 = wa0 at r0 r1 HWd HBd ⊢
  repeat still_step
  refine wpStill_nil ?_
  clear r0 r1
  go_wp2_with fail
  refine (text_w (j := 11) (show Wr _ _ _ _ _ _ from HWd.out) (.tail _ HG.out) l hcl hl7 (by first | omega | (simp only [List.length_append, bitsN_length]; omega))).mono ?_
  rintro e wb0 ⟨rfl, h3, b3⟩
  have HW1 := Lib.hid h3
  have HB1 := Lib.hid (HBd.out.trans b3)
  clear h3 b3 HWd HBd
  go_wp2_with fail
  go_end0
  have h9 : Wr B G _ g _ _ := WrL.drop HW1.out
  exact ⟨rfl, by simpa only [List.append_assoc, List.append_nil] using h9, HB1.out⟩
set_option maxRecDepth 100000 in
set_option maxHeartbeats 4000000 in
theorem data_w_long {B g gf : Nat} {G : List (Nat × Obj)} {w : World} {bs : List Bool} {cs : Array Value} (h : Wr B G w g bs 0) (hG : (gf, .cells cs 23) ∈ G) (f : Int) (hcf : cs[5]? = some (.int .i64 f)) (hlf : 0 ≤ f) (huf : f ≤ 255) (m : Int) (hcm : cs[6]? = some (.int .i64 m)) (hlm : 0 ≤ m) (hum : m ≤ 65535) (l : List UInt8) (hcl : cs[11]? = some (.string (Str l))) (hl7 : 127 < l.length) (hn : bs.length ≤ 100) :
    Calls Try.prog 57 #[Pw g, .pointer (some ⟨gf, 0, none⟩)] w fun e w' => e = .returned (.tuple #[]) ∧ Wr B G w' g (bs ++ (bitsN 8 f.toNat ++ bitsN 16 m.toNat)) 8 ∧ Below B w w' := by
  have hlt := WrL.lt h
  have hB := h.1
  obtain ⟨w1, hw1⟩ : ∃ w1, w1 = w.alloc (Pb g) := ⟨_, rfl⟩
  obtain ⟨pb, hpb⟩ : ∃ pb, pb = w.heap.size := ⟨_, rfl⟩
  have hW1 : Wr B ((pb, Pb g) :: G) w1 g bs 0 := by rw [hw1, hpb]; exact WrL.allocG h _ (pb_not8 g)
  have hB1 : Below B w w1 := by rw [hw1]; exact Below.alloc (Below.refl B w) (by omega) _
  have p0 : w1.cell? ⟨pb, 0, none⟩ = some (.pointer (some ⟨g, 0, none⟩)) := guest_cell hW1 (.head _) rfl
  have p1 : w1.cell? ⟨pb, 1, none⟩ = some (.pointer none) := guest_cell hW1 (.head _) rfl
  have HW1 := Lib.hid hW1
  have HB1 := Lib.hid hB1
  have HG := Lib.hid hG
  clear h hW1 hB1 hG
  go_enter Try.func57, Try.ntmps57
  go_wp2_with fail
  rw [← hw1, ← hpb]
  clear hw1 hpb

  refine wp_region_still_tail 4 (by kernel_rfl) (by kernel_rfl) ?_
  simp only [List.take_succ_cons, List.take_zero, List.drop_succ_cons, List.drop_zero]
  change wpStill _ _ (World.drew w1) (fun a' => wpList _ _ _ _ a' (World.drew w1)) _ _
  have r0 : (World.drew w1).cell? ⟨pb, 0, none⟩ = some (.pointer (some ⟨g, 0, none⟩)) := p0
  have r1 : (World.drew w1).cell? ⟨pb, 1, none⟩ = some (.pointer none) := p1
  have HWd := Lib.hid (WrL.drew HW1.out)
  have HBd := Lib.hid (below_drew' HB1.out)
  clear p0 p1 HW1 HB1
  generalize World.drew w1 = wa0 at r0 r1 HWd HBd ⊢
  repeat still_step
  refine wpStill_nil ?_
  clear r0 r1
  go_wp2_with fail
  refine (unsigned_w (j := 5) (show Wr _ _ _ _ _ _ from HWd.out) (.tail _ HG.out) (k := 8) (by omega) (by omega) f hcf hlf (by omega) (by omega) (by first | omega | (simp only [List.length_append, bitsN_length]; omega))).mono ?_
  rintro e wb0 ⟨rfl, h3, b3⟩
  have HW1 := Lib.hid h3
  have HB1 := Lib.hid (HBd.out.trans b3)
  clear h3 b3 HWd HBd
  have p0 : wb0.cell? ⟨pb, 0, none⟩ = some (.pointer (some ⟨g, 0, none⟩)) := guest_cell HW1.out (.head _) rfl
  have p1 : wb0.cell? ⟨pb, 1, none⟩ = some (.pointer none) := guest_cell HW1.out (.head _) rfl
  go_wp2_with fail
  refine wp_region_still_tail 4 (by kernel_rfl) (by kernel_rfl) ?_
  simp only [List.take_succ_cons, List.take_zero, List.drop_succ_cons, List.drop_zero]
  change wpStill _ _ (World.drew wb0) (fun a' => wpList _ _ _ _ a' (World.drew wb0)) _ _
  have r0 : (World.drew wb0).cell? ⟨pb, 0, none⟩ = some (.pointer (some ⟨g, 0, none⟩)) := p0
  have r1 : (World.drew wb0).cell? ⟨pb, 1, none⟩ = some (.pointer none) := p1
  have HWd := Lib.hid (WrL.drew HW1.out)
  have HBd := Lib.hid (below_drew' HB1.out)
  clear p0 p1 HW1 HB1
  generalize World.drew wb0 = wa1 at r0 r1 HWd HBd ⊢
  repeat still_step
  refine wpStill_nil ?_
  clear r0 r1
  go_wp2_with fail
  refine (unsigned_w (j := 6) (show Wr _ _ _ _ _ _ from HWd.out) (.tail _ HG.out) (k := 16) (by omega) (by omega) m hcm hlm (by omega) (by omega) (by first | omega | (simp only [List.length_append, bitsN_length]; omega))).mono ?_
  rintro e wb1 ⟨rfl, h3, b3⟩
  have HW1 := Lib.hid h3
  have HB1 := Lib.hid (HBd.out.trans b3)
  clear h3 b3 HWd HBd
  have p0 : wb1.cell? ⟨pb, 0, none⟩ = some (.pointer (some ⟨g, 0, none⟩)) := guest_cell HW1.out (.head _) rfl
  have p1 : wb1.cell? ⟨pb, 1, none⟩ = some (.pointer none) := guest_cell HW1.out (.head _) rfl
  go_wp2_with fail
  refine wp_region_still_tail 4 (by kernel_rfl) (by kernel_rfl) ?_
  simp only [List.take_succ_cons, List.take_zero, List.drop_succ_cons, List.drop_zero]
  change wpStill _ _ (World.drew wb1) (fun a' => wpList _ _ _ _ a' (World.drew wb1)) _ _
  have r0 : (World.drew wb1).cell? ⟨pb, 0, none⟩ = some (.pointer (some ⟨g, 0, none⟩)) := p0
  have r1 : (World.drew wb1).cell? ⟨pb, 1, none⟩ = some (.pointer none) := p1
  have HWd := Lib.hid (WrL.drew HW1.out)
  have HBd := Lib.hid (below_drew' HB1.out)
  clear p0 p1 HW1 HB1
  generalize World.drew wb1 = wa2 at r0 r1 HWd HBd ⊢
  repeat still_step
  refine wpStill_nil ?_
  clear r0 r1
  go_wp2_with fail
  refine (text_w_long (j := 11) (show Wr _ _ _ _ _ _ from HWd.out) (.tail _ HG.out) l hcl hl7).mono ?_
  rintro e wb2 ⟨rfl, h3, b3⟩
  have HW1 := Lib.hid h3
  have HB1 := Lib.hid (HBd.out.trans b3)
  clear h3 b3 HWd HBd
  go_wp2_with fail
  go_end0
  have h9 : Wr B G _ g _ _ := WrL.drop HW1.out
  exact ⟨rfl, by simpa only [List.append_assoc, List.append_nil] using h9, HB1.out⟩
set_option maxRecDepth 100000 in
set_option maxHeartbeats 4000000 in
theorem beacon_w_long {B g gf : Nat} {G : List (Nat × Obj)} {w : World} {bs : List Bool} {cs : Array Value} (h : Wr B G w g bs 0) (hG : (gf, .cells cs 23) ∈ G) (s : Int) (hcs : cs[8]? = some (.int .i64 s)) (hls : 0 ≤ s) (hus : s ≤ 109951162) (r : Int) (hcr : cs[9]? = some (.int .i64 r)) (hlr : 0 ≤ r) (hur : r ≤ 65535) (q : Int) (hcq : cs[10]? = some (.int .i64 q)) (hlq : 0 ≤ q) (huq : q ≤ 65535) (l : List UInt8) (hcl : cs[11]? = some (.string (Str l))) (hl7 : 127 < l.length) (hn : bs.length ≤ 100) :
    Calls Try.prog 59 #[Pw g, .pointer (some ⟨gf, 0, none⟩)] w fun e w' => e = .returned (.tuple #[]) ∧ Wr B G w' g (bs ++ (bitsN 27 s.toNat ++ bitsN 16 r.toNat ++ bitsN 16 q.toNat)) 8 ∧ Below B w w' := by
  have hlt := WrL.lt h
  have hB := h.1
  obtain ⟨w1, hw1⟩ : ∃ w1, w1 = w.alloc (Pb g) := ⟨_, rfl⟩
  obtain ⟨pb, hpb⟩ : ∃ pb, pb = w.heap.size := ⟨_, rfl⟩
  have hW1 : Wr B ((pb, Pb g) :: G) w1 g bs 0 := by rw [hw1, hpb]; exact WrL.allocG h _ (pb_not8 g)
  have hB1 : Below B w w1 := by rw [hw1]; exact Below.alloc (Below.refl B w) (by omega) _
  have p0 : w1.cell? ⟨pb, 0, none⟩ = some (.pointer (some ⟨g, 0, none⟩)) := guest_cell hW1 (.head _) rfl
  have p1 : w1.cell? ⟨pb, 1, none⟩ = some (.pointer none) := guest_cell hW1 (.head _) rfl
  have HW1 := Lib.hid hW1
  have HB1 := Lib.hid hB1
  have HG := Lib.hid hG
  clear h hW1 hB1 hG
  go_enter Try.func59, Try.ntmps59
  go_wp2_with fail
  rw [← hw1, ← hpb]
  clear hw1 hpb

  refine wp_region_still_tail 4 (by kernel_rfl) (by kernel_rfl) ?_
  simp only [List.take_succ_cons, List.take_zero, List.drop_succ_cons, List.drop_zero]
  change wpStill _ _ (World.drew w1) (fun a' => wpList _ _ _ _ a' (World.drew w1)) _ _
  have r0 : (World.drew w1).cell? ⟨pb, 0, none⟩ = some (.pointer (some ⟨g, 0, none⟩)) := p0
  have r1 : (World.drew w1).cell? ⟨pb, 1, none⟩ = some (.pointer none) := p1
  have HWd := Lib.hid (WrL.drew HW1.out)
  have HBd := Lib.hid (below_drew' HB1.out)
  clear p0 p1 HW1 HB1
  generalize World.drew w1 = wa0 at r0 r1 HWd HBd ⊢
  repeat still_step
  refine wpStill_nil ?_
  clear r0 r1
  go_wp2_with fail
  refine (unsigned_w (j := 8) (show Wr _ _ _ _ _ _ from HWd.out) (.tail _ HG.out) (k := 27) (by omega) (by omega) s hcs hls (by omega) (by omega) (by first | omega | (simp only [List.length_append, bitsN_length]; omega))).mono ?_
  rintro e wb0 ⟨rfl, h3, b3⟩
  have HW1 := Lib.hid h3
  have HB1 := Lib.hid (HBd.out.trans b3)
  clear h3 b3 HWd HBd
  have p0 : wb0.cell? ⟨pb, 0, none⟩ = some (.pointer (some ⟨g, 0, none⟩)) := guest_cell HW1.out (.head _) rfl
  have p1 : wb0.cell? ⟨pb, 1, none⟩ = some (.pointer none) := guest_cell HW1.out (.head _) rfl
  go_wp2_with fail
  refine wp_region_still_tail 4 (by kernel_rfl) (by kernel_rfl) ?_
  simp only [List.take_succ_cons, List.take_zero, List.drop_succ_cons, List.drop_zero]
  change wpStill _ _ (World.drew wb0) (fun a' => wpList _ _ _ _ a' (World.drew wb0)) _ _
  have r0 : (World.drew wb0).cell? ⟨pb, 0, none⟩ = some (.pointer (some ⟨g, 0, none⟩)) := p0
  have r1 : (World.drew wb0).cell? ⟨pb, 1, none⟩ = some (.pointer none) := p1
  have HWd := Lib.hid (WrL.drew HW1.out)
  have HBd := Lib.hid (below_drew' HB1.out)
  clear p0 p1 HW1 HB1
  generalize World.drew wb0 = wa1 at r0 r1 HWd HBd ⊢
  repeat still_step
  refine wpStill_nil ?_
  clear r0 r1
  go_wp2_with fail
  refine (unsigned_w (j := 9) (show Wr _ _ _ _ _ _ from HWd.out) (.tail _ HG.out) (k := 16) (by omega) (by omega) r hcr hlr (by omega) (by omega) (by first | omega | (simp only [List.length_append, bitsN_length]; omega))).mono ?_
  rintro e wb1 ⟨rfl, h3, b3⟩
  have HW1 := Lib.hid h3
  have HB1 := Lib.hid (HBd.out.trans b3)
  clear h3 b3 HWd HBd
  have p0 : wb1.cell? ⟨pb, 0, none⟩ = some (.pointer (some ⟨g, 0, none⟩)) := guest_cell HW1.out (.head _) rfl
  have p1 : wb1.cell? ⟨pb, 1, none⟩ = some (.pointer none) := guest_cell HW1.out (.head _) rfl
  go_wp2_with fail
  refine wp_region_still_tail 4 (by kernel_rfl) (by kernel_rfl) ?_
  simp only [List.take_succ_cons, List.take_zero, List.drop_succ_cons, List.drop_zero]
  change wpStill _ _ (World.drew wb1) (fun a' => wpList _ _ _ _ a' (World.drew wb1)) _ _
  have r0 : (World.drew wb1).cell? ⟨pb, 0, none⟩ = some (.pointer (some ⟨g, 0, none⟩)) := p0
  have r1 : (World.drew wb1).cell? ⟨pb, 1, none⟩ = some (.pointer none) := p1
  have HWd := Lib.hid (WrL.drew HW1.out)
  have HBd := Lib.hid (below_drew' HB1.out)
  clear p0 p1 HW1 HB1
  generalize World.drew wb1 = wa2 at r0 r1 HWd HBd ⊢
  repeat still_step
  refine wpStill_nil ?_
  clear r0 r1
  go_wp2_with fail
  refine (unsigned_w (j := 10) (show Wr _ _ _ _ _ _ from HWd.out) (.tail _ HG.out) (k := 16) (by omega) (by omega) q hcq hlq (by omega) (by omega) (by first | omega | (simp only [List.length_append, bitsN_length]; omega))).mono ?_
  rintro e wb2 ⟨rfl, h3, b3⟩
  have HW1 := Lib.hid h3
  have HB1 := Lib.hid (HBd.out.trans b3)
  clear h3 b3 HWd HBd
  have p0 : wb2.cell? ⟨pb, 0, none⟩ = some (.pointer (some ⟨g, 0, none⟩)) := guest_cell HW1.out (.head _) rfl
  have p1 : wb2.cell? ⟨pb, 1, none⟩ = some (.pointer none) := guest_cell HW1.out (.head _) rfl
  go_wp2_with fail
  refine wp_region_still_tail 4 (by kernel_rfl) (by kernel_rfl) ?_
  simp only [List.take_succ_cons, List.take_zero, List.drop_succ_cons, List.drop_zero]
  change wpStill _ _ (World.drew wb2) (fun a' => wpList _ _ _ _ a' (World.drew wb2)) _ _
  have r0 : (World.drew wb2).cell? ⟨pb, 0, none⟩ = some (.pointer (some ⟨g, 0, none⟩)) := p0
  have r1 : (World.drew wb2).cell? ⟨pb, 1, none⟩ = some (.pointer none) := p1
  have HWd := Lib.hid (WrL.drew HW1.out)
  have HBd := Lib.hid (below_drew' HB1.out)
  clear p0 p1 HW1 HB1
  generalize World.drew wb2 = wa3 at r0 r1 HWd HBd ⊢
  repeat still_step
  refine wpStill_nil ?_
  clear r0 r1
  go_wp2_with fail
  refine (text_w_long (j := 11) (show Wr _ _ _ _ _ _ from HWd.out) (.tail _ HG.out) l hcl hl7).mono ?_
  rintro e wb3 ⟨rfl, h3, b3⟩
  have HW1 := Lib.hid h3
  have HB1 := Lib.hid (HBd.out.trans b3)
  clear h3 b3 HWd HBd
  go_wp2_with fail
  go_end0
  have h9 : Wr B G _ g _ _ := WrL.drop HW1.out
  exact ⟨rfl, by simpa only [List.append_assoc, List.append_nil] using h9, HB1.out⟩
set_option maxRecDepth 100000 in
set_option maxHeartbeats 4000000 in
theorem message_w_long {B g gf : Nat} {G : List (Nat × Obj)} {w : World} {bs : List Bool} {cs : Array Value} (h : Wr B G w g bs 0) (hG : (gf, .cells cs 23) ∈ G) (l : List UInt8) (hcl : cs[11]? = some (.string (Str l))) (hl7 : 127 < l.length) (hn : bs.length ≤ 100) :
    Calls Try.prog 60 #[Pw g, .pointer (some ⟨gf, 0, none⟩)] w fun e w' => e = .returned (.tuple #[]) ∧ Wr B G w' g (bs ++ ([])) 8 ∧ Below B w w' := by
  have hlt := WrL.lt h
  have hB := h.1
  obtain ⟨w1, hw1⟩ : ∃ w1, w1 = w.alloc (Pb g) := ⟨_, rfl⟩
  obtain ⟨pb, hpb⟩ : ∃ pb, pb = w.heap.size := ⟨_, rfl⟩
  have hW1 : Wr B ((pb, Pb g) :: G) w1 g bs 0 := by rw [hw1, hpb]; exact WrL.allocG h _ (pb_not8 g)
  have hB1 : Below B w w1 := by rw [hw1]; exact Below.alloc (Below.refl B w) (by omega) _
  have p0 : w1.cell? ⟨pb, 0, none⟩ = some (.pointer (some ⟨g, 0, none⟩)) := guest_cell hW1 (.head _) rfl
  have p1 : w1.cell? ⟨pb, 1, none⟩ = some (.pointer none) := guest_cell hW1 (.head _) rfl
  have HW1 := Lib.hid hW1
  have HB1 := Lib.hid hB1
  have HG := Lib.hid hG
  clear h hW1 hB1 hG
  go_enter Try.func60, Try.ntmps60
  go_wp2_with fail
  rw [← hw1, ← hpb]
  clear hw1 hpb

  refine wp_region_still_tail 4 (by kernel_rfl) (by kernel_rfl) ?_
  simp only [List.take_succ_cons, List.take_zero, List.drop_succ_cons, List.drop_zero]
  change wpStill _ _ (World.drew w1) (fun a' => wpList _ _ _ _ a' (World.drew w1)) _ _
  have r0 : (World.drew w1).cell? ⟨pb, 0, none⟩ = some (.pointer (some ⟨g, 0, none⟩)) := p0
  have r1 : (World.drew w1).cell? ⟨pb, 1, none⟩ = some (.pointer none) := p1
  have HWd := Lib.hid (WrL.drew HW1.out)
  have HBd := Lib.hid (below_drew' HB1.out)
  clear p0 p1 HW1 HB1
  generalize World.drew w1 = wa0 at r0 r1 HWd HBd ⊢
  repeat still_step
  refine wpStill_nil ?_
  clear r0 r1
  go_wp2_with fail
  refine (text_w_long (j := 11) (show Wr _ _ _ _ _ _ from HWd.out) (.tail _ HG.out) l hcl hl7).mono ?_
  rintro e wb0 ⟨rfl, h3, b3⟩
  have HW1 := Lib.hid h3
  have HB1 := Lib.hid (HBd.out.trans b3)
  clear h3 b3 HWd HBd
  go_wp2_with fail
  go_end0
  have h9 : Wr B G _ g _ _ := WrL.drop HW1.out
  exact ⟨rfl, by simpa only [List.append_assoc, List.append_nil] using h9, HB1.out⟩
end Go.Proofs.Ytbgnkjaikbhdoaa.PenW
