/- frame.pen.target, writing; the map of a frame's kinds; frame.pen.frame, writing. (cut to what is reached: wip/tools/slimout2.py) -/
import Derived.Test.YtbgnkjaikbhdoaaFGPenW
import Derived.Maps.OwnOps
import Derived.Maps.OwnSet
import Derived.Maps.Views
import Derived.Maps.Keyed
namespace Go.Proofs.Ytbgnkjaikbhdoaa.PenF
open Go.Maps (keyOf_int_mk)
open Go.RowKit Go.Proofs.Ytbgnkjaikbhdoaa.Pack Go.Proofs.Ytbgnkjaikbhdoaa.Wr Go.Proofs.Ytbgnkjaikbhdoaa.WrPut Go.Proofs.Ytbgnkjaikbhdoaa.WrAll Go.Proofs.Ytbgnkjaikbhdoaa.WrText Go.Proofs.Ytbgnkjaikbhdoaa.PenW
open Go.Proofs.Ytbgnkjaikbhdoaa.Bytes (Str)
def targetBits (n : Int) : List Bool := if 0 ≤ n then true :: bitsN 5 n.toNat else [false]
set_option maxRecDepth 100000 in
set_option maxHeartbeats 4000000 in
theorem target_yes {B g gf : Nat} {G : List (Nat × Obj)} {w : World} {bs : List Bool} {cs : Array Value} (h : Wr B G w g bs 0) (hG : (gf, .cells cs 23) ∈ G) (n : Int) (hj : cs[2]? = some (.int .i64 n)) (h0 : 0 ≤ n) (h1 : n ≤ 31) (hn : bs.length + 6 ≤ 1000) :
    Calls Try.prog 62 #[Pw g, .pointer (some ⟨gf, 2, none⟩)] w fun e w' => e = .returned (.tuple #[]) ∧ Wr B G w' g (bs ++ (true :: bitsN 5 n.toNat)) 0 ∧ Below B w w' := by
  have hlt := WrL.lt h
  have hB := h.1
  have hW1 : Wr B ((w.heap.size, Pb g) :: G) (w.alloc (Pb g)) g bs 0 := WrL.allocG h _ (pb_not8 g)
  have hB1 : Below B w (w.alloc (Pb g)) := Below.alloc (Below.refl B w) (by omega) _
  have hgf := guest_lt h hG
  have q0 : w.cell? ⟨gf, 2, none⟩ = some (.int .i64 n) := guest_cell h hG hj
  have HP := Lib.hid (flag_ok hW1 true (by omega))
  have HB1 := Lib.hid hB1
  have HG := Lib.hid hG
  have HJ := Lib.hid hj
  clear h hG hW1 hB1 hj
  go_enter Try.func62, Try.ntmps62
  go_wp2_with fail
  refine HP.out.mono ?_
  rintro e w2 ⟨rfl, h3, b3⟩
  have HW2 := Lib.hid h3
  have HB2 := Lib.hid (HB1.out.trans b3)
  have p0' : w2.cell? ⟨w.heap.size, 0, none⟩ = some (.pointer (some ⟨g, 0, none⟩)) := guest_cell h3 (.head _) rfl
  have p1' : w2.cell? ⟨w.heap.size, 1, none⟩ = some (.pointer none) := guest_cell h3 (.head _) rfl
  clear h3 b3 q0 HP HB1 hgf
  go_wp2_with fail
  refine (unsigned_w (j := 2) (show Wr _ _ _ _ _ _ from HW2.out) (.tail _ HG.out) (k := 5) (by omega) (by omega) n HJ.out h0 (by omega) (by omega) (by simp only [List.length_append, List.length_singleton]; omega)).mono ?_
  rintro e w3 ⟨rfl, h3, b3⟩
  have HW3 := Lib.hid h3
  have HB3 := Lib.hid (HB2.out.trans b3)
  clear h3 b3
  go_wp2_with fail
  go_end0
  have h9 : Wr B G _ g _ _ := WrL.drop HW3.out
  exact ⟨rfl, by simpa only [List.append_assoc, List.cons_append, List.nil_append] using h9, HB3.out⟩
set_option maxRecDepth 100000 in
set_option maxHeartbeats 4000000 in
theorem target_no {B g gf : Nat} {G : List (Nat × Obj)} {w : World} {bs : List Bool} {cs : Array Value} (h : Wr B G w g bs 0) (hG : (gf, .cells cs 23) ∈ G) (hj : cs[2]? = some (.int .i64 (-1))) (hn : bs.length + 6 ≤ 1000) :
    Calls Try.prog 62 #[Pw g, .pointer (some ⟨gf, 2, none⟩)] w fun e w' => e = .returned (.tuple #[]) ∧ Wr B G w' g (bs ++ [false]) 0 ∧ Below B w w' := by
  have hlt := WrL.lt h
  have hB := h.1
  have hW1 : Wr B ((w.heap.size, Pb g) :: G) (w.alloc (Pb g)) g bs 0 := WrL.allocG h _ (pb_not8 g)
  have hB1 : Below B w (w.alloc (Pb g)) := Below.alloc (Below.refl B w) (by omega) _
  have hgf := guest_lt h hG
  have q0 : w.cell? ⟨gf, 2, none⟩ = some (.int .i64 (-1)) := guest_cell h hG hj
  have HP := Lib.hid (flag_ok hW1 false (by omega))
  have HB1 := Lib.hid hB1
  have HG := Lib.hid hG
  have HJ := Lib.hid hj
  clear h hG hW1 hB1 hj
  go_enter Try.func62, Try.ntmps62
  go_wp2_with fail
  refine HP.out.mono ?_
  rintro e w2 ⟨rfl, h3, b3⟩
  have HW2 := Lib.hid h3
  have HB2 := Lib.hid (HB1.out.trans b3)
  have q0' : w2.cell? ⟨gf, 2, none⟩ = some (.int .i64 (-1)) := guest_cell h3 (.tail _ HG.out) HJ.out
  have f0' : w2.frozen? ⟨gf, 2, none⟩ = false := frozen_of_row _ _ _ _ _ (WrL.guest h3 (.tail _ HG.out))
  have HW3 := Lib.hid (again h3 (.tail _ HG.out) HJ.out)
  have HB3 := Lib.hid (again_below (HB1.out.trans b3) h3 (.tail _ HG.out) HJ.out)
  clear h3 b3 q0 HP HB1 hgf
  go_wp2_with fail
  go_end0
  exact ⟨rfl, WrL.drop HW3.out, HB3.out⟩
theorem target_w {B g gf : Nat} {G : List (Nat × Obj)} {w : World} {bs : List Bool} {cs : Array Value} (h : Wr B G w g bs 0) (hG : (gf, .cells cs 23) ∈ G) (n : Int) (hj : cs[2]? = some (.int .i64 n)) (h0 : -1 ≤ n) (h1 : n ≤ 31) (hn : bs.length + 6 ≤ 1000) :
    Calls Try.prog 62 #[Pw g, .pointer (some ⟨gf, 2, none⟩)] w fun e w' => e = .returned (.tuple #[]) ∧ Wr B G w' g (bs ++ targetBits n) 0 ∧ Below B w w' := by
  unfold targetBits
  by_cases hz : 0 ≤ n
  · rw [if_pos hz]; exact target_yes h hG n hj hz h1 hn
  · rw [if_neg hz]
    obtain rfl : n = -1 := by omega
    exact target_no h hG hj hn
def fnElem (v : Value) : Option (DataW Unit × List MemPlace) :=
  match v with
  | .func (.func k) f c => if f.size = 0 ∧ c.size = 0 then some (.lit (.int .i64 (k : Int)), []) else none
  | .nilFunc => some (.nil, [])
  | _ => none
theorem fnElem_inv {v : Value} {k : Nat} {ps : List MemPlace} (h : fnElem v = some (.lit (.int .i64 (k : Int)), ps)) : v = .func (.func k) #[] #[] := by
  unfold fnElem at h
  split at h
  · split at h
    · rename_i hs
      simp only [Option.some.injEq, Prod.mk.injEq, DataW.lit.injEq, Lit.int.injEq, true_and] at h
      obtain ⟨ha, hb⟩ := hs
      have h1 := Int.ofNat.inj h.1
      rw [Array.eq_empty_of_size_eq_zero ha, Array.eq_empty_of_size_eq_zero hb, h1]
    · cases h
  · simp at h
  · cases h
theorem fnElem_nil {v : Value} {ps : List MemPlace} (h : fnElem v = some (.nil, ps)) : v = .nilFunc := by
  unfold fnElem at h
  split at h
  · split at h <;> simp at h
  · rfl
  · cases h
abbrev Fv (k : Nat) : Value := .func (.func k) #[] #[]
theorem fn_mk (k : Nat) : fnElem (Fv k) = some (.lit (.int .i64 (k : Int)), []) := by simp [fnElem]
theorem key_of (j : Int) (h0 : -1000000 ≤ j) (h1 : j ≤ 1000000) : keyOf Try.prog 3 (.int .i64 j) = some (.int .i64 j) :=
  keyOf_int_mk Try.underlying3 (by simp [Lit.wf, IntKind.min, IntKind.max, IntKind.bits, IntKind.signed]; omega)
theorem isKey (j : Int) : WideAt.IsKeyLit (.int .i64 j) := by unfold WideAt.IsKeyLit; trivial
abbrev TM : TypeId := 87
theorem kinds_map (w : World) : ∃ w1 w2 w3 w4 o,
    (Instr.mapUpdate TM (.map (some w.heap.size)) (.int .i64 1) (Fv 57)).run Try.prog (w.alloc (.map #[] 0)) = .ok () w1 ∧
    (Instr.mapUpdate TM (.map (some w.heap.size)) (.int .i64 2) (Fv 58)).run Try.prog w1 = .ok () w2 ∧
    (Instr.mapUpdate TM (.map (some w.heap.size)) (.int .i64 3) (Fv 59)).run Try.prog w2 = .ok () w3 ∧
    (Instr.mapUpdate TM (.map (some w.heap.size)) (.int .i64 4) (Fv 60)).run Try.prog w3 = .ok () w4 ∧
    Below w.heap.size w w4 ∧ w.heap.size < w4.heap.size ∧ w4.heap[w.heap.size]? = some o ∧ ¬ T8 o ∧
    (∀ W : World, W.heap[w.heap.size]? = some o →
      (Instr.lookup TM (.map (some w.heap.size)) (.int .i64 1) true).run Try.prog W = .ok (.tuple #[Fv 57, .bool true]) W ∧
      (Instr.lookup TM (.map (some w.heap.size)) (.int .i64 2) true).run Try.prog W = .ok (.tuple #[Fv 58, .bool true]) W ∧
      (Instr.lookup TM (.map (some w.heap.size)) (.int .i64 3) true).run Try.prog W = .ok (.tuple #[Fv 59, .bool true]) W ∧
      (Instr.lookup TM (.map (some w.heap.size)) (.int .i64 4) true).run Try.prog W = .ok (.tuple #[Fv 60, .bool true]) W ∧
      ∀ j : Int, -1000000 ≤ j → j ≤ 1000000 → j ≠ 1 → j ≠ 2 → j ≠ 3 → j ≠ 4 → (Instr.lookup TM (.map (some w.heap.size)) (.int .i64 j) true).run Try.prog W = .ok (.tuple #[.nilFunc, .bool false]) W) := by
  have K := Maps.int_keyed (P := Try.prog) Try.underlying3
  have ht := Try.underlying87
  have h0 := World.ownsMap_made (H := Unit) w Try.prog 3 fnElem
  obtain ⟨w1, r1, h1, g1⟩ := h0.update K ht (by decide) (key_of 1 (by omega) (by omega)) (fn_mk 57)
  obtain ⟨w2, r2, h2, g2⟩ := h1.update K ht (by decide) (key_of 2 (by omega) (by omega)) (fn_mk 58)
  obtain ⟨w3, r3, h3, g3⟩ := h2.update K ht (by decide) (key_of 3 (by omega) (by omega)) (fn_mk 59)
  obtain ⟨w4, r4, h4, g4⟩ := h3.update K ht (by decide) (key_of 4 (by omega) (by omega)) (fn_mk 60)
  have hI0 : Maps.IsMap (DataW.map (H := Unit) []) := Maps.isMap_empty
  have hI1 := hI0.put (.int .i64 1) (.lit (.int .i64 ((57 : Nat) : Int)))
  have hI2 := hI1.put (.int .i64 2) (.lit (.int .i64 ((58 : Nat) : Int)))
  have hI3 := hI2.put (.int .i64 3) (.lit (.int .i64 ((59 : Nat) : Int)))
  have ne : ∀ {a b : Int}, a ≠ b → (Lit.int .i64 a) ≠ (Lit.int .i64 b) := by intro a b h e; injection e with _ e; exact h e
  obtain ⟨es, clock, hb, hrest⟩ := h4
  refine ⟨w1, w2, w3, w4, .map es clock, r1, r2, r3, r4, ?_, ?_, hb, (by rintro ⟨cur, e⟩; cases e), ?_⟩
  · have b0 : Below w.heap.size w (w.alloc (.map #[] 0)) := (Below.refl _ _).alloc (Nat.le_refl _) _
    have st : ∀ {a b : World}, Below w.heap.size w a → a.grownBy b (some w.heap.size) → Below w.heap.size w b := fun {a b} h hg =>
      ⟨hg.os.trans h.os, hg.tape.trans h.tape, hg.output.trans h.output, Nat.le_trans h.size hg.size, fun i hi => (hg.block i (Nat.lt_of_lt_of_le hi h.size) (by intro e; injection e with e; omega)).trans (h.block i hi)⟩
    exact st (st (st (st b0 g1) g2) g3) g4
  · exact (Array.getElem?_eq_some_iff.1 hb).1
  · intro W hW
    have hO : W.ownsMap Try.prog 3 fnElem w.heap.size 4 _ := ⟨es, clock, hW, hrest⟩
    have look : ∀ j : Int, -1000000 ≤ j → j ≤ 1000000 → _ := fun j a b => hO.look_ok K ht (Try.zeroValue85 W) (zd := .nil) (zp := []) rfl (key_of j a b)
    refine ⟨?_, ?_, ?_, ?_, ?_⟩
    · obtain ⟨v, ps, hr, hv⟩ := look 1 (by omega) (by omega)
      rw [Maps.atKey_put_other (ne (by omega)), Maps.atKey_put_other (ne (by omega)), Maps.atKey_put_other (ne (by omega)), Maps.atKey_put_same hI0 (isKey 1)] at hv
      rw [Maps.has_put_other (ne (by omega)), Maps.has_put_other (ne (by omega)), Maps.has_put_other (ne (by omega)), Maps.has_put_same hI0 (isKey 1)] at hr
      rw [hr, fnElem_inv hv]
    · obtain ⟨v, ps, hr, hv⟩ := look 2 (by omega) (by omega)
      rw [Maps.atKey_put_other (ne (by omega)), Maps.atKey_put_other (ne (by omega)), Maps.atKey_put_same hI1 (isKey 2)] at hv
      rw [Maps.has_put_other (ne (by omega)), Maps.has_put_other (ne (by omega)), Maps.has_put_same hI1 (isKey 2)] at hr
      rw [hr, fnElem_inv hv]
    · obtain ⟨v, ps, hr, hv⟩ := look 3 (by omega) (by omega)
      rw [Maps.atKey_put_other (ne (by omega)), Maps.atKey_put_same hI2 (isKey 3)] at hv
      rw [Maps.has_put_other (ne (by omega)), Maps.has_put_same hI2 (isKey 3)] at hr
      rw [hr, fnElem_inv hv]
    · obtain ⟨v, ps, hr, hv⟩ := look 4 (by omega) (by omega)
      rw [Maps.atKey_put_same hI3 (isKey 4)] at hv
      rw [Maps.has_put_same hI3 (isKey 4)] at hr
      rw [hr, fnElem_inv hv]
    · intro j a b n1 n2 n3 n4
      obtain ⟨v, ps, hr, hv⟩ := look j a b
      rw [Maps.atKey_put_other (ne n4), Maps.atKey_put_other (ne n3), Maps.atKey_put_other (ne n2), Maps.atKey_put_other (ne n1)] at hv
      rw [Maps.has_put_other (ne n4), Maps.has_put_other (ne n3), Maps.has_put_other (ne n2), Maps.has_put_other (ne n1)] at hr
      rw [hr, fnElem_nil hv]; rfl
end Go.Proofs.Ytbgnkjaikbhdoaa.PenF
