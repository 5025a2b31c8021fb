/- The reference's writer in memory (a byte for each bit): what its blocks hold, and what each step does to them. (cut to what is reached: wip/tools/slimout2.py) -/
import Derived.Test.YtjjcgjpmhhkeaaaProg
import Derived.Test.YtjjcgjpmhhkeaaaSNPack
import Derived.Test.YtjjcgjpmhhkeaaaSNWr
import Derived.Below
import Derived.Tactics
import Derived.WalkKit
import Derived.KernelRfl
import Derived.RowKit3
import Derived.Laws.AppendOwn
import Derived.Laws.Rows
import Derived.Laws.Tables
import Derived.OneCell
import Derived.OwnWalk
import Derived.Lib.Hide
import Derived.Deep.Draws
namespace Go.Proofs.Ytjjcgjpmhhkeaaa.Wf
open Go.RowKit Go.Proofs.Ytjjcgjpmhhkeaaa.Pack
open Go.Proofs.Ytjjcgjpmhhkeaaa.Wr (B8 T8 ne_of_types)
abbrev TR : TypeId := 73
def WfL (B : Nat) (G : List (Nat × Obj)) (w : World) (g : Nat) (l : List UInt8) (err : Int) : Prop :=
  B ≤ g ∧ (∃ v, w.heap[g]? = some (.cells #[v, .int .i64 err] TR (0, 0)) ∧ w.ownsRow B 5 1 v l.length (l.map B8)) ∧
  ∀ p ∈ G, w.heap[p.1]? = some p.2 ∧ p.1 ≠ g ∧ ¬ T8 p.2
variable {B g : Nat} {G : List (Nat × Obj)} {w : World} {l : List UInt8} {err : Int} {bs : List Bool}
theorem WfL.lt (h : WfL B G w g l err) : g < w.heap.size := by
  obtain ⟨_, ⟨v, hv, _⟩, _⟩ := h
  exact (Array.getElem?_eq_some_iff.1 hv).1
theorem WfL.alloc (h : WfL B G w g l err) (o : Obj) : WfL B G (w.alloc o) g l err := by
  have hlt := h.lt
  obtain ⟨h1, ⟨v, hv, hr⟩, hG⟩ := h
  refine ⟨h1, ⟨v, by rw [heap_alloc_old _ _ hlt]; exact hv, hr.alloc o⟩, fun p hp => ?_⟩
  obtain ⟨a, b, c⟩ := hG p hp
  exact ⟨by rw [heap_alloc_old _ _ (Array.getElem?_eq_some_iff.1 a).1]; exact a, b, c⟩
theorem WfL.drop {p : Nat × Obj} (h : WfL B (p :: G) w g l err) : WfL B G w g l err := ⟨h.1, h.2.1, fun q hq => h.2.2 q (List.mem_cons_of_mem _ hq)⟩
theorem WfL.drew (h : WfL B G w g l err) : WfL B G w.drew g l err := h
theorem WfL.drewN (h : WfL B G w g l err) (k : Nat) : WfL B G (w.drewN k) g l err := h
theorem WfL.below {w' : World} (h : WfL B G w g l err) (hb : Below w.heap.size w w') : WfL B G w' g l err := by
  have hlt := h.lt
  obtain ⟨h1, ⟨v, hv, hr⟩, hG⟩ := h
  have hg : w.grownBy w' none := ⟨hb.os, hb.tape, hb.output, hb.size, fun i hi _ => hb.block i hi⟩
  refine ⟨h1, ⟨v, by rw [hb.block _ hlt]; exact hv, ?_⟩, fun p hp => ?_⟩
  · obtain ⟨a, b⟩ := hr
    refine ⟨a, ?_⟩
    rcases b with b | ⟨gr, cap, cur, b1, b2, b3, b4⟩
    · exact .inl b
    · exact .inr ⟨gr, cap, cur, b1, b2, by rw [hb.block _ (Array.getElem?_eq_some_iff.1 b3).1]; exact b3, b4⟩
  · obtain ⟨a, b, c⟩ := hG p hp
    exact ⟨by rw [hb.block _ (Array.getElem?_eq_some_iff.1 a).1]; exact a, b, c⟩
theorem WfL.cells (h : WfL B G w g l err) : ∃ v, w.cell? ⟨g, 0, none⟩ = some v ∧ w.cell? ⟨g, 1, none⟩ = some (.int .i64 err) ∧ (∀ j, w.frozen? ⟨g, j, none⟩ = false) ∧ w.ownsRow B 5 1 v l.length (l.map B8) ∧ w.heap[g]? = some (.cells #[v, .int .i64 err] TR (0, 0)) := by
  obtain ⟨_, ⟨v, hv, hr⟩, _⟩ := h
  refine ⟨v, ?_, ?_, ?_, hr, hv⟩
  · rw [cell_of_row _ _ _ _ _ _ hv]; rfl
  · rw [cell_of_row _ _ _ _ _ _ hv]; rfl
  · intro j; exact frozen_of_row _ _ _ _ _ hv
theorem WfL.put (h : WfL B G w g l err) {i : Nat} {x : Value} {err' : Int} {v : Value} (hv : w.heap[g]? = some (.cells #[v, .int .i64 err] TR (0, 0)))
    (hr : w.ownsRow B 5 1 v l.length (l.map B8)) (he : (#[v, .int .i64 err] : Array Value).setIfInBounds i x = #[v, .int .i64 err']) :
    WfL B G (w.setCell ⟨g, i, none⟩ x) g l err' := by
  refine ⟨h.1, ⟨v, by rw [heap_setCell_same _ _ _ _ _ _ hv, he], ?_⟩, fun p hp => ?_⟩
  · obtain ⟨a, b⟩ := hr
    refine ⟨a, ?_⟩
    rcases b with b | ⟨gr, cap, cur, b1, b2, b3, b4⟩
    · exact .inl b
    · exact .inr ⟨gr, cap, cur, b1, b2, by rw [heap_setCell_other _ _ _ _ (ne_of_types b3 hv (by decide))]; exact b3, b4⟩
  · obtain ⟨a, b, c⟩ := h.2.2 p hp
    exact ⟨by rw [heap_setCell_other _ _ _ _ b]; exact a, b, c⟩
end Go.Proofs.Ytjjcgjpmhhkeaaa.Wf
