/- The reference's writer in memory (a byte for each bit): what its blocks hold, and what each step does to them. (cut to what is reached: wip/tools/slimout2.py) -/
import Derived.Test.YtjjcgjpmhhkeaaaProg
import Derived.Test.YtjjcgjpmhhkeaaaSFPack
import Derived.Test.YtjjcgjpmhhkeaaaSFWr
import Derived.Below
import Derived.Tactics
import Derived.WalkKit
import Derived.KernelRfl
import Derived.RowKit3
import Derived.Laws.AppendOwn
import Derived.Laws.Rows
import Derived.Laws.Tables
import Derived.OneCell
import Derived.OwnWalk
import Derived.Lib.Hide
import Derived.Deep.Draws
namespace Go.Proofs.Ytjjcgjpmhhkeaaa.Wf
open Go.RowKit Go.Proofs.Ytjjcgjpmhhkeaaa.Pack
open Go.Proofs.Ytjjcgjpmhhkeaaa.Wr (B8 T8 ne_of_types)
abbrev TR : TypeId := 73
def WfL (B : Nat) (G : List (Nat × Obj)) (w : World) (g : Nat) (l : List UInt8) (err : Int) : Prop :=
  B ≤ g ∧ (∃ v, w.heap[g]? = some (.cells #[v, .int .i64 err] TR (0, 0)) ∧ w.ownsRow B 5 1 v l.length (l.map B8)) ∧
  ∀ p ∈ G, w.heap[p.1]? = some p.2 ∧ p.1 ≠ g ∧ ¬ T8 p.2
variable {B g : Nat} {G : List (Nat × Obj)} {w : World} {l : List UInt8} {err : Int} {bs : List Bool}
theorem WfL.cells (h : WfL B G w g l err) : ∃ v, w.cell? ⟨g, 0, none⟩ = some v ∧ w.cell? ⟨g, 1, none⟩ = some (.int .i64 err) ∧ (∀ j, w.frozen? ⟨g, j, none⟩ = false) ∧ w.ownsRow B 5 1 v l.length (l.map B8) ∧ w.heap[g]? = some (.cells #[v, .int .i64 err] TR (0, 0)) := by
  obtain ⟨_, ⟨v, hv, hr⟩, _⟩ := h
  refine ⟨v, ?_, ?_, ?_, hr, hv⟩
  · rw [cell_of_row _ _ _ _ _ _ hv]; rfl
  · rw [cell_of_row _ _ _ _ _ _ hv]; rfl
  · intro j; exact frozen_of_row _ _ _ _ _ hv
theorem WfL.put (h : WfL B G w g l err) {i : Nat} {x : Value} {err' : Int} {v : Value} (hv : w.heap[g]? = some (.cells #[v, .int .i64 err] TR (0, 0)))
    (hr : w.ownsRow B 5 1 v l.length (l.map B8)) (he : (#[v, .int .i64 err] : Array Value).setIfInBounds i x = #[v, .int .i64 err']) :
    WfL B G (w.setCell ⟨g, i, none⟩ x) g l err' := by
  refine ⟨h.1, ⟨v, by rw [heap_setCell_same _ _ _ _ _ _ hv, he], ?_⟩, fun p hp => ?_⟩
  · obtain ⟨a, b⟩ := hr
    refine ⟨a, ?_⟩
    rcases b with b | ⟨gr, cap, cur, b1, b2, b3, b4⟩
    · exact .inl b
    · exact .inr ⟨gr, cap, cur, b1, b2, by rw [heap_setCell_other _ _ _ _ (ne_of_types b3 hv (by decide))]; exact b3, b4⟩
  · obtain ⟨a, b, c⟩ := h.2.2 p hp
    exact ⟨by rw [heap_setCell_other _ _ _ _ b]; exact a, b, c⟩
end Go.Proofs.Ytjjcgjpmhhkeaaa.Wf
