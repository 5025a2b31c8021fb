/- bitio.Reader in memory, and what its methods do to it. (cut to what is reached: wip/tools/slimout2.py) -/
import Derived.Test.YtjjcgjpmhhkeaaaSFWrAll
import Derived.Deep.QuietTactic
import Derived.BigQuiet
namespace Go.Proofs.Ytjjcgjpmhhkeaaa.Rd
set_option linter.unusedSimpArgs false
set_option linter.unusedVariables false
open Go.RowKit Go.Proofs.Ytjjcgjpmhhkeaaa.Pack Go.Proofs.Ytjjcgjpmhhkeaaa.WrPut
open Go.Proofs.Ytjjcgjpmhhkeaaa.Bytes (Str)
def bitsAt (l : List UInt8) (i k : Nat) : List Bool := (List.range k).map fun j => bitAt l (i + j)
theorem bitsAt_succ (l : List UInt8) (i k : Nat) : bitsAt l i (k + 1) = bitsAt l i k ++ [bitAt l (i + k)] := by
  simp [bitsAt, List.range_succ]
abbrev TR : TypeId := 79
abbrev TRc (l : List UInt8) (i : Nat) (e : Int) : Array Value := #[.string (Str l), .int .i64 (i : Int), .int .i64 e]
def Rd (B : Nat) (G : List (Nat × Obj)) (w : World) (g : Nat) (l : List UInt8) (i : Nat) (e : Int) : Prop :=
  B ≤ g ∧ w.heap[g]? = some (.cells (TRc l i e) TR (0, 0)) ∧ ∀ p ∈ G, w.heap[p.1]? = some p.2 ∧ p.1 ≠ g
variable {B g i : Nat} {G : List (Nat × Obj)} {w : World} {l : List UInt8} {e : Int}
theorem Rd.cells (h : Rd B G w g l i e) : w.cell? ⟨g, 0, none⟩ = some (.string (Str l)) ∧ w.cell? ⟨g, 1, none⟩ = some (.int .i64 (i : Int)) ∧ w.cell? ⟨g, 2, none⟩ = some (.int .i64 e) ∧ ∀ j, w.frozen? ⟨g, j, none⟩ = false := by
  refine ⟨?_, ?_, ?_, fun j => frozen_of_row _ _ _ _ _ h.2.1⟩
  · rw [cell_of_row _ _ _ _ _ _ h.2.1]; rfl
  · rw [cell_of_row _ _ _ _ _ _ h.2.1]; rfl
  · rw [cell_of_row _ _ _ _ _ _ h.2.1]; rfl
theorem Rd.put (h : Rd B G w g l i e) {j : Nat} {x : Value} {i' : Nat} {e' : Int} (he : (TRc l i e).setIfInBounds j x = TRc l i' e') :
    Rd B G (w.setCell ⟨g, j, none⟩ x) g l i' e' := by
  refine ⟨h.1, by rw [heap_setCell_same _ _ _ _ _ _ h.2.1, he], fun p hp => ?_⟩
  obtain ⟨a, b⟩ := h.2.2 p hp
  exact ⟨by rw [heap_setCell_other _ _ _ _ b]; exact a, b⟩
theorem Rd.step (h : Rd B G w g l i e) : Rd B G (w.setCell ⟨g, 1, none⟩ (.int .i64 ((i : Int) + 1))) g l (i + 1) e := h.put rfl
end Go.Proofs.Ytjjcgjpmhhkeaaa.Rd
