/- A frame that a law holds in memory. (cut to what is reached: wip/tools/slimout2.py) -/
import Derived.Test.YtbgnkjaikbhdoaaFGFrAw
namespace Go.Proofs.Ytbgnkjaikbhdoaa.FrAt
set_option linter.unusedSimpArgs false
set_option linter.unusedVariables false
open Go.RowKit Go.Proofs.Ytbgnkjaikbhdoaa.FrA Go.Proofs.Ytbgnkjaikbhdoaa.FrE Go.Proofs.Ytbgnkjaikbhdoaa.FrC Go.Proofs.Ytbgnkjaikbhdoaa.FrT
open Go.Proofs.Ytbgnkjaikbhdoaa.Bytes (Str)
abbrev At (w w1 : World) (b : Nat) (cs : Array Value) : Prop := w1.heap[b]? = some (.cells cs TF (0, 0)) ∧ Below w.heap.size w w1
theorem At.later {w w1 w2 : World} {b : Nat} {cs : Array Value} (h : At w w1 b cs) (hb : Below w1.heap.size w1 w2) : At w w2 b cs := by
  have hlt : b < w1.heap.size := (Array.getElem?_eq_some_iff.1 h.1).1
  exact ⟨by rw [hb.block _ hlt]; exact h.1, h.2.trans (hb.mono h.2.size)⟩
theorem At.lt {w w1 : World} {b : Nat} {cs : Array Value} (h : At w w1 b cs) : b < w1.heap.size := (Array.getElem?_eq_some_iff.1 h.1).1
theorem At.set {w w1 : World} {b : Nat} {cs : Array Value} (h : At w w1 b cs) (hb : w.heap.size ≤ b) (i : Nat) (v : Value) (ds : Array Value) (hd : cs.setIfInBounds i v = ds) : At w (w1.setCell ⟨b, i, none⟩ v) b ds := by
  subst hd
  refine ⟨heap_setCell_same _ _ _ _ _ _ h.1, ?_⟩
  rw [setCell_eq_setRow _ _ _ _ _ _ _ h.1]; exact below_setRow h.2 hb _
theorem At.drew {w w1 : World} {b : Nat} {cs : Array Value} (h : At w w1 b cs) : At w w1.drew b cs := ⟨h.1, Go.Proofs.Ytbgnkjaikbhdoaa.WrPut.below_drew' h.2⟩
theorem eq_self (x0 x1 x2 x3 x4 x5 x6 x7 x8 x9 x10 : Int) (x11 : ByteArray) : eqF x0 x0 x1 x1 x2 x2 x3 x3 x4 x4 x5 x5 x6 x6 x7 x7 x8 x8 x9 x9 x10 x10 x11 x11 = true := by simp [eqF]
end Go.Proofs.Ytbgnkjaikbhdoaa.FrAt
