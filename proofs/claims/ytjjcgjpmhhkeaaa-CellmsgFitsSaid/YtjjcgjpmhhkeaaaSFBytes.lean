/- Rows of bytes that a conversion has made: what is read there, what a store does. (cut to what is reached: wip/tools/slimout2.py) -/
import Derived.Test.YtjjcgjpmhhkeaaaProg
import Derived.Below
import Derived.Tactics
import Derived.WalkKit
import Derived.KernelRfl
import Derived.RowKit3
import Derived.Lib.ConvBytes
import Derived.Lib.Strings
import Derived.Laws.BytesArg
import Derived.Laws.Rows
import Derived.Lib.SmallJoins
namespace Go.Proofs.Ytjjcgjpmhhkeaaa.Bytes
set_option linter.unusedSimpArgs false
set_option linter.unusedVariables false
open Go.RowKit
abbrev Str (l : List UInt8) : ByteArray := ⟨l.toArray⟩
def B (c : UInt8) : Value := .int .u8 (c.toNat : Int)
def ByteRow (w : World) (g : Nat) (l : List UInt8) : Prop :=
  ∀ j, j < l.length → w.cell? ⟨g, j, none⟩ = some (.int .u8 ((l.getD j 0).toNat : Int)) ∧ w.frozen? ⟨g, j, none⟩ = false
theorem ByteRow.conv (w : World) (e : TypeId) (l : List UInt8) : ByteRow (Lib.bytesWorld w e (Str l)) w.heap.size l := by
  intro j hj
  have hs : (Str l).size = l.length := by show l.toArray.size = _; simp
  refine ⟨by rw [Lib.bytesWorld_cell w e _ j (by omega)], ?_⟩
  have h := Lib.bytesWorld_at_new w e (Str l)
  have hc : (Lib.bytesCells w e (Str l)).size = l.length + (grownCap w (Str l).size 0 e - (Str l).size) := by
    simp [Lib.bytesCells]
  simp only [World.frozen?, h]
  simp
  omega
theorem ByteRow.below {w w1 : World} {g : Nat} {l : List UInt8} (h : ByteRow w g l) (hb : Below w.heap.size w w1) (hg : g < w.heap.size) : ByteRow w1 g l := by
  intro j hj
  obtain ⟨h1, h2⟩ := h j hj
  exact ⟨by rw [hb.cell (p := ⟨g, j, none⟩) hg]; exact h1, by rw [hb.frozen (p := ⟨g, j, none⟩) hg]; exact h2⟩
theorem ByteRow.drewN {w : World} {g : Nat} {l : List UInt8} (h : ByteRow w g l) (n : Nat) : ByteRow (w.drewN n) g l := h
theorem ByteRow.drew {w : World} {g : Nat} {l : List UInt8} (h : ByteRow w g l) : ByteRow w.drew g l := h
theorem nums_back (l : List UInt8) : strOfNums (l.map fun c => (c.toNat : Int)) = Str l := by
  unfold strOfNums
  congr 1
  rw [List.map_map]
  have : List.map ((fun n : Int => UInt8.ofNat n.toNat) ∘ fun c : UInt8 => (c.toNat : Int)) l = l := by
    conv => rhs; rw [← List.map_id l]
    apply List.map_congr_left
    intro c _
    simp
  rw [this]
theorem ByteRow.text {P : Program} {w : World} {g : Nat} {l : List UInt8} (h : ByteRow w g l) (cap : Nat) (src e dst : TypeId) (hs : P.underlying src = some (.slice e)) (he : P.underlying e = some (.int .u8)) (hd : P.underlying dst = some .string) :
    (convert src dst (.slice (some ⟨g, 0, none⟩) l.length cap)).run P w = .ok (.string (Str l)) w := by
  have := run_convert_bytes_arg w src e hs he g 0 l.length cap (l.map fun c => (c.toNat : Int)) (by simp) (fun i hi => by
    rw [Nat.zero_add, (h i hi).1]; congr 2
    simp [List.getD, List.getElem?_map, List.getElem?_eq_getElem hi]) dst hd
  rw [this]
  congr 2
  unfold strOfNums
  congr 1
  rw [List.map_map]
  have : List.map ((fun n : Int => UInt8.ofNat n.toNat) ∘ fun c : UInt8 => (c.toNat : Int)) l = l := by
    conv => rhs; rw [← List.map_id l]
    apply List.map_congr_left
    intro c _
    simp
  rw [this]
end Go.Proofs.Ytjjcgjpmhhkeaaa.Bytes
