/- Reading a value that came in, cell by cell: structs, arrays, slices. (cut to what is reached: wip/tools/slimout2.py) -/
import Derived.Test.YtjjcgjpmhhkeaaaRows
import Derived.WalkKit
import Derived.ProofKit
import Derived.OpenShut
import Derived.ShutString
import Derived.ChangeOld
import Derived.Below
namespace Go.Proofs.Ytjjcgjpmhhkeaaa.Opn
open Go.ChangeShapes Go.WideShapes Go.ChangeAt Go.RowKit
variable {H : Type} {enc : TypeId × Value → H} {P : Program} {w : World}
def Rd (enc : TypeId × Value → H) (P : Program) (w : World) (t : TypeId) (cs : List Value) : Prop :=
  ∃ n x, DataW.trod enc P w 0 (fun _ => true) true n t cs = some x
theorem rd_of {t : TypeId} {v : Value} {d : DataW H} {ps : List MemPlace} (h : DataW.Trod enc P w 0 (fun _ => true) true t v d ps) : Rd enc P w t v.cells.toList := by
  obtain ⟨n, h⟩ := h; exact ⟨n, _, h⟩
theorem rd_int {t : TypeId} {k : IntKind} {cs : Value} (ht : P.underlying t = some (.int k)) (h : Rd enc P w t [cs]) : ∃ n, cs = .int k n ∧ (Lit.int k n).wf = true := by
  obtain ⟨m, x, h⟩ := h
  obtain ⟨n, h1, _, h2⟩ := DataW.trod_int ht h
  exact ⟨n, by simpa using h1, h2⟩
theorem rd_bool {t : TypeId} {cs : Value} (ht : P.underlying t = some .bool) (h : Rd enc P w t [cs]) : ∃ n, cs = .bool n := by
  obtain ⟨m, x, h⟩ := h
  cases m with
  | zero => simp [DataW.trod] at h
  | succ m =>
    unfold DataW.trod at h
    rw [ht] at h
    split at h <;> simp_all
theorem rd_struct {t : TypeId} {fs : Array Field} {cs : Array Value} (ht : P.underlying t = some (.struct fs)) (h : Rd enc P w t (Value.agg cs).cells.toList) :
    ∀ (i : Nat) (f : Field), fs[i]? = some f → Rd enc P w f.type ((cs.toList.drop f.offset).take (P.cellsOf f.type)) := by
  obtain ⟨m, x, h⟩ := h
  obtain ⟨xs, n, _, _, _, hl, hf⟩ := DataW.trod_struct ht h
  intro i f hi
  have := hf i f hi
  have hlt : i < xs.length := by rw [hl]; exact (Array.getElem?_eq_some_iff.1 hi).1
  rw [List.getElem?_eq_getElem hlt] at this
  exact ⟨n, _, this⟩
theorem cells7 {cs : Array Value} (h : cs.size = 7) : ∃ a b c d e f g, cs = #[a, b, c, d, e, f, g] := by
  obtain ⟨l⟩ := cs
  match l, h with
  | [a, b, c, d, e, f, g], _ => exact ⟨a, b, c, d, e, f, g, rfl⟩
end Go.Proofs.Ytjjcgjpmhhkeaaa.Opn
namespace Go.Proofs.Ytjjcgjpmhhkeaaa.Opn
open Go.ChangeShapes Go.WideShapes Go.ChangeAt Go.RowKit
end Go.Proofs.Ytjjcgjpmhhkeaaa.Opn
