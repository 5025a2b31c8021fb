/- Reading a value that came in, cell by cell: structs, arrays, slices. -/
import Derived.Test.YtjjcgjpmhhkeaaaRows
import Derived.WalkKit
import Derived.ProofKit
import Derived.OpenShut
import Derived.ShutString
import Derived.ChangeOld
import Derived.Below
namespace Go.Proofs.Ytjjcgjpmhhkeaaa.Opn
open Go.ChangeShapes Go.WideShapes Go.ChangeAt Go.RowKit
variable {H : Type} {enc : TypeId × Value → H} {P : Program} {w : World}

/-- Cells that read as some datum. -/
def Rd (enc : TypeId × Value → H) (P : Program) (w : World) (t : TypeId) (cs : List Value) : Prop :=
  ∃ n x, DataW.trod enc P w 0 (fun _ => true) true n t cs = some x
theorem rd_of {t : TypeId} {v : Value} {d : DataW H} {ps : List MemPlace} (h : DataW.Trod enc P w 0 (fun _ => true) true t v d ps) : Rd enc P w t v.cells.toList := by
  obtain ⟨n, h⟩ := h; exact ⟨n, _, h⟩
theorem rd_int {t : TypeId} {k : IntKind} {cs : Value} (ht : P.underlying t = some (.int k)) (h : Rd enc P w t [cs]) : ∃ n, cs = .int k n ∧ (Lit.int k n).wf = true := by
  obtain ⟨m, x, h⟩ := h
  obtain ⟨n, h1, _, h2⟩ := DataW.trod_int ht h
  exact ⟨n, by simpa using h1, h2⟩
theorem rd_bool {t : TypeId} {cs : Value} (ht : P.underlying t = some .bool) (h : Rd enc P w t [cs]) : ∃ n, cs = .bool n := by
  obtain ⟨m, x, h⟩ := h
  cases m with
  | zero => simp [DataW.trod] at h
  | succ m =>
    unfold DataW.trod at h
    rw [ht] at h
    split at h <;> simp_all
theorem rd_string {t : TypeId} {cs : Value} (ht : P.underlying t = some .string) (h : Rd enc P w t [cs]) : ∃ s, cs = .string s ∧ s.size ≤ maxLen := by
  obtain ⟨m, x, h⟩ := h
  obtain ⟨n, h1, _, h2⟩ := DataW.trod_string ht h
  exact ⟨n, by simpa using h1, h2⟩
theorem rd_struct {t : TypeId} {fs : Array Field} {cs : Array Value} (ht : P.underlying t = some (.struct fs)) (h : Rd enc P w t (Value.agg cs).cells.toList) :
    ∀ (i : Nat) (f : Field), fs[i]? = some f → Rd enc P w f.type ((cs.toList.drop f.offset).take (P.cellsOf f.type)) := by
  obtain ⟨m, x, h⟩ := h
  obtain ⟨xs, n, _, _, _, hl, hf⟩ := DataW.trod_struct ht h
  intro i f hi
  have := hf i f hi
  have hlt : i < xs.length := by rw [hl]; exact (Array.getElem?_eq_some_iff.1 hi).1
  rw [List.getElem?_eq_getElem hlt] at this
  exact ⟨n, _, this⟩
theorem rd_array {t e : TypeId} {n : Nat} {cs : Array Value} (ht : P.underlying t = some (.array n e)) (h : Rd enc P w t (Value.agg cs).cells.toList) :
    ∀ (i : Nat), i < n → Rd enc P w e ((cs.toList.drop (i * P.cellsOf e)).take (P.cellsOf e)) := by
  obtain ⟨m, x, h⟩ := h
  obtain ⟨xs, m, _, _, _, hl, hf⟩ := DataW.trod_array ht h
  intro i hi
  have := hf i hi
  rw [List.getElem?_eq_getElem (by omega)] at this
  exact ⟨m, _, this⟩
theorem okWide_array' {r : Reach} {base : Nat} {t e : TypeId} {n : Nat} {v : Value} (ht : P.underlying t = some (.array n e)) (h : Value.okWide P w r base t v) : ∃ cs, v = .agg cs ∧ cs.size = P.cellsOf t := by
  simp only [Value.okWide, ht] at h
  obtain ⟨cs, h1, h2, _⟩ := h
  exact ⟨cs, h1, h2⟩
theorem cells2 {cs : Array Value} (h : cs.size = 2) : ∃ a b, cs = #[a, b] := by
  obtain ⟨l⟩ := cs
  match l, h with
  | [a, b], _ => exact ⟨a, b, rfl⟩
theorem cells3 {cs : Array Value} (h : cs.size = 3) : ∃ a b c, cs = #[a, b, c] := by
  obtain ⟨l⟩ := cs
  match l, h with
  | [a, b, c], _ => exact ⟨a, b, c, rfl⟩
theorem cells7 {cs : Array Value} (h : cs.size = 7) : ∃ a b c d e f g, cs = #[a, b, c, d, e, f, g] := by
  obtain ⟨l⟩ := cs
  match l, h with
  | [a, b, c, d, e, f, g], _ => exact ⟨a, b, c, d, e, f, g, rfl⟩
theorem cells12 {cs : Array Value} (h : cs.size = 12) : ∃ a b c d e f g h i j k l, cs = #[a, b, c, d, e, f, g, h, i, j, k, l] := by
  obtain ⟨l⟩ := cs
  match l, h with
  | [a, b, c, d, e, f, g, h, i, j, k, l], _ => exact ⟨a, b, c, d, e, f, g, h, i, j, k, l, rfl⟩
end Go.Proofs.Ytjjcgjpmhhkeaaa.Opn
namespace Go.Proofs.Ytjjcgjpmhhkeaaa.Opn
open Go.ChangeShapes Go.WideShapes Go.ChangeAt Go.RowKit
/-- What the walk is told of a slice of integers that came in. -/
def IsRow (k : IntKind) (w : World) (a : Option Addr) (len cap : Nat) (zs : List Int) : Prop :=
  (a = none ∧ len = 0 ∧ cap = 0 ∧ zs = []) ∨
  ∃ x, a = some x ∧ len ≤ cap ∧ cap ≤ maxLen ∧ zs.length = cap ∧ (∀ i, i < zs.length → w.cell? (x.add i) = some (.int k (zs.getD i 0))) ∧ ∀ n ∈ zs, (Lit.int k n).wf = true
end Go.Proofs.Ytjjcgjpmhhkeaaa.Opn
