/- A set of numbers, kept as a map from int to bool that the call has made. -/
import Derived.Test.YtkhkmmabbpfngaaProg
import Derived.WalkKit
import Derived.KernelRfl
import Derived.Maps.OwnOps
import Derived.Maps.OwnSet
import Derived.Maps.Views
import Derived.Maps.Keyed
import Derived.Below
namespace Go.Proofs.Ytkhkmmabbpfngaa.Set
open Go.RowKit Go.Maps

/-- BLOCK b HOLDS THE SET ks: true at these keys, nothing else. -/
def BSet (w : World) (b : Nat) (ks : List Nat) : Prop :=
  ∃ D : DataW Unit, w.ownsMap Try.prog 3 (plainElem Try.prog 4) b ks.length D ∧ Maps.size D = ks.length ∧ (∀ j : Nat, D.atKey (.int .i64 (j : Int)) (.lit (.bool false)) = .lit (.bool (ks.contains j))) ∧ ∀ j : Nat, Maps.has D (.int .i64 (j : Int)) = ks.contains j

theorem zeroBool (w : World) : (zeroValue 4).run Try.prog w = .ok (.bool false) w := by kernel_rfl
theorem plainElem_bool_inv {v : Value} {z : DataW Unit × List MemPlace} (h : plainElem Try.prog 4 v = some z) : ∃ a, v = .bool a ∧ z = (.lit (.bool a), []) := by
  unfold plainElem at h
  rw [Try.underlying4] at h
  cases v <;> simp_all
theorem key_of (j : Nat) (hj : j < 1000000) : keyOf Try.prog 3 (.int .i64 (j : Int)) = some (.int .i64 (j : Int)) :=
  keyOf_int_mk Try.underlying3 (by simp [Lit.wf, IntKind.min, IntKind.max, IntKind.bits, IntKind.signed]; omega)
theorem isKey (j : Nat) : WideAt.IsKeyLit (.int .i64 (j : Int)) := by
  unfold WideAt.IsKeyLit; trivial
theorem BSet.made (w : World) : BSet (w.alloc (.map #[] 0)) w.heap.size [] :=
  ⟨.map [], World.ownsMap_made w _ _ _, rfl, fun _ => rfl, fun _ => rfl⟩
theorem BSet.kept {w w' : World} {b : Nat} {ks : List Nat} (h : BSet w b ks) {row : Option Nat} (hg : w.grownBy w' row) (hne : some b ≠ row) : BSet w' b ks := by
  obtain ⟨D, h1, h2, h3, h4⟩ := h
  exact ⟨D, h1.kept hg hne, h2, h3, h4⟩
theorem BSet.lt {w : World} {b : Nat} {ks : List Nat} (h : BSet w b ks) : b < w.heap.size := by
  obtain ⟨D, h1, _⟩ := h; exact h1.lt
theorem BSet.below {w w' : World} {b : Nat} {ks : List Nat} (h : BSet w b ks) (hb : Below w.heap.size w w') : BSet w' b ks :=
  h.kept (row := none) ⟨hb.os, hb.tape, hb.output, hb.size, fun i hi _ => hb.block i hi⟩ (by simp)
theorem BSet.look {w : World} {b : Nat} {ks : List Nat} (h : BSet w b ks) (j : Nat) (hj : j < 1000000) :
    (Instr.lookup 50 (.map (some b)) (.int .i64 (j : Int)) false).run Try.prog w = .ok (.bool (ks.contains j)) w := by
  obtain ⟨D, h1, _, h3, _⟩ := h
  obtain ⟨v, ps, hrun, hv⟩ := h1.lookup (int_keyed Try.underlying3) Try.underlying50 (zeroBool w) (plainElem_bool Try.underlying4 false) (key_of j hj)
  obtain ⟨a, rfl, ha⟩ := plainElem_bool_inv hv
  rw [h3 j] at ha
  simp only [Prod.mk.injEq, DataW.lit.injEq, Lit.bool.injEq] at ha
  rw [hrun, ha.1]
theorem BSet.add {w : World} {b : Nat} {ks : List Nat} (h : BSet w b ks) (j : Nat) (hj : j < 1000000) (hk : ks.contains j = false) (hl : ks.length < 1000000) :
    ∃ w', (Instr.mapUpdate 50 (.map (some b)) (.int .i64 (j : Int)) (.bool true)).run Try.prog w = .ok () w' ∧ BSet w' b (ks ++ [j]) ∧ w.grownBy w' (some b) := by
  obtain ⟨D, h1, h2, h3, h4⟩ := h
  obtain ⟨w', hrun, r1, r2⟩ := h1.update (int_keyed Try.underlying3) Try.underlying50 (by unfold maxLen; omega) (key_of j hj) (plainElem_bool Try.underlying4 true)
  have hT := h1.tidy (int_keyed Try.underlying3)
  refine ⟨w', hrun, ⟨D.put (.int .i64 (j : Int)) (.lit (.bool true)), ?_, ?_, ?_, ?_⟩, r2⟩
  · simpa using r1
  · rw [Maps.size_put hT, h4 j, hk, h2]; simp
  · intro i
    by_cases e : i = j
    · subst e; rw [Maps.atKey_put_same hT.isMap (isKey i)]; simp
    · rw [Maps.atKey_put_other (by intro h; injection h with _ h; exact e (by omega)), h3 i]
      simp [e]
  · intro i
    by_cases e : i = j
    · subst e; rw [Maps.has_put_same hT.isMap (isKey i)]; simp
    · rw [Maps.has_put_other (by intro h; injection h with _ h; exact e (by omega)), h4 i]
      simp [e]
theorem BSet.len {w : World} {b : Nat} {ks : List Nat} (h : BSet w b ks) (ty : TypeId) : (Builtin.len_ #[50] ty #[.map (some b)]).run Try.prog w = .ok (.int .i64 (ks.length : Int)) w := by
  obtain ⟨D, h1, h2, _⟩ := h
  rw [h1.len Try.underlying50 ty, h2]
end Go.Proofs.Ytkhkmmabbpfngaa.Set
