/- cellmsg.follows: the table of the kinds, and its functions. (cut to what is reached: wip/tools/slimout2.py) -/
import Derived.Test.YtjjcgjpmhhkeaaaProg
import Derived.Below
import Derived.Tactics
import Derived.WalkKit
import Derived.KernelRfl
import Derived.RowKit3
import Derived.Laws.Rows
import Derived.Laws.Tables
import Derived.OneCell
import Derived.OwnWalk
import Derived.Lib.Hide
import Derived.Deep.Draws
import Derived.Deep.RegionWith
import Derived.Maps.OwnOps
import Derived.Maps.OwnSet
import Derived.Maps.Views
import Derived.Maps.Keyed
namespace Go.Proofs.Ytjjcgjpmhhkeaaa.CmF
set_option linter.unusedSimpArgs false
set_option linter.unusedVariables false
open Go.Maps (keyOf_int_mk)
open Go.RowKit
abbrev TMs : TypeId := 24
abbrev ms (k : Int) (r : Bool) (n cd ct : Int) (A : Option Addr) (s c : Nat) (A' : Option Addr) (o c' : Nat) : Array Value := #[.int .i64 k, .bool r, .int .i64 n, .int .i64 cd, .int .i64 ct, .slice A s c, .slice A' o c']
def held (v : Value) : Option (DataW Value × List MemPlace) := some (.held v, [])
theorem held_inv {u v : Value} {ps : List MemPlace} (h : held u = some (.held v, ps)) : u = v := by
  simp only [held, Option.some.injEq, Prod.mk.injEq, DataW.held.injEq] at h; exact h.1
abbrev Fv (k : Nat) : Value := .func (.func k) #[] #[]
abbrev Row (k l : Nat) : Value := .agg #[Fv k, Fv l]
theorem key_of (j : Int) (h0 : -1000000 ≤ j) (h1 : j ≤ 1000000) : keyOf Try.prog 3 (.int .i64 j) = some (.int .i64 j) :=
  keyOf_int_mk Try.underlying3 (by simp [Lit.wf, IntKind.min, IntKind.max, IntKind.bits, IntKind.signed]; omega)
theorem isKey (j : Int) : WideAt.IsKeyLit (.int .i64 j) := by unfold WideAt.IsKeyLit; trivial
abbrev TM : TypeId := 65
def reqFn (k : Int) : Nat := if k = 1 then 73 else if k = 2 then 72 else if k = 3 then 75 else if k = 4 then 71 else if k = 5 then 71 else 71
def repFn (k : Int) : Nat := if k = 1 then 74 else if k = 2 then 72 else if k = 3 then 76 else if k = 4 then 77 else if k = 5 then 78 else 71
def Table (b : Nat) (o : Obj) : Prop := ∀ W : World, W.heap[b]? = some o → ∀ k : Int, 1 ≤ k → k ≤ 6 → (Instr.lookup TM (.map (some b)) (.int .i64 k) false).run Try.prog W = .ok (Row (reqFn k) (repFn k)) W
theorem table (w : World) : ∃ w1 w2 w3 w4 w5 w6 o,
    (Instr.mapUpdate TM (.map (some w.heap.size)) (.int .i64 1) (Row 73 74)).run Try.prog (w.alloc (.map #[] 0)) = .ok () w1 ∧
    (Instr.mapUpdate TM (.map (some w.heap.size)) (.int .i64 2) (Row 72 72)).run Try.prog w1 = .ok () w2 ∧
    (Instr.mapUpdate TM (.map (some w.heap.size)) (.int .i64 3) (Row 75 76)).run Try.prog w2 = .ok () w3 ∧
    (Instr.mapUpdate TM (.map (some w.heap.size)) (.int .i64 4) (Row 71 77)).run Try.prog w3 = .ok () w4 ∧
    (Instr.mapUpdate TM (.map (some w.heap.size)) (.int .i64 5) (Row 71 78)).run Try.prog w4 = .ok () w5 ∧
    (Instr.mapUpdate TM (.map (some w.heap.size)) (.int .i64 6) (Row 71 71)).run Try.prog w5 = .ok () w6 ∧
    Below w.heap.size w w6 ∧ w.heap.size < w6.heap.size ∧ w6.heap[w.heap.size]? = some o ∧ Table w.heap.size o := by
  have K := Maps.int_keyed (P := Try.prog) Try.underlying3
  have ht := Try.underlying65
  have h0 := World.ownsMap_made (H := Value) w Try.prog 3 held
  obtain ⟨w1, r1, h1, g1⟩ := h0.update K ht (by decide) (key_of 1 (by omega) (by omega)) (show held (Row 73 74) = _ from rfl)
  obtain ⟨w2, r2, h2, g2⟩ := h1.update K ht (by decide) (key_of 2 (by omega) (by omega)) (show held (Row 72 72) = _ from rfl)
  obtain ⟨w3, r3, h3, g3⟩ := h2.update K ht (by decide) (key_of 3 (by omega) (by omega)) (show held (Row 75 76) = _ from rfl)
  obtain ⟨w4, r4, h4, g4⟩ := h3.update K ht (by decide) (key_of 4 (by omega) (by omega)) (show held (Row 71 77) = _ from rfl)
  obtain ⟨w5, r5, h5, g5⟩ := h4.update K ht (by decide) (key_of 5 (by omega) (by omega)) (show held (Row 71 78) = _ from rfl)
  obtain ⟨w6, r6, h6, g6⟩ := h5.update K ht (by decide) (key_of 6 (by omega) (by omega)) (show held (Row 71 71) = _ from rfl)
  have hI0 : Maps.IsMap (DataW.map (H := Value) []) := Maps.isMap_empty
  have hI1 := hI0.put (.int .i64 1) (.held (Row 73 74))
  have hI2 := hI1.put (.int .i64 2) (.held (Row 72 72))
  have hI3 := hI2.put (.int .i64 3) (.held (Row 75 76))
  have hI4 := hI3.put (.int .i64 4) (.held (Row 71 77))
  have hI5 := hI4.put (.int .i64 5) (.held (Row 71 78))
  have ne : ∀ {a b : Int}, a ≠ b → (Lit.int .i64 a) ≠ (Lit.int .i64 b) := by intro a b h e; injection e with _ e; exact h e
  obtain ⟨es, clock, hb, hrest⟩ := h6
  refine ⟨w1, w2, w3, w4, w5, w6, .map es clock, r1, r2, r3, r4, r5, r6, ?_, ?_, hb, ?_⟩
  · have b0 : Below w.heap.size w (w.alloc (.map #[] 0)) := (Below.refl _ _).alloc (Nat.le_refl _) _
    have st : ∀ {a b : World}, Below w.heap.size w a → a.grownBy b (some w.heap.size) → Below w.heap.size w b := fun {a b} h hg =>
      ⟨hg.os.trans h.os, hg.tape.trans h.tape, hg.output.trans h.output, Nat.le_trans h.size hg.size, fun i hi => (hg.block i (Nat.lt_of_lt_of_le hi h.size) (by intro e; injection e with e; omega)).trans (h.block i hi)⟩
    exact st (st (st (st (st (st b0 g1) g2) g3) g4) g5) g6
  · exact (Array.getElem?_eq_some_iff.1 hb).1
  · intro W hW k k0 k1
    have hO : W.ownsMap Try.prog 3 held w.heap.size 6 _ := ⟨es, clock, hW, hrest⟩
    have look : ∀ j : Int, -1000000 ≤ j → j ≤ 1000000 → _ := fun j a b => hO.lookup K ht (Try.zeroValue64 W) (zd := .held _) (zp := []) rfl (key_of j a b)
    have hk : k = 1 ∨ k = 2 ∨ k = 3 ∨ k = 4 ∨ k = 5 ∨ k = 6 := by omega
    rcases hk with rfl | rfl | rfl | rfl | rfl | rfl
    · obtain ⟨v, ps, hr, hv⟩ := look 1 (by omega) (by omega)
      rw [Maps.atKey_put_other (ne (by omega)), Maps.atKey_put_other (ne (by omega)), Maps.atKey_put_other (ne (by omega)), Maps.atKey_put_other (ne (by omega)), Maps.atKey_put_other (ne (by omega)), Maps.atKey_put_same hI0 (isKey 1)] at hv
      rw [hr, held_inv hv]; rfl
    · obtain ⟨v, ps, hr, hv⟩ := look 2 (by omega) (by omega)
      rw [Maps.atKey_put_other (ne (by omega)), Maps.atKey_put_other (ne (by omega)), Maps.atKey_put_other (ne (by omega)), Maps.atKey_put_other (ne (by omega)), Maps.atKey_put_same hI1 (isKey 2)] at hv
      rw [hr, held_inv hv]; rfl
    · obtain ⟨v, ps, hr, hv⟩ := look 3 (by omega) (by omega)
      rw [Maps.atKey_put_other (ne (by omega)), Maps.atKey_put_other (ne (by omega)), Maps.atKey_put_other (ne (by omega)), Maps.atKey_put_same hI2 (isKey 3)] at hv
      rw [hr, held_inv hv]; rfl
    · obtain ⟨v, ps, hr, hv⟩ := look 4 (by omega) (by omega)
      rw [Maps.atKey_put_other (ne (by omega)), Maps.atKey_put_other (ne (by omega)), Maps.atKey_put_same hI3 (isKey 4)] at hv
      rw [hr, held_inv hv]; rfl
    · obtain ⟨v, ps, hr, hv⟩ := look 5 (by omega) (by omega)
      rw [Maps.atKey_put_other (ne (by omega)), Maps.atKey_put_same hI4 (isKey 5)] at hv
      rw [hr, held_inv hv]; rfl
    · obtain ⟨v, ps, hr, hv⟩ := look 6 (by omega) (by omega)
      rw [Maps.atKey_put_same hI5 (isKey 6)] at hv
      rw [hr, held_inv hv]; rfl
end Go.Proofs.Ytjjcgjpmhhkeaaa.CmF
