/- A writer of bits in memory: what its blocks hold, and what each step does to them. (cut to what is reached: wip/tools/slimout2.py) -/
import Derived.Test.YtjjcgjpmhhkeaaaProg
import Derived.Test.YtjjcgjpmhhkeaaaSFPack
import Derived.Below
import Derived.Tactics
import Derived.WalkKit
import Derived.KernelRfl
import Derived.RowKit3
import Derived.Laws.AppendOwn
import Derived.Laws.Rows
import Derived.Laws.Tables
import Derived.OneCell
import Derived.OwnWalk
import Derived.Lib.Hide
import Derived.Deep.Draws
namespace Go.Proofs.Ytjjcgjpmhhkeaaa.Wr
open Go.RowKit Go.Proofs.Ytjjcgjpmhhkeaaa.Pack
abbrev TW : TypeId := 68
abbrev B8 (c : UInt8) : Value := .int .u8 (c.toNat : Int)
def T8 (o : Obj) : Prop := ∃ cur, o = .cells cur 5 (0, 0)
def WrL (B : Nat) (G : List (Nat × Obj)) (w : World) (g : Nat) (l : List UInt8) (n : Nat) (err : Int) : Prop :=
  B ≤ g ∧ (∃ v, w.heap[g]? = some (.cells #[v, .int .i64 (n : Int), .int .i64 err] TW (0, 0)) ∧ w.ownsRow B 5 1 v l.length (l.map B8)) ∧
  ∀ p ∈ G, w.heap[p.1]? = some p.2 ∧ p.1 ≠ g ∧ ¬ T8 p.2
def Wr (B : Nat) (G : List (Nat × Obj)) (w : World) (g : Nat) (bs : List Bool) (err : Int) : Prop := WrL B G w g (pack bs) bs.length err
variable {B g n : Nat} {G : List (Nat × Obj)} {w : World} {l : List UInt8} {err : Int} {bs : List Bool}
theorem WrL.lt (h : WrL B G w g l n err) : g < w.heap.size := by
  obtain ⟨_, ⟨v, hv, _⟩, _⟩ := h
  exact (Array.getElem?_eq_some_iff.1 hv).1
theorem WrL.guest (h : WrL B G w g l n err) {k : Nat} {o : Obj} (hk : (k, o) ∈ G) : w.heap[k]? = some o := (h.2.2 _ hk).1
theorem WrL.alloc (h : WrL B G w g l n err) (o : Obj) : WrL B G (w.alloc o) g l n err := by
  have hlt := h.lt
  obtain ⟨h1, ⟨v, hv, hr⟩, hG⟩ := h
  refine ⟨h1, ⟨v, by rw [heap_alloc_old _ _ hlt]; exact hv, hr.alloc o⟩, fun p hp => ?_⟩
  obtain ⟨a, b, c⟩ := hG p hp
  exact ⟨by rw [heap_alloc_old _ _ (Array.getElem?_eq_some_iff.1 a).1]; exact a, b, c⟩
theorem WrL.allocG (h : WrL B G w g l n err) (o : Obj) (ho : ¬ T8 o) : WrL B ((w.heap.size, o) :: G) (w.alloc o) g l n err := by
  have hlt := h.lt
  have h2 := h.alloc o
  refine ⟨h2.1, h2.2.1, fun p hp => ?_⟩
  rcases List.mem_cons.1 hp with rfl | hp
  · exact ⟨heap_alloc_new _ _, by simp only; omega, ho⟩
  · exact h2.2.2 p hp
theorem WrL.drop {p : Nat × Obj} (h : WrL B (p :: G) w g l n err) : WrL B G w g l n err := ⟨h.1, h.2.1, fun q hq => h.2.2 q (List.mem_cons_of_mem _ hq)⟩
theorem WrL.drew (h : WrL B G w g l n err) : WrL B G w.drew g l n err := h
theorem WrL.drewN (h : WrL B G w g l n err) (k : Nat) : WrL B G (w.drewN k) g l n err := h
theorem WrL.below {w' : World} (h : WrL B G w g l n err) (hb : Below w.heap.size w w') : WrL B G w' g l n err := by
  have hlt := h.lt
  obtain ⟨h1, ⟨v, hv, hr⟩, hG⟩ := h
  have hg : w.grownBy w' none := ⟨hb.os, hb.tape, hb.output, hb.size, fun i hi _ => hb.block i hi⟩
  refine ⟨h1, ⟨v, by rw [hb.block _ hlt]; exact hv, ?_⟩, fun p hp => ?_⟩
  · obtain ⟨a, b⟩ := hr
    refine ⟨a, ?_⟩
    rcases b with b | ⟨gr, cap, cur, b1, b2, b3, b4⟩
    · exact .inl b
    · exact .inr ⟨gr, cap, cur, b1, b2, by rw [hb.block _ (Array.getElem?_eq_some_iff.1 b3).1]; exact b3, b4⟩
  · obtain ⟨a, b, c⟩ := hG p hp
    exact ⟨by rw [hb.block _ (Array.getElem?_eq_some_iff.1 a).1]; exact a, b, c⟩
theorem WrL.cells (h : WrL B G w g l n err) : ∃ v, w.cell? ⟨g, 0, none⟩ = some v ∧ w.cell? ⟨g, 1, none⟩ = some (.int .i64 (n : Int)) ∧ w.cell? ⟨g, 2, none⟩ = some (.int .i64 err) ∧ (∀ j, w.frozen? ⟨g, j, none⟩ = false) ∧ w.ownsRow B 5 1 v l.length (l.map B8) ∧ w.heap[g]? = some (.cells #[v, .int .i64 (n : Int), .int .i64 err] TW (0, 0)) := by
  obtain ⟨_, ⟨v, hv, hr⟩, _⟩ := h
  refine ⟨v, ?_, ?_, ?_, ?_, hr, hv⟩
  · rw [cell_of_row _ _ _ _ _ _ hv]; rfl
  · rw [cell_of_row _ _ _ _ _ _ hv]; rfl
  · rw [cell_of_row _ _ _ _ _ _ hv]; rfl
  · intro j; exact frozen_of_row _ _ _ _ _ hv
theorem ne_of_types {w : World} {a b : Nat} {cs ds : Array Value} {t u : TypeId} {f : Nat × Nat} (ha : w.heap[a]? = some (.cells cs t f)) (hb : w.heap[b]? = some (.cells ds u f)) (h : t ≠ u) : a ≠ b := by
  rintro rfl
  rw [ha] at hb
  injection hb with hb
  injection hb with _ hb
  exact h hb
theorem WrL.put (h : WrL B G w g l n err) {i : Nat} {x : Value} {n' : Nat} {err' : Int} {v : Value} (hv : w.heap[g]? = some (.cells #[v, .int .i64 (n : Int), .int .i64 err] TW (0, 0)))
    (hr : w.ownsRow B 5 1 v l.length (l.map B8)) (he : (#[v, .int .i64 (n : Int), .int .i64 err] : Array Value).setIfInBounds i x = #[v, .int .i64 (n' : Int), .int .i64 err']) :
    WrL B G (w.setCell ⟨g, i, none⟩ x) g l n' err' := by
  refine ⟨h.1, ⟨v, by rw [heap_setCell_same _ _ _ _ _ _ hv, he], ?_⟩, fun p hp => ?_⟩
  · obtain ⟨a, b⟩ := hr
    refine ⟨a, ?_⟩
    rcases b with b | ⟨gr, cap, cur, b1, b2, b3, b4⟩
    · exact .inl b
    · exact .inr ⟨gr, cap, cur, b1, b2, by rw [heap_setCell_other _ _ _ _ (ne_of_types b3 hv (by decide))]; exact b3, b4⟩
  · obtain ⟨a, b, c⟩ := h.2.2 p hp
    exact ⟨by rw [heap_setCell_other _ _ _ _ b]; exact a, b, c⟩
theorem WrL.keepG {w' : World} {v : Value} (hv : w.heap[g]? = some (.cells #[v, .int .i64 (n : Int), .int .i64 err] TW (0, 0)))
    (hr : w.ownsRow B 5 1 v l.length (l.map B8)) (hg : w.grownBy w' v.ownBlock) : w'.heap[g]? = some (.cells #[v, .int .i64 (n : Int), .int .i64 err] TW (0, 0)) := by
  rw [hg.block g (Array.getElem?_eq_some_iff.1 hv).1 ?_]
  · exact hv
  · intro e
    rcases hr.2 with ⟨rfl, _⟩ | ⟨gr, cap, cur, rfl, _, b3, _⟩
    · simp [Value.ownBlock] at e
    · simp [Value.ownBlock] at e
      exact ne_of_types hv b3 (by decide) e
theorem below_row {w1 w2 : World} {v : Value} {g : Nat} (h : Below B w w1) (hB : B ≤ g) (hlt : g < w1.heap.size) (hr : w1.ownsRow B 5 1 v l.length (l.map B8)) (hg : w1.grownBy w2 v.ownBlock) : Below B w w2 := by
  refine ⟨hg.os.trans h.os, hg.tape.trans h.tape, hg.output.trans h.output, Nat.le_trans h.size hg.size, fun i hi => ?_⟩
  rw [hg.block i (by omega) ?_]
  · exact h.block i hi
  · intro e
    rcases hr.2 with ⟨rfl, _⟩ | ⟨gr, cap, cur, rfl, b2, _⟩
    · simp [Value.ownBlock] at e
    · simp [Value.ownBlock] at e; omega
theorem WrL.grow (h : WrL B G w g l n err) {w' : World} {v v' : Value} {l' : List UInt8} (hv : w.heap[g]? = some (.cells #[v, .int .i64 (n : Int), .int .i64 err] TW (0, 0)))
    (hr : w.ownsRow B 5 1 v l.length (l.map B8)) (hg : w.grownBy w' v.ownBlock) (hr' : w'.ownsRow B 5 1 v' l'.length (l'.map B8)) :
    WrL B G (w'.setCell ⟨g, 0, none⟩ v') g l' n err := by
  have keep : ∀ {k : Nat} {o : Obj}, w.heap[k]? = some o → ¬ T8 o → w'.heap[k]? = some o := by
    intro k o hk ho
    rw [hg.block k (Array.getElem?_eq_some_iff.1 hk).1 ?_]
    · exact hk
    · intro e
      rcases hr.2 with ⟨rfl, _⟩ | ⟨gr, cap, cur, rfl, _, b3, _⟩
      · simp [Value.ownBlock] at e
      · simp [Value.ownBlock] at e
        subst e
        rw [b3] at hk
        injection hk with hk
        exact ho ⟨cur, hk.symm⟩
  have hT : ¬ T8 (.cells #[v, .int .i64 (n : Int), .int .i64 err] TW (0, 0)) := by
    rintro ⟨cur, e⟩; injection e with _ e; exact absurd e (by decide)
  have hv' := keep hv hT
  refine ⟨h.1, ⟨v', by rw [heap_setCell_same _ _ _ _ _ _ hv']; rfl, ?_⟩, fun p hp => ?_⟩
  · obtain ⟨a, b⟩ := hr'
    refine ⟨a, ?_⟩
    rcases b with b | ⟨gr, cap, cur, b1, b2, b3, b4⟩
    · exact .inl b
    · exact .inr ⟨gr, cap, cur, b1, b2, by rw [heap_setCell_other _ _ _ _ (ne_of_types b3 hv' (by decide))]; exact b3, b4⟩
  · obtain ⟨a, b, c⟩ := h.2.2 p hp
    exact ⟨by rw [heap_setCell_other _ _ _ _ b]; exact keep a c, b, c⟩
theorem WrL.byte (h : WrL B G w g l n err) {v : Value} (hv : w.heap[g]? = some (.cells #[v, .int .i64 (n : Int), .int .i64 err] TW (0, 0)))
    (hr : w.ownsRow B 5 1 v l.length (l.map B8)) {k : Nat} (hk : k < l.length) :
    ∃ gr cap, v = .slice (some ⟨gr, 0, none⟩) l.length cap ∧ gr ≠ g ∧ B ≤ gr ∧ w.cell? ⟨gr, k, none⟩ = some (B8 (l.getD k 0)) ∧ w.frozen? ⟨gr, k, none⟩ = false ∧ ∀ c, WrL B G (w.setCell ⟨gr, k, none⟩ (B8 c)) g (l.set k c) n err := by
  obtain ⟨a, b⟩ := hr
  rcases b with ⟨_, b⟩ | ⟨gr, cap, cur, rfl, b2, b3, b4, b5, b6, b7⟩
  · omega
  · have hne := ne_of_types b3 hv (by decide)
    have hcell : cur[k]? = some (B8 (l.getD k 0)) := by
      have h1 : (cur.toList.take (l.length * 1))[k]? = some (B8 (l.getD k 0)) := by
        rw [b7]; simp [List.getD, hk]
      rw [List.getElem?_take_of_lt (by omega)] at h1
      simpa using h1
    refine ⟨gr, cap, rfl, hne, b2, by rw [cell_of_row _ _ _ _ _ _ b3]; exact hcell, frozen_of_row _ _ _ _ _ b3, fun c => ⟨h.1, ⟨_, by rw [heap_setCell_other _ _ _ _ (by simpa using hne.symm)]; exact hv, ?_⟩, fun p hp => ?_⟩⟩
    · refine ⟨by simp, .inr ⟨gr, cap, cur.setIfInBounds k (B8 c), by simp, b2, ?_, by simpa using b4, b5, by simpa using b6, ?_⟩⟩
      · rw [heap_setCell_same _ _ _ _ _ _ b3]
      · rw [Array.toList_setIfInBounds, List.length_set, List.take_set, b7, List.map_set]
    · obtain ⟨x, y, z⟩ := h.2.2 p hp
      refine ⟨?_, y, z⟩
      rw [heap_setCell_other _ _ _ _ ?_]
      · exact x
      · simp only
        intro e
        rw [e, b3] at x
        injection x with x
        exact z ⟨cur, x.symm⟩
theorem WrL.row_cells {v : Value} (hr : w.ownsRow B 5 1 v l.length (l.map B8)) (hl : 0 < l.length) : ∃ gr cap, v = .slice (some ⟨gr, 0, none⟩) l.length cap ∧ ∀ k, k < l.length → w.cell? ⟨gr, k, none⟩ = some (B8 (l.getD k 0)) := by
  obtain ⟨a, b⟩ := hr
  rcases b with ⟨_, b⟩ | ⟨gr, cap, cur, rfl, b2, b3, b4, b5, b6, b7⟩
  · omega
  · refine ⟨gr, cap, rfl, fun k hk => ?_⟩
    have h1 : (cur.toList.take (l.length * 1))[k]? = some (B8 (l.getD k 0)) := by
      rw [b7]; simp [List.getD, hk]
    rw [List.getElem?_take_of_lt (by omega)] at h1
    rw [cell_of_row _ _ _ _ _ _ b3]; simpa using h1
end Go.Proofs.Ytjjcgjpmhhkeaaa.Wr
