/- frame.pen.target, writing; the map of a frame's kinds; frame.pen.frame, writing. frame.pen, writing: each method writes its fields. Printed by wip/penw.py. bitio.Reader.Signed (16 bits) and Text (limit 127). bitio.Writer.Text at the limit 127. bitio.Reader.Close. bitio.Reader in memory, and what its methods do to it. bitio.Writer: the contracts of its methods, for what is written without an error. Rows of bytes that a conversion has made: what is read there, what a store does. DERIVED: THE SHELF's CONTRACTS AT THIS DUMP, IN PLAIN WORDS (tools/lay-plain.mjs out of 'TryShelf.lean', which tools/lay-shelf.mjs wrote): THE SAME DECLARATIONS UNDER THE SAME NAMES: 'import', 'namespace', 'open', 'def', 'theorem' AND NOTHING ELSE: no command of the shelf's: FOR A HAND-IN. Each laying: the table of numbers ('.._ren') and one theorem, a field a fact of the dump's own or the kernel's comparison; each contract: ONE APPLICATION. bitio.Writer.put: the bits of a number behind what was written. A writer of bits in memory: what its blocks hold, and what each step does to them. Bit strings and the bytes that hold them: plain lemmas. -/
import Derived.Test.YtbgnkjaikbhdoaaProg
import Derived.Below
import Derived.Tactics
import Derived.WalkKit
import Derived.KernelRfl
import Derived.RowKit3
import Derived.Laws.AppendOwn
import Derived.Laws.Rows
import Derived.Laws.Tables
import Derived.OneCell
import Derived.OwnWalk
import Derived.Lib.Hide
import Derived.Deep.Draws
import Derived.Deep.RegionWith
import Derived.RegionTactic
import Derived.BigRegion
import Derived.Outline
import Derived.Lib.SmallJoins
import Derived.Laws.BitsAllLaws
import Derived.LoopTactic
import Derived.IntWalk
import Derived.WalkLawsBesides
import Derived.Shelf.Strings.Builder1
import Derived.Shelf.Strings.Builder2
import Derived.Shelf.Small.Bits
import Derived.Shelf.Strings.BuilderF
import Derived.Shelf.Strconv.Itoa0
import Derived.Shelf.Strings.Prefix
import Derived.Shelf.Bits.Mul64
import Derived.Shelf.Strings.Repeat
import Derived.Lib.ConvBytes
import Derived.Lib.Strings
import Derived.Laws.BytesArg
import Derived.Deep.QuietTactic
import Derived.BigQuiet
import Derived.Laws.MakeOwn
import Derived.StillTailTactics
import Derived.Maps.OwnOps
import Derived.Maps.OwnSet
import Derived.Maps.Views
import Derived.Maps.Keyed
-- Pack
namespace Go.Proofs.Ytbgnkjaikbhdoaa.Pack
set_option linter.unusedSimpArgs false
set_option linter.unusedVariables false

/-- One more bit behind n bits. -/
def addBit (l : List UInt8) (n : Nat) (b : Bool) : List UInt8 :=
  let l' := if n % 8 = 0 then l ++ [0] else l
  l'.set (n / 8) (l'.getD (n / 8) 0 ||| ((if b then 1 else 0) <<< UInt8.ofNat (7 - n % 8)))
/-- The bytes of n bits that stand there already, and of more. -/
def packFrom (l : List UInt8) (n : Nat) : List Bool → List UInt8
  | [] => l
  | b :: r => packFrom (addBit l n b) (n + 1) r
/-- The bytes of bits, the first one highest. -/
def pack (bs : List Bool) : List UInt8 := packFrom [] 0 bs
theorem packFrom_append (l : List UInt8) (n : Nat) (a b : List Bool) : packFrom l n (a ++ b) = packFrom (packFrom l n a) (n + a.length) b := by
  induction a generalizing l n with
  | nil => rfl
  | cons x a ih => simp only [List.cons_append, packFrom, ih, List.length_cons]; congr 1; omega
theorem pack_snoc (bs : List Bool) (b : Bool) : pack (bs ++ [b]) = addBit (pack bs) bs.length b := by
  unfold pack; rw [packFrom_append]; simp [packFrom]
theorem addBit_length (l : List UInt8) (n : Nat) (b : Bool) : (addBit l n b).length = if n % 8 = 0 then l.length + 1 else l.length := by
  unfold addBit; simp only [List.length_set]; split <;> simp
theorem snoc_ind {α : Type} {P : List α → Prop} (h0 : P []) (h1 : ∀ l a, P l → P (l ++ [a])) (l : List α) : P l := by
  rw [← List.reverse_reverse l]
  induction l.reverse with
  | nil => exact h0
  | cons a l ih => rw [List.reverse_cons]; exact h1 _ _ ih
theorem pack_length (bs : List Bool) : (pack bs).length = (bs.length + 7) / 8 := by
  induction bs using snoc_ind with
  | h0 => rfl
  | h1 bs b ih => rw [pack_snoc, addBit_length, ih, List.length_append, List.length_singleton]; split <;> omega

/-- Bit j of bytes, counted from the highest of the first one on. -/
def bitAt (l : List UInt8) (j : Nat) : Bool := (l.getD (j / 8) 0).toNat.testBit (7 - j % 8)
theorem bit_or : ∀ (a : Nat), a < 256 → ∀ (p : Nat), p < 8 → ∀ (b : Bool), ∀ (q : Nat), q < 8 →
    ((UInt8.ofNat a) ||| ((if b then 1 else 0) <<< UInt8.ofNat p)).toNat.testBit q = (a.testBit q || (b && decide (p = q))) := by
  intro a ha p hp b q hq
  rw [UInt8.toNat_or, Nat.testBit_or, UInt8.toNat_ofNat', Nat.mod_eq_of_lt (show a < 2 ^ 8 by omega)]
  congr 1
  have h : ∀ p, p < 8 → ∀ (b : Bool), ∀ q, q < 8 → (((if b then (1 : UInt8) else 0) <<< UInt8.ofNat p).toNat.testBit q) = (b && decide (p = q)) := by decide
  exact h p hp b q hq
theorem bitAt_addBit (l : List UInt8) (n : Nat) (b : Bool) (hl : l.length = (n + 7) / 8) (hz : ∀ j, n ≤ j → bitAt l j = false) (j : Nat) :
    bitAt (addBit l n b) j = if j = n then b else bitAt l j := by
  have hext : ∀ j, bitAt (if n % 8 = 0 then l ++ [0] else l) j = bitAt l j := by
    intro j
    split
    · unfold bitAt
      by_cases h : j / 8 < l.length
      · simp [List.getD, List.getElem?_append_left h]
      · have h2 : l.getD (j / 8) 0 = 0 := by simp [List.getD, List.getElem?_eq_none (show l.length ≤ j / 8 by omega)]
        rw [h2]
        by_cases h3 : j / 8 = l.length
        · rw [h3]; simp [List.getD]
        · simp [List.getD, List.getElem?_eq_none (show (l ++ [0]).length ≤ j / 8 by simp; omega)]
    · rfl
  have hlen : n / 8 < (if n % 8 = 0 then l ++ [0] else l).length := by split <;> (try simp) <;> omega
  unfold addBit
  simp only
  generalize hm : (if n % 8 = 0 then l ++ [0] else l) = m at hext hlen ⊢
  by_cases h8 : j / 8 = n / 8
  · have hg : (m.set (n / 8) (m.getD (n / 8) 0 ||| ((if b then 1 else 0) <<< UInt8.ofNat (7 - n % 8)))).getD (j / 8) 0 = (m.getD (n / 8) 0 ||| ((if b then 1 else 0) <<< UInt8.ofNat (7 - n % 8))) := by
      rw [h8]; simp [List.getD, hlen]
    unfold bitAt
    rw [hg]
    have hc : m.getD (n / 8) 0 = UInt8.ofNat (m.getD (n / 8) 0).toNat := by simp
    rw [hc, bit_or _ (UInt8.toNat_lt _) _ (by omega) b _ (by omega)]
    have e := hext j
    unfold bitAt at e
    rw [h8] at e
    by_cases hj : j = n
    · subst hj
      have hz' := hz j (Nat.le_refl _)
      unfold bitAt at hz'
      rw [if_pos rfl, e, hz']; simp
    · rw [if_neg hj, e]
      have : decide (7 - n % 8 = 7 - j % 8) = false := by rw [decide_eq_false_iff_not]; omega
      rw [this, h8]; simp
  · have hj : j ≠ n := fun e => h8 (by rw [e])
    rw [if_neg hj, ← hext j]
    unfold bitAt
    have : n / 8 ≠ j / 8 := fun e => h8 e.symm
    simp [List.getD, List.getElem?_set, this]
theorem bitAt_pack (bs : List Bool) (j : Nat) : bitAt (pack bs) j = bs.getD j false := by
  induction bs using snoc_ind generalizing j with
  | h0 => simp [pack, packFrom, bitAt, List.getD]
  | h1 bs b ih =>
    rw [pack_snoc, bitAt_addBit _ _ _ (pack_length bs) (fun j hj => by rw [ih]; simp [List.getD, List.getElem?_eq_none hj]), ih]
    by_cases h : j = bs.length
    · subst h; simp [List.getD]
    · rw [if_neg h]
      by_cases l : j < bs.length
      · simp [List.getD, List.getElem?_append_left l]
      · simp [List.getD, List.getElem?_eq_none (show bs.length ≤ j by omega), List.getElem?_eq_none (show (bs ++ [b]).length ≤ j by simp; omega)]
/-- Bytes are known by their bits. -/
theorem byte_ext (a b : UInt8) (h : ∀ q, q < 8 → a.toNat.testBit q = b.toNat.testBit q) : a = b := by
  apply UInt8.toNat_inj.1
  apply Nat.eq_of_testBit_eq
  intro i
  by_cases hi : i < 8
  · exact h i hi
  · have := a.toNat_lt; have := b.toNat_lt
    rw [Nat.testBit_lt_two_pow (Nat.lt_of_lt_of_le a.toNat_lt (Nat.pow_le_pow_right (by decide) (by omega))), Nat.testBit_lt_two_pow (Nat.lt_of_lt_of_le b.toNat_lt (Nat.pow_le_pow_right (by decide) (by omega)))]
theorem bytes_ext (l m : List UInt8) (hl : l.length = m.length) (h : ∀ j, j < 8 * l.length → bitAt l j = bitAt m j) : l = m := by
  apply List.ext_getElem hl
  intro i h1 h2
  apply byte_ext
  intro q hq
  have := h (8 * i + (7 - q)) (by omega)
  unfold bitAt at this
  rw [show (8 * i + (7 - q)) / 8 = i by omega, show 7 - (8 * i + (7 - q)) % 8 = q by omega] at this
  simpa [List.getD, h1, h2] using this
/-- All bits of bytes. -/
def bitsOf (l : List UInt8) : List Bool := (List.range (8 * l.length)).map (bitAt l)
theorem bitsOf_length (l : List UInt8) : (bitsOf l).length = 8 * l.length := by simp [bitsOf]
theorem bitsOf_get (l : List UInt8) (j : Nat) (h : j < 8 * l.length) : (bitsOf l).getD j false = bitAt l j := by simp [bitsOf, List.getD, h]
theorem pack_bitsOf (l : List UInt8) : pack (bitsOf l) = l := by
  apply bytes_ext
  · rw [pack_length, bitsOf_length]; omega
  · intro j hj
    rw [pack_length, bitsOf_length] at hj
    rw [bitAt_pack, bitsOf_get _ _ (by omega)]

/-- The lowest bits of a number, the highest one first. -/
def bitsN : Nat → Nat → List Bool
  | 0, _ => []
  | k + 1, n => bitsN k (n / 2) ++ [n % 2 == 1]
theorem bitsN_length (k n : Nat) : (bitsN k n).length = k := by
  induction k generalizing n with
  | zero => rfl
  | succ k ih => simp [bitsN, ih]
theorem bitsN_cons (k n : Nat) : bitsN (k + 1) n = n.testBit k :: bitsN k n := by
  induction k generalizing n with
  | zero => simp [bitsN, Nat.testBit_zero]; by_cases h : n % 2 = 1 <;> simp [h]
  | succ k ih =>
    rw [bitsN, ih (n / 2), List.cons_append]
    rw [show bitsN k (n / 2) ++ [n % 2 == 1] = bitsN (k + 1) n from rfl]
    congr 1
    rw [Nat.testBit_succ]
/-- The number of bits, the highest one first. -/
def valN (bs : List Bool) : Nat := bs.foldl (fun a b => 2 * a + (if b then 1 else 0)) 0
theorem valN_snoc (bs : List Bool) (b : Bool) : valN (bs ++ [b]) = 2 * valN bs + (if b then 1 else 0) := by simp [valN]
theorem valN_lt (bs : List Bool) : valN bs < 2 ^ bs.length := by
  induction bs using snoc_ind with
  | h0 => simp [valN]
  | h1 bs b ih => rw [valN_snoc, List.length_append, List.length_singleton, Nat.pow_succ]; split <;> omega
theorem valN_bitsN (k n : Nat) (h : n < 2 ^ k) : valN (bitsN k n) = n := by
  induction k generalizing n with
  | zero => have : n = 0 := by simpa using h
            subst this; rfl
  | succ k ih =>
    rw [bitsN, valN_snoc, ih _ (by rw [Nat.pow_succ] at h; omega)]
    by_cases e : n % 2 = 1
    · rw [e]; simp; omega
    · have : n % 2 = 0 := by omega
      rw [this]; simp; omega
theorem bitsN_valN (bs : List Bool) : bitsN bs.length (valN bs) = bs := by
  induction bs using snoc_ind with
  | h0 => rfl
  | h1 bs b ih =>
    rw [List.length_append, List.length_singleton, bitsN, valN_snoc]
    have e1 : (2 * valN bs + if b then 1 else 0) / 2 = valN bs := by split <;> omega
    have e2 : ((2 * valN bs + if b then 1 else 0) % 2 == 1) = b := by cases b <;> simp <;> omega
    rw [e1, e2, ih]
end Go.Proofs.Ytbgnkjaikbhdoaa.Pack

-- Wr
namespace Go.Proofs.Ytbgnkjaikbhdoaa.Wr
open Go.RowKit Go.Proofs.Ytbgnkjaikbhdoaa.Pack

abbrev TW : TypeId := 84
abbrev B8 (c : UInt8) : Value := .int .u8 (c.toNat : Int)
/-- A row of bytes. -/
def T8 (o : Obj) : Prop := ∃ cur, o = .cells cur 5 (0, 0)

/-- BLOCK g IS A WRITER whose data are the bytes l, with n bits and the error err; the blocks of G hold what is listed; all of the writer's memory lies from block B on. -/
def WrL (B : Nat) (G : List (Nat × Obj)) (w : World) (g : Nat) (l : List UInt8) (n : Nat) (err : Int) : Prop :=
  B ≤ g ∧ (∃ v, w.heap[g]? = some (.cells #[v, .int .i64 (n : Int), .int .i64 err] TW (0, 0)) ∧ w.ownsRow B 5 1 v l.length (l.map B8)) ∧
  ∀ p ∈ G, w.heap[p.1]? = some p.2 ∧ p.1 ≠ g ∧ ¬ T8 p.2
/-- .. with these bits. -/
def Wr (B : Nat) (G : List (Nat × Obj)) (w : World) (g : Nat) (bs : List Bool) (err : Int) : Prop := WrL B G w g (pack bs) bs.length err

variable {B g n : Nat} {G : List (Nat × Obj)} {w : World} {l : List UInt8} {err : Int} {bs : List Bool}

theorem WrL.lt (h : WrL B G w g l n err) : g < w.heap.size := by
  obtain ⟨_, ⟨v, hv, _⟩, _⟩ := h
  exact (Array.getElem?_eq_some_iff.1 hv).1
theorem WrL.guest (h : WrL B G w g l n err) {k : Nat} {o : Obj} (hk : (k, o) ∈ G) : w.heap[k]? = some o := (h.2.2 _ hk).1
theorem WrL.alloc (h : WrL B G w g l n err) (o : Obj) : WrL B G (w.alloc o) g l n err := by
  have hlt := h.lt
  obtain ⟨h1, ⟨v, hv, hr⟩, hG⟩ := h
  refine ⟨h1, ⟨v, by rw [heap_alloc_old _ _ hlt]; exact hv, hr.alloc o⟩, fun p hp => ?_⟩
  obtain ⟨a, b, c⟩ := hG p hp
  exact ⟨by rw [heap_alloc_old _ _ (Array.getElem?_eq_some_iff.1 a).1]; exact a, b, c⟩
/-- A new block joins the guests. -/
theorem WrL.allocG (h : WrL B G w g l n err) (o : Obj) (ho : ¬ T8 o) : WrL B ((w.heap.size, o) :: G) (w.alloc o) g l n err := by
  have hlt := h.lt
  have h2 := h.alloc o
  refine ⟨h2.1, h2.2.1, fun p hp => ?_⟩
  rcases List.mem_cons.1 hp with rfl | hp
  · exact ⟨heap_alloc_new _ _, by simp only; omega, ho⟩
  · exact h2.2.2 p hp
theorem WrL.drop {p : Nat × Obj} (h : WrL B (p :: G) w g l n err) : WrL B G w g l n err := ⟨h.1, h.2.1, fun q hq => h.2.2 q (List.mem_cons_of_mem _ hq)⟩
theorem WrL.drew (h : WrL B G w g l n err) : WrL B G w.drew g l n err := h
theorem WrL.drewN (h : WrL B G w g l n err) (k : Nat) : WrL B G (w.drewN k) g l n err := h
/-- Other memory is made; nothing that was there is touched. -/
theorem WrL.below {w' : World} (h : WrL B G w g l n err) (hb : Below w.heap.size w w') : WrL B G w' g l n err := by
  have hlt := h.lt
  obtain ⟨h1, ⟨v, hv, hr⟩, hG⟩ := h
  have hg : w.grownBy w' none := ⟨hb.os, hb.tape, hb.output, hb.size, fun i hi _ => hb.block i hi⟩
  refine ⟨h1, ⟨v, by rw [hb.block _ hlt]; exact hv, ?_⟩, fun p hp => ?_⟩
  · obtain ⟨a, b⟩ := hr
    refine ⟨a, ?_⟩
    rcases b with b | ⟨gr, cap, cur, b1, b2, b3, b4⟩
    · exact .inl b
    · exact .inr ⟨gr, cap, cur, b1, b2, by rw [hb.block _ (Array.getElem?_eq_some_iff.1 b3).1]; exact b3, b4⟩
  · obtain ⟨a, b, c⟩ := hG p hp
    exact ⟨by rw [hb.block _ (Array.getElem?_eq_some_iff.1 a).1]; exact a, b, c⟩
/-- The three cells. -/
theorem WrL.cells (h : WrL B G w g l n err) : ∃ v, w.cell? ⟨g, 0, none⟩ = some v ∧ w.cell? ⟨g, 1, none⟩ = some (.int .i64 (n : Int)) ∧ w.cell? ⟨g, 2, none⟩ = some (.int .i64 err) ∧ (∀ j, w.frozen? ⟨g, j, none⟩ = false) ∧ w.ownsRow B 5 1 v l.length (l.map B8) ∧ w.heap[g]? = some (.cells #[v, .int .i64 (n : Int), .int .i64 err] TW (0, 0)) := by
  obtain ⟨_, ⟨v, hv, hr⟩, _⟩ := h
  refine ⟨v, ?_, ?_, ?_, ?_, hr, hv⟩
  · rw [cell_of_row _ _ _ _ _ _ hv]; rfl
  · rw [cell_of_row _ _ _ _ _ _ hv]; rfl
  · rw [cell_of_row _ _ _ _ _ _ hv]; rfl
  · intro j; exact frozen_of_row _ _ _ _ _ hv
theorem ne_of_types {w : World} {a b : Nat} {cs ds : Array Value} {t u : TypeId} {f : Nat × Nat} (ha : w.heap[a]? = some (.cells cs t f)) (hb : w.heap[b]? = some (.cells ds u f)) (h : t ≠ u) : a ≠ b := by
  rintro rfl
  rw [ha] at hb
  injection hb with hb
  injection hb with _ hb
  exact h hb
/-- A store into the writer's own block. -/
theorem WrL.put (h : WrL B G w g l n err) {i : Nat} {x : Value} {n' : Nat} {err' : Int} {v : Value} (hv : w.heap[g]? = some (.cells #[v, .int .i64 (n : Int), .int .i64 err] TW (0, 0)))
    (hr : w.ownsRow B 5 1 v l.length (l.map B8)) (he : (#[v, .int .i64 (n : Int), .int .i64 err] : Array Value).setIfInBounds i x = #[v, .int .i64 (n' : Int), .int .i64 err']) :
    WrL B G (w.setCell ⟨g, i, none⟩ x) g l n' err' := by
  refine ⟨h.1, ⟨v, by rw [heap_setCell_same _ _ _ _ _ _ hv, he], ?_⟩, fun p hp => ?_⟩
  · obtain ⟨a, b⟩ := hr
    refine ⟨a, ?_⟩
    rcases b with b | ⟨gr, cap, cur, b1, b2, b3, b4⟩
    · exact .inl b
    · exact .inr ⟨gr, cap, cur, b1, b2, by rw [heap_setCell_other _ _ _ _ (ne_of_types b3 hv (by decide))]; exact b3, b4⟩
  · obtain ⟨a, b, c⟩ := h.2.2 p hp
    exact ⟨by rw [heap_setCell_other _ _ _ _ b]; exact a, b, c⟩
theorem WrL.keepG {w' : World} {v : Value} (hv : w.heap[g]? = some (.cells #[v, .int .i64 (n : Int), .int .i64 err] TW (0, 0)))
    (hr : w.ownsRow B 5 1 v l.length (l.map B8)) (hg : w.grownBy w' v.ownBlock) : w'.heap[g]? = some (.cells #[v, .int .i64 (n : Int), .int .i64 err] TW (0, 0)) := by
  rw [hg.block g (Array.getElem?_eq_some_iff.1 hv).1 ?_]
  · exact hv
  · intro e
    rcases hr.2 with ⟨rfl, _⟩ | ⟨gr, cap, cur, rfl, _, b3, _⟩
    · simp [Value.ownBlock] at e
    · simp [Value.ownBlock] at e
      exact ne_of_types hv b3 (by decide) e
/-- What lies below B stays. -/
theorem below_row {w1 w2 : World} {v : Value} {g : Nat} (h : Below B w w1) (hB : B ≤ g) (hlt : g < w1.heap.size) (hr : w1.ownsRow B 5 1 v l.length (l.map B8)) (hg : w1.grownBy w2 v.ownBlock) : Below B w w2 := by
  refine ⟨hg.os.trans h.os, hg.tape.trans h.tape, hg.output.trans h.output, Nat.le_trans h.size hg.size, fun i hi => ?_⟩
  rw [hg.block i (by omega) ?_]
  · exact h.block i hi
  · intro e
    rcases hr.2 with ⟨rfl, _⟩ | ⟨gr, cap, cur, rfl, b2, _⟩
    · simp [Value.ownBlock] at e
    · simp [Value.ownBlock] at e; omega
/-- The row has grown; its value is stored back. -/
theorem WrL.grow (h : WrL B G w g l n err) {w' : World} {v v' : Value} {l' : List UInt8} (hv : w.heap[g]? = some (.cells #[v, .int .i64 (n : Int), .int .i64 err] TW (0, 0)))
    (hr : w.ownsRow B 5 1 v l.length (l.map B8)) (hg : w.grownBy w' v.ownBlock) (hr' : w'.ownsRow B 5 1 v' l'.length (l'.map B8)) :
    WrL B G (w'.setCell ⟨g, 0, none⟩ v') g l' n err := by
  have keep : ∀ {k : Nat} {o : Obj}, w.heap[k]? = some o → ¬ T8 o → w'.heap[k]? = some o := by
    intro k o hk ho
    rw [hg.block k (Array.getElem?_eq_some_iff.1 hk).1 ?_]
    · exact hk
    · intro e
      rcases hr.2 with ⟨rfl, _⟩ | ⟨gr, cap, cur, rfl, _, b3, _⟩
      · simp [Value.ownBlock] at e
      · simp [Value.ownBlock] at e
        subst e
        rw [b3] at hk
        injection hk with hk
        exact ho ⟨cur, hk.symm⟩
  have hT : ¬ T8 (.cells #[v, .int .i64 (n : Int), .int .i64 err] TW (0, 0)) := by
    rintro ⟨cur, e⟩; injection e with _ e; exact absurd e (by decide)
  have hv' := keep hv hT
  refine ⟨h.1, ⟨v', by rw [heap_setCell_same _ _ _ _ _ _ hv']; rfl, ?_⟩, fun p hp => ?_⟩
  · obtain ⟨a, b⟩ := hr'
    refine ⟨a, ?_⟩
    rcases b with b | ⟨gr, cap, cur, b1, b2, b3, b4⟩
    · exact .inl b
    · exact .inr ⟨gr, cap, cur, b1, b2, by rw [heap_setCell_other _ _ _ _ (ne_of_types b3 hv' (by decide))]; exact b3, b4⟩
  · obtain ⟨a, b, c⟩ := h.2.2 p hp
    exact ⟨by rw [heap_setCell_other _ _ _ _ b]; exact keep a c, b, c⟩
/-- Byte k of the row: its place, and what a store there does. -/
theorem WrL.byte (h : WrL B G w g l n err) {v : Value} (hv : w.heap[g]? = some (.cells #[v, .int .i64 (n : Int), .int .i64 err] TW (0, 0)))
    (hr : w.ownsRow B 5 1 v l.length (l.map B8)) {k : Nat} (hk : k < l.length) :
    ∃ gr cap, v = .slice (some ⟨gr, 0, none⟩) l.length cap ∧ gr ≠ g ∧ B ≤ gr ∧ w.cell? ⟨gr, k, none⟩ = some (B8 (l.getD k 0)) ∧ w.frozen? ⟨gr, k, none⟩ = false ∧ ∀ c, WrL B G (w.setCell ⟨gr, k, none⟩ (B8 c)) g (l.set k c) n err := by
  obtain ⟨a, b⟩ := hr
  rcases b with ⟨_, b⟩ | ⟨gr, cap, cur, rfl, b2, b3, b4, b5, b6, b7⟩
  · omega
  · have hne := ne_of_types b3 hv (by decide)
    have hcell : cur[k]? = some (B8 (l.getD k 0)) := by
      have h1 : (cur.toList.take (l.length * 1))[k]? = some (B8 (l.getD k 0)) := by
        rw [b7]; simp [List.getD, hk]
      rw [List.getElem?_take_of_lt (by omega)] at h1
      simpa using h1
    refine ⟨gr, cap, rfl, hne, b2, by rw [cell_of_row _ _ _ _ _ _ b3]; exact hcell, frozen_of_row _ _ _ _ _ b3, fun c => ⟨h.1, ⟨_, by rw [heap_setCell_other _ _ _ _ (by simpa using hne.symm)]; exact hv, ?_⟩, fun p hp => ?_⟩⟩
    · refine ⟨by simp, .inr ⟨gr, cap, cur.setIfInBounds k (B8 c), by simp, b2, ?_, by simpa using b4, b5, by simpa using b6, ?_⟩⟩
      · rw [heap_setCell_same _ _ _ _ _ _ b3]
      · rw [Array.toList_setIfInBounds, List.length_set, List.take_set, b7, List.map_set]
    · obtain ⟨x, y, z⟩ := h.2.2 p hp
      refine ⟨?_, y, z⟩
      rw [heap_setCell_other _ _ _ _ ?_]
      · exact x
      · simp only
        intro e
        rw [e, b3] at x
        injection x with x
        exact z ⟨cur, x.symm⟩
/-- The bytes as a string's. -/
theorem WrL.row_cells {v : Value} (hr : w.ownsRow B 5 1 v l.length (l.map B8)) (hl : 0 < l.length) : ∃ gr cap, v = .slice (some ⟨gr, 0, none⟩) l.length cap ∧ ∀ k, k < l.length → w.cell? ⟨gr, k, none⟩ = some (B8 (l.getD k 0)) := by
  obtain ⟨a, b⟩ := hr
  rcases b with ⟨_, b⟩ | ⟨gr, cap, cur, rfl, b2, b3, b4, b5, b6, b7⟩
  · omega
  · refine ⟨gr, cap, rfl, fun k hk => ?_⟩
    have h1 : (cur.toList.take (l.length * 1))[k]? = some (B8 (l.getD k 0)) := by
      rw [b7]; simp [List.getD, hk]
    rw [List.getElem?_take_of_lt (by omega)] at h1
    rw [cell_of_row _ _ _ _ _ _ b3]; simpa using h1
end Go.Proofs.Ytbgnkjaikbhdoaa.Wr

-- WrPut
namespace Go.Proofs.Ytbgnkjaikbhdoaa.WrPut
open Go.RowKit Go.Proofs.Ytbgnkjaikbhdoaa.Pack Go.Proofs.Ytbgnkjaikbhdoaa.Wr

theorem info8 : (Try.prog.info? 5).map (fun i => (i.zero, i.size, i.bytes)) = some (some (.int .u8 0), 1, 1) := by kernel_rfl

/-- A number that fits 64 bits. -/
def U64 (m : Nat) : Prop := m < 18446744073709551616
theorem below_drew' {B : Nat} {a w : World} (h : Below B a w) : Below B a w.drew := ⟨h.os, h.tape, h.output, h.size, h.block⟩
theorem cell_new (w : World) (x : Value) (t : TypeId) {j : Nat} {u : Value} (h : [x][j]? = some u) : (w.alloc (.cells #[x] t)).cell? ((⟨w.heap.size, 0, none⟩ : Addr).add j) = some u := by
  have hj : j = 0 := by
    rcases Nat.eq_zero_or_pos j with h0 | h0
    · exact h0
    · rw [List.getElem?_eq_none (by simp; omega)] at h; cases h
  subst hj
  rw [show (⟨w.heap.size, 0, none⟩ : Addr).add 0 = ⟨w.heap.size, 0, none⟩ by unfold Addr.add; split <;> simp_all, World.cell?_alloc_at _ _ _ _ rfl]
  simpa using h
theorem put_byte (c : UInt8) (m q r : Nat) (hm : m < 18446744073709551616) (hr : r < 8) :
    Go.bits .or .u8 (c.toNat : Int) (Go.bits .and .u64 ((m : Int) / 2 ^ q) 1 % 256 * 2 ^ r % 256) = ((c ||| ((if m.testBit q then 1 else 0) <<< UInt8.ofNat r)).toNat : Int) := by
  have hl : m / 2 ^ q < 18446744073709551616 := Nat.lt_of_le_of_lt (Nat.div_le_self _ _) hm
  have e : ((m : Int) / 2 ^ q) = ((m / 2 ^ q : Nat) : Int) := by simp
  rw [e, show (1 : Int) = ((1 : Nat) : Int) from rfl, u64_and_nat _ _ hl (by decide), nat_mask1]
  have hb : ((m / 2 ^ q % 2 : Nat) : Int) = if m.testBit q then 1 else 0 := by
    rw [Nat.testBit_eq_decide_div_mod_eq]
    generalize m / 2 ^ q = z
    by_cases h : z % 2 = 1
    · rw [h]; rfl
    · rw [show z % 2 = 0 by omega]; rfl
  have hx : ((m / 2 ^ q % 2 : Nat) : Int) % 256 * 2 ^ r % 256 = (((if m.testBit q then (1 : UInt8) else 0) <<< UInt8.ofNat r).toNat : Int) := by
    rw [hb]
    cases m.testBit q
    · have : ∀ r, r < 8 → ((if false then (1 : Int) else 0) % 256 * 2 ^ r % 256) = (((if false then (1 : UInt8) else 0) <<< UInt8.ofNat r).toNat : Int) := by decide
      exact this r hr
    · have : ∀ r, r < 8 → ((if true then (1 : Int) else 0) % 256 * 2 ^ r % 256) = (((if true then (1 : UInt8) else 0) <<< UInt8.ofNat r).toNat : Int) := by decide
      exact this r hr
  rw [hx, u8_or_nat _ _ c.toNat_lt (UInt8.toNat_lt _), UInt8.toNat_or]
theorem take_step (k m q : Nat) (hq : q < k) : (bitsN k m).take (k - q) = (bitsN k m).take (k - (q + 1)) ++ [m.testBit q] := by
  have hl := bitsN_length k m
  have e : k - q = (k - (q + 1)) + 1 := by omega
  rw [e, List.take_succ_eq_append_getElem (by omega)]
  congr 2
  have h : ∀ k m j, (hj : j < (bitsN k m).length) → (bitsN k m)[j] = m.testBit (k - 1 - j) := by
    intro k
    induction k with
    | zero => intro m j hj; simp [bitsN] at hj
    | succ k ih =>
      intro m j hj
      have hc := bitsN_cons k m
      cases j with
      | zero => simp [hc]
      | succ j =>
        simp only [hc, List.getElem_cons_succ]
        rw [ih m j (by rw [bitsN_length] at hj ⊢; omega)]
        congr 1; omega
  rw [h _ _ _ (by omega)]
  congr 1; omega

set_option maxRecDepth 100000 in
set_option maxHeartbeats 4000000 in
theorem put_any {B g : Nat} {G : List (Nat × Obj)} {w : World} {bs : List Bool} {err : Int} (h : Wr B G w g bs err) (k : Nat) (hk : k ≤ 64) (m : Nat) (hm : U64 m) (hn : bs.length + k ≤ 1000000) :
    Calls Try.prog 103 #[.pointer (some ⟨g, 0, none⟩), .int .i64 (k : Int), .int .u64 (m : Int)] w fun e w' => e = .returned (.tuple #[]) ∧ Wr B G w' g (bs ++ bitsN k m) err ∧ Below B w w' := by
  obtain ⟨i0, hi, hz0, hz1, hz2⟩ := info_parts info8
  have HI := Lib.hid hi
  have HZ0 := Lib.hid hz0
  have HZ1 := Lib.hid hz1
  have HZ2 := Lib.hid hz2
  have HH := Lib.hid h
  clear hi hz0 hz1 hz2 h
  go_enter Try.func103, Try.ntmps103
  go_wp2
  go_loopw [6] (fun i wr => ∃ d : Nat, d ≤ k ∧ i = .int .i64 ((d : Int) - 1) ∧ Hid (Wr B G wr g (bs ++ (bitsN k m).take (k - d)) err) ∧ Hid (Below B w wr)) (fun i _ => (intOf i + 1).toNat)
  case atStart => exact ⟨k, Nat.le_refl _, rfl, by rw [Nat.sub_self, List.take_zero, List.append_nil]; exact HH, Lib.hid (Below.refl _ _)⟩
  case round =>
    clear HH
    obtain ⟨d, hd, rfl, HH, HB⟩ := hrel
    by_cases h0 : d = 0
    · subst h0
      have HH2 : Hid (Wr B G wr g (bs ++ bitsN k m) err) := by
        have := HH.out
        rw [Nat.sub_zero, List.take_of_length_le (by rw [bitsN_length]; exact Nat.le_refl _)] at this
        exact Lib.hid this
      go_wp2
      go_end0
      exact ⟨rfl, HH2.out, HB.out⟩
    · obtain ⟨q, rfl⟩ : ∃ q, d = q + 1 := ⟨d - 1, by omega⟩
      have e : (((q + 1 : Nat) : Int) - 1) = (q : Int) := by omega
      rw [e]
      clear e h0
      have hq : q < k := by omega
      generalize hcs : bs ++ (bitsN k m).take (k - (q + 1)) = cs at HH
      have hlen : cs.length = bs.length + (k - (q + 1)) := by
        rw [← hcs, List.length_append, List.length_take, bitsN_length]; omega
      have hL : cs.length ≤ 1000000 := by omega
      obtain ⟨v, c0, c1, c2, hf, hown, hv⟩ := WrL.cells HH.out
      have HO := Lib.hid hown
      have HV := Lib.hid hv
      have f0 := hf 0
      have f1 := hf 1
      have HL := Lib.hid hlen
      have HC := Lib.hid hcs
      clear hown hv hf hlen hcs
      have hgl : g < wr.heap.size := WrL.lt HH.out
      have hBg : B ≤ g := HH.out.1
      by_cases h8 : cs.length % 8 = 0
      · have b8 : ((cs.length : Int) % 8 == 0) = true := by rw [beq_iff_eq]; omega
        have HE : Hid ((if cs.length % 8 = 0 then pack cs ++ [0] else pack cs) = pack cs ++ [0]) := Lib.hid (if_pos h8)
        clear h8
        go_wp2_with (at_builtin; refine wpList_append_own _ rfl _ _ 40 rfl B 5 i0 (.int .u8 0) 1 1 Try.underlying40 HI.out HZ0.out HZ1.out HZ2.out rfl (by decide) _ _ _ rfl (HO.out.alloc _) ⟨wr.heap.size, 0, none⟩ 1 1 [.int .u8 0] rfl rfl ?c1 ?c2 ?c3 ?c4 ?c5 ?_)
        case c1 => intro j u hu; exact cell_new _ _ _ hu
        case c2 => intro u hu; simp at hu; subst hu; rfl
        case c3 => rw [pack_length]; unfold maxLen; omega
        case c4 => rw [pack_length]; omega
        case c5 => simp; omega
        intro v' w' hown' hgrow _
        obtain ⟨g', cap', rfl⟩ := Joins.ownsRow_form hown' (by omega)
        have hv1 : (wr.alloc (.cells #[.int .u8 0] 5)).heap[g]? = _ := (heap_alloc_old _ _ hgl).trans HV.out
        have hk1 := WrL.keepG hv1 (HO.out.alloc _) hgrow
        have d0 : w'.cell? ⟨g, 0, none⟩ = some v := by rw [cell_of_row _ _ _ _ _ _ hk1]; rfl
        have e0 : w'.frozen? ⟨g, 0, none⟩ = false := frozen_of_row _ _ _ _ _ hk1
        have HW : Hid (WrL B G (w'.setCell ⟨g, 0, none⟩ (.slice (some ⟨g', 0, none⟩) ((pack cs).length + 1) cap')) g (if cs.length % 8 = 0 then pack cs ++ [0] else pack cs) cs.length err) := by
          rw [HE.out]
          refine Lib.hid (WrL.grow (WrL.alloc HH.out _) hv1 (HO.out.alloc _) hgrow ?_)
          rw [List.length_append, List.map_append]; exact hown'
        have HB2 : Hid (Below B w (w'.setCell ⟨g, 0, none⟩ (.slice (some ⟨g', 0, none⟩) ((pack cs).length + 1) cap'))) := Lib.hid ((below_row (HB.out.alloc (by omega) _) hBg (by simp; omega) (HO.out.alloc _) hgrow).setCell hBg (.slice (some ⟨g', 0, none⟩) ((pack cs).length + 1) cap'))
        clear hown' hgrow hv1 hk1 HH HO HV HB c0 c1 c2 f0 f1 HE
        go_wp2
        clear d0 e0 b8
        generalize w'.setCell ⟨g, 0, none⟩ (.slice (some ⟨g', 0, none⟩) ((pack cs).length + 1) cap') = w2 at HW HB2 ⊢
        have hll : ((if cs.length % 8 = 0 then pack cs ++ [0] else pack cs)).length = cs.length / 8 + 1 := by split <;> (try simp) <;> (rw [pack_length]; omega)
        have hadd : addBit (pack cs) cs.length (m.testBit q) = (if cs.length % 8 = 0 then pack cs ++ [0] else pack cs).set (cs.length / 8) ((if cs.length % 8 = 0 then pack cs ++ [0] else pack cs).getD (cs.length / 8) 0 ||| ((if m.testBit q then 1 else 0) <<< UInt8.ofNat (7 - cs.length % 8))) := rfl
        generalize (if cs.length % 8 = 0 then pack cs ++ [0] else pack cs) = l2 at HW hll hadd
        obtain ⟨v2, d0, d1, d2, hf2, hown2, hv2⟩ := WrL.cells HW.out
        obtain ⟨gr, cap, rfl, hgr, hgrB, hcell, hfro, hset⟩ := WrL.byte HW.out hv2 hown2 (k := cs.length / 8) (by omega)
        have HS := Lib.hid (hset (l2.getD (cs.length / 8) 0 ||| ((if m.testBit q then 1 else 0) <<< UInt8.ofNat (7 - cs.length % 8))))
        have HA := Lib.hid hadd
        have hp : (cs.length : Int) / 8 = ((cs.length / 8 : Nat) : Int) := by omega
        have hp2 : ((cs.length / 8 : Nat) : Int) < (l2.length : Int) := by omega
        have f1 := hf2 1
        clear hset hadd hv2 hown2 hf2 hll d2 HW
        generalize cs.length / 8 = p at *
        go_region
        have hv := put_byte (l2[p]?.getD 0) m q (7 - cs.length % 8) hm (by omega)
        rw [hv]
        have hgd : l2.getD p 0 = l2[p]?.getD 0 := List.getD_eq_getElem?_getD
        rw [hgd] at HS HA
        have HB3 := Lib.hid (below_drew' (HB2.out.setCell (p := ⟨gr, p, none⟩) hgrB (.int .u8 ((l2[p]?.getD 0 ||| ((if m.testBit q then 1 else 0) <<< UInt8.ofNat (7 - cs.length % 8))).toNat : Int))))
        have HS2 := Lib.hid (WrL.drew HS.out)
        rw [← HA.out] at HS2
        clear hv hgd HS HA HB2 d0 d1 hcell hfro hp hp2 f1
        generalize World.drew (w2.setCell ⟨gr, p, none⟩ (.int .u8 ((l2[p]?.getD 0 ||| ((if m.testBit q then 1 else 0) <<< UInt8.ofNat (7 - cs.length % 8))).toNat : Int))) = w3 at HB3 HS2 ⊢
        obtain ⟨v3, _, d1, _, hf3, hown3, hv3⟩ := WrL.cells HS2.out
        have f1 := hf3 1
        have HS3 : Hid (Wr B G (w3.setCell ⟨g, 1, none⟩ (.int .i64 ((cs.length : Int) + 1))) g (bs ++ (bitsN k m).take (k - q)) err) := by
          refine Lib.hid ?_
          unfold Wr
          rw [take_step k m q hq, ← List.append_assoc, HC.out, pack_snoc, List.length_append, List.length_singleton]
          exact WrL.put HS2.out hv3 hown3 rfl
        have HB4 := Lib.hid (HB3.out.setCell (p := ⟨g, 1, none⟩) hBg (.int .i64 ((cs.length : Int) + 1)))
        clear hf3 hown3 hv3 HS2 HB3
        go_wp2
        go_roundw
        case rel => exact ⟨q, by omega, rfl, HS3, HB4⟩
        case measure => simp [intOf]
      · have b8 : ((cs.length : Int) % 8 == 0) = false := by rw [beq_eq_false_iff_ne]; omega
        have HE : (if cs.length % 8 = 0 then pack cs ++ [0] else pack cs) = pack cs := if_neg h8
        have HW : Hid (WrL B G wr g (if cs.length % 8 = 0 then pack cs ++ [0] else pack cs) cs.length err) := by
          rw [HE]; exact HH
        clear h8 HE
        go_wp2
        have HB2 := HB
        clear b8 c0 c1 c2 f0 f1 HH HO HV HB hgl
        generalize wr = w2 at HW HB2 ⊢
        have hll : ((if cs.length % 8 = 0 then pack cs ++ [0] else pack cs)).length = cs.length / 8 + 1 := by split <;> (try simp) <;> (rw [pack_length]; omega)
        have hadd : addBit (pack cs) cs.length (m.testBit q) = (if cs.length % 8 = 0 then pack cs ++ [0] else pack cs).set (cs.length / 8) ((if cs.length % 8 = 0 then pack cs ++ [0] else pack cs).getD (cs.length / 8) 0 ||| ((if m.testBit q then 1 else 0) <<< UInt8.ofNat (7 - cs.length % 8))) := rfl
        generalize (if cs.length % 8 = 0 then pack cs ++ [0] else pack cs) = l2 at HW hll hadd
        obtain ⟨v2, d0, d1, d2, hf2, hown2, hv2⟩ := WrL.cells HW.out
        obtain ⟨gr, cap, rfl, hgr, hgrB, hcell, hfro, hset⟩ := WrL.byte HW.out hv2 hown2 (k := cs.length / 8) (by omega)
        have HS := Lib.hid (hset (l2.getD (cs.length / 8) 0 ||| ((if m.testBit q then 1 else 0) <<< UInt8.ofNat (7 - cs.length % 8))))
        have HA := Lib.hid hadd
        have hp : (cs.length : Int) / 8 = ((cs.length / 8 : Nat) : Int) := by omega
        have hp2 : ((cs.length / 8 : Nat) : Int) < (l2.length : Int) := by omega
        have f1 := hf2 1
        clear hset hadd hv2 hown2 hf2 hll d2 HW
        generalize cs.length / 8 = p at *
        go_region
        have hv := put_byte (l2[p]?.getD 0) m q (7 - cs.length % 8) hm (by omega)
        rw [hv]
        have hgd : l2.getD p 0 = l2[p]?.getD 0 := List.getD_eq_getElem?_getD
        rw [hgd] at HS HA
        have HB3 := Lib.hid (below_drew' (HB2.out.setCell (p := ⟨gr, p, none⟩) hgrB (.int .u8 ((l2[p]?.getD 0 ||| ((if m.testBit q then 1 else 0) <<< UInt8.ofNat (7 - cs.length % 8))).toNat : Int))))
        have HS2 := Lib.hid (WrL.drew HS.out)
        rw [← HA.out] at HS2
        clear hv hgd HS HA HB2 d0 d1 hcell hfro hp hp2 f1
        generalize World.drew (w2.setCell ⟨gr, p, none⟩ (.int .u8 ((l2[p]?.getD 0 ||| ((if m.testBit q then 1 else 0) <<< UInt8.ofNat (7 - cs.length % 8))).toNat : Int))) = w3 at HB3 HS2 ⊢
        obtain ⟨v3, _, d1, _, hf3, hown3, hv3⟩ := WrL.cells HS2.out
        have f1 := hf3 1
        have HS3 : Hid (Wr B G (w3.setCell ⟨g, 1, none⟩ (.int .i64 ((cs.length : Int) + 1))) g (bs ++ (bitsN k m).take (k - q)) err) := by
          refine Lib.hid ?_
          unfold Wr
          rw [take_step k m q hq, ← List.append_assoc, HC.out, pack_snoc, List.length_append, List.length_singleton]
          exact WrL.put HS2.out hv3 hown3 rfl
        have HB4 := Lib.hid (HB3.out.setCell (p := ⟨g, 1, none⟩) hBg (.int .i64 ((cs.length : Int) + 1)))
        clear hf3 hown3 hv3 HS2 HB3
        go_wp2
        go_roundw
        case rel => exact ⟨q, by omega, rfl, HS3, HB4⟩
        case measure => simp [intOf]
end Go.Proofs.Ytbgnkjaikbhdoaa.WrPut

-- Shelf
namespace Go.Proofs
open Go.Shelf
def Try.lays170_ren : Go.Shelf.Ren := ⟨fun | 170 => 54 | n => n, fun | 70 => 72 | 3 => 3 | 0 => 0 | 72 => 74 | 37 => 40 | 5 => 5 | n => n, fun | n => n⟩
theorem Try.lays170 : Go.Proofs.Lays.n170 Try.prog Try.lays170_ren := {
  mixed := by kernel_rfl
  f170 := Try.func54.trans (congrArg some (by kernel_rfl))
  t0 := Try.underlying0
  a0 := Try.isAgg0
  z0 := Try.sizeOf0
  v0 := Try.zeroValue0
  t3 := Try.underlying3
  a3 := Try.isAgg3
  z3 := Try.sizeOf3
  v3 := Try.zeroValue3
  t37 := Try.underlying40
  a37 := Try.isAgg40
  z37 := Try.sizeOf40
  v37 := Try.zeroValue40
  t70 := Try.underlying72
  a70 := Try.isAgg72
  z70 := Try.sizeOf72
  v70 := Try.zeroValue72
  t72 := Try.underlying74
  a72 := Try.isAgg74
  z72 := Try.sizeOf74
  v72 := Try.zeroValue74 }
open Go.RowKit in
/-- (*strings.Builder).Len: "Len returns the number of accumulated bytes; b.Len() == len(b.String()).": the world is as it was. (LAID: no walk: one application.) -/
theorem Try.Builder_Len (B b : Nat) (bs : List Value) (w : World) (h : Lib.IsBuilder 74 5 B b bs w) :
    Calls Try.prog 54 #[.pointer (some ⟨b, 0, none⟩)] w fun e w' => e = .returned (.int .i64 bs.length) ∧ w' = w := Any.Builder_Len Try.lays170 B b bs w h
def Try.lays169_ren : Go.Shelf.Ren := ⟨fun | 169 => 55 | n => n, fun | 70 => 72 | 9 => 9 | 0 => 0 | 72 => 74 | 37 => 40 | 127 => 108 | 3 => 3 | 5 => 5 | n => n, fun | n => n⟩
theorem Try.lays169 : Go.Proofs.Lays.n169 Try.prog Try.lays169_ren := {
  mixed := by kernel_rfl
  f169 := Try.func55.trans (congrArg some (by kernel_rfl))
  t0 := Try.underlying0
  a0 := Try.isAgg0
  z0 := Try.sizeOf0
  v0 := Try.zeroValue0
  t3 := Try.underlying3
  a3 := Try.isAgg3
  z3 := Try.sizeOf3
  v3 := Try.zeroValue3
  t9 := Try.underlying9
  a9 := Try.isAgg9
  z9 := Try.sizeOf9
  v9 := Try.zeroValue9
  t37 := Try.underlying40
  a37 := Try.isAgg40
  z37 := Try.sizeOf40
  v37 := Try.zeroValue40
  t70 := Try.underlying72
  a70 := Try.isAgg72
  z70 := Try.sizeOf72
  v70 := Try.zeroValue72
  t72 := Try.underlying74
  a72 := Try.isAgg74
  z72 := Try.sizeOf74
  v72 := Try.zeroValue74
  t127 := Try.underlying108
  a127 := Try.isAgg108
  z127 := Try.sizeOf108
  v127 := Try.zeroValue108 }
theorem Try.Builder_Extra_169 : Builder.Extra Try.prog Try.lays169_ren := {
  sizeBuilder := by kernel_rfl
  liesBuilder := by kernel_rfl
  t5 := Try.underlying5
  a5 := Try.isAgg5
  z5 := Try.sizeOf5
  v5 := Try.zeroValue5
  infoByte := by kernel_rfl
  cellsByte := by kernel_rfl
  sizeByte := by kernel_rfl
  neB5 := by decide }
open Go.RowKit in
/-- (*strings.Builder).String: "String returns the accumulated string.": OF A BUILDER THAT HOLDS AT LEAST ONE BYTE. ✋ THE MODEL FREEZES THOSE BYTES IN THE BUFFER (unsafe.String): a later write INTO them ends the model's run without an answer; a later append BEHIND them goes on. The statement's order of evaluation is drawn: one draw. (LAID: no walk: one application.) -/
theorem Try.Builder_String (B b : Nat) (l : List UInt8) (w : World) (h : Lib.IsBuilder 74 5 B b (Lib.byteCells l) w) (h0 : l ≠ []) :
    Calls Try.prog 55 #[.pointer (some ⟨b, 0, none⟩)] w fun e w' => e = .returned (.string ⟨l.toArray⟩) ∧ Below B w w' := Any.Builder_String Try.lays169 Try.Builder_Extra_169 B b l w h h0
open Go.RowKit in
/-- (*strings.Builder).String OF A BUILDER THAT HOLDS NO BYTE: the empty string. (Its buffer is nil, or a row of which it has taken nothing yet; where that row has NO capacity the model lays one new block for unsafe.SliceData's 'some address'.) One draw. (LAID: no walk: one application.) -/
theorem Try.Builder_String_empty (B b : Nat) (w : World) (h : Lib.IsBuilder 74 5 B b [] w) (hBw : B ≤ w.heap.size) :
    Calls Try.prog 55 #[.pointer (some ⟨b, 0, none⟩)] w fun e w' => e = .returned (.string ⟨#[]⟩) ∧ Below B w w' := Any.Builder_String_empty Try.lays169 Try.Builder_Extra_169 B b w h hBw
open Go.RowKit in
/-- (*strings.Builder).String: "String returns the accumulated string.": WHATEVER THE BUILDER HOLDS. (LAID: no walk: one application.) -/
theorem Try.Builder_String_any (B b : Nat) (l : List UInt8) (w : World) (h : Lib.IsBuilder 74 5 B b (Lib.byteCells l) w) (hBw : B ≤ w.heap.size) :
    Calls Try.prog 55 #[.pointer (some ⟨b, 0, none⟩)] w fun e w' => e = .returned (.string ⟨l.toArray⟩) ∧ Below B w w' := Any.Builder_String_any Try.lays169 Try.Builder_Extra_169 B b l w h hBw
def Try.lays241_ren : Go.Shelf.Ren := ⟨fun | 241 => 80 | 277 => 91 | n => n, fun | 70 => 72 | 3 => 3 | 0 => 0 | 72 => 74 | 37 => 40 | 5 => 5 | n => n, fun | n => n⟩
theorem Try.lays241 : Go.Proofs.Lays.n241 Try.prog Try.lays241_ren := {
  mixed := by kernel_rfl
  f241 := Try.func80.trans (congrArg some (by kernel_rfl))
  f277 := Try.func91.trans (congrArg some (by kernel_rfl))
  t0 := Try.underlying0
  a0 := Try.isAgg0
  z0 := Try.sizeOf0
  v0 := Try.zeroValue0
  t3 := Try.underlying3
  a3 := Try.isAgg3
  z3 := Try.sizeOf3
  v3 := Try.zeroValue3
  t37 := Try.underlying40
  a37 := Try.isAgg40
  z37 := Try.sizeOf40
  v37 := Try.zeroValue40
  t70 := Try.underlying72
  a70 := Try.isAgg72
  z70 := Try.sizeOf72
  v70 := Try.zeroValue72
  t72 := Try.underlying74
  a72 := Try.isAgg74
  z72 := Try.sizeOf74
  v72 := Try.zeroValue74 }
theorem Try.Builder_Extra_241 : Builder.Extra Try.prog Try.lays241_ren := {
  sizeBuilder := by kernel_rfl
  liesBuilder := by kernel_rfl
  t5 := Try.underlying5
  a5 := Try.isAgg5
  z5 := Try.sizeOf5
  v5 := Try.zeroValue5
  infoByte := by kernel_rfl
  cellsByte := by kernel_rfl
  sizeByte := by kernel_rfl
  neB5 := by decide }
open Go.RowKit in
/-- (*strings.Builder).grow (no doc but "grow copies the buffer to a new, larger buffer so that there are at least n bytes of capacity beyond len(b.buf)."): AT A BUILDER WITHOUT A BUFFER: a new row of whatever bytes for its buffer, none of them its own yet. Three draws. (LAID: no walk: one application.) -/
theorem Try.Builder_grow_fresh (B b n : Nat) (w : World) (hB : B ≤ b) (hbk : w.heap[b]? = some (.cells #[.pointer (some ⟨b, 0, none⟩), .slice none 0 0] 74 (0, 0))) (hBw : B ≤ w.heap.size) (hn : n ≤ 281474976710656) :
    Calls Try.prog 80 #[.pointer (some ⟨b, 0, none⟩), .int .i64 n] w fun e w' => e = .returned (.tuple #[]) ∧ (Lib.BuilderAt 74 5 B b (.pointer (some ⟨b, 0, none⟩)) [] w' ∧ Below B w w') := Any.Builder_grow_fresh Try.lays241 Try.Builder_Extra_241 B b n w hB hbk hBw hn
def Try.lays165_ren : Go.Shelf.Ren := ⟨fun | 165 => 52 | 240 => 79 | 241 => 80 | 276 => 90 | 277 => 91 | n => n, fun | 70 => 72 | 3 => 3 | 0 => 0 | 4 => 4 | 9 => 9 | 20 => 20 | 72 => 74 | 37 => 40 | 164 => 112 | 5 => 5 | n => n, fun | n => n⟩
theorem Try.lays165 : Go.Proofs.Lays.n165 Try.prog Try.lays165_ren := {
  mixed := by kernel_rfl
  f165 := Try.func52.trans (congrArg some (by kernel_rfl))
  f240 := Try.func79.trans (congrArg some (by kernel_rfl))
  f241 := Try.func80.trans (congrArg some (by kernel_rfl))
  f276 := Try.func90.trans (congrArg some (by kernel_rfl))
  f277 := Try.func91.trans (congrArg some (by kernel_rfl))
  t0 := Try.underlying0
  a0 := Try.isAgg0
  z0 := Try.sizeOf0
  v0 := Try.zeroValue0
  t3 := Try.underlying3
  a3 := Try.isAgg3
  z3 := Try.sizeOf3
  v3 := Try.zeroValue3
  t4 := Try.underlying4
  a4 := Try.isAgg4
  z4 := Try.sizeOf4
  v4 := Try.zeroValue4
  t9 := Try.underlying9
  a9 := Try.isAgg9
  z9 := Try.sizeOf9
  v9 := Try.zeroValue9
  t20 := Try.underlying20
  a20 := Try.isAgg20
  z20 := Try.sizeOf20
  v20 := Try.zeroValue20
  t37 := Try.underlying40
  a37 := Try.isAgg40
  z37 := Try.sizeOf40
  v37 := Try.zeroValue40
  t70 := Try.underlying72
  a70 := Try.isAgg72
  z70 := Try.sizeOf72
  v70 := Try.zeroValue72
  t72 := Try.underlying74
  a72 := Try.isAgg74
  z72 := Try.sizeOf74
  v72 := Try.zeroValue74
  t164 := Try.underlying112
  a164 := Try.isAgg112
  z164 := Try.sizeOf112
  v164 := Try.zeroValue112 }
theorem Try.Builder_Extra_165 : Builder.Extra Try.prog Try.lays165_ren := {
  sizeBuilder := by kernel_rfl
  liesBuilder := by kernel_rfl
  t5 := Try.underlying5
  a5 := Try.isAgg5
  z5 := Try.sizeOf5
  v5 := Try.zeroValue5
  infoByte := by kernel_rfl
  cellsByte := by kernel_rfl
  sizeByte := by kernel_rfl
  neB5 := by decide }
open Go.RowKit in
/-- (*strings.Builder).Grow AT A BUILDER THAT HAS NOT BEEN WRITTEN ('var b strings.Builder; b.Grow(n)'): "Grow grows b's capacity, if necessary, to guarantee space for another n bytes.": it holds no byte behind it as before it. (LAID: no walk: one application.) -/
theorem Try.Builder_Grow_fresh (B b n : Nat) (w : World) (hB : B ≤ b) (hbk : w.heap[b]? = some (.cells #[.pointer none, .slice none 0 0] 74 (0, 0))) (hBw : B ≤ w.heap.size) (hn : n ≤ 281474976710656) :
    Calls Try.prog 52 #[.pointer (some ⟨b, 0, none⟩), .int .i64 n] w fun e w' => e = .returned (.tuple #[]) ∧ (Lib.BuilderAt 74 5 B b (.pointer (some ⟨b, 0, none⟩)) [] w' ∧ Below B w w') := Any.Builder_Grow_fresh Try.lays165 Try.Builder_Extra_165 B b n w hB hbk hBw hn
def Try.lays128_ren : Go.Shelf.Ren := ⟨fun | 128 => 105 | n => n, fun | 51 => 103 | 3 => 3 | 4 => 4 | 46 => 68 | 5 => 5 | 9 => 9 | n => n, fun | n => n⟩
theorem Try.lays128 : Go.Proofs.Lays.n128 Try.prog Try.lays128_ren := {
  mixed := by kernel_rfl
  f128 := Try.func105.trans (congrArg some (by kernel_rfl))
  t3 := Try.underlying3
  a3 := Try.isAgg3
  z3 := Try.sizeOf3
  v3 := Try.zeroValue3
  t4 := Try.underlying4
  a4 := Try.isAgg4
  z4 := Try.sizeOf4
  v4 := Try.zeroValue4
  t5 := Try.underlying5
  a5 := Try.isAgg5
  z5 := Try.sizeOf5
  v5 := Try.zeroValue5
  t9 := Try.underlying9
  a9 := Try.isAgg9
  z9 := Try.sizeOf9
  v9 := Try.zeroValue9
  t46 := Try.underlying68
  a46 := Try.isAgg68
  z46 := Try.sizeOf68
  v46 := Try.zeroValue68
  t51 := Try.underlying103
  a51 := Try.isAgg103
  z51 := Try.sizeOf103
  v51 := Try.zeroValue103 }
/-- bits.Len32: "Len32 returns the minimum number of bits required to represent x; the result is 0 for x == 0.": IT RETURNS 'Lib.bitLen x'; the world is as it was. ('h0', 'h1': x is a uint32.) (LAID: no walk: one application.) -/
theorem Try.bits_Len32 (x : Int) (w : World) (h0 : 0 ≤ x) (h1 : x ≤ 4294967295) :
    Calls Try.prog 105 #[.int .u32 x] w fun e w' => e = .returned (.int .i64 (Lib.bitLen x.toNat)) ∧ w' = w := Any.bits_Len32 Try.lays128 x w h0 h1
def Try.lays125_ren : Go.Shelf.Ren := ⟨fun | 125 => 97 | 128 => 105 | 129 => 106 | n => n, fun | 46 => 68 | 3 => 3 | 51 => 103 | 53 => 98 | 4 => 4 | 5 => 5 | 9 => 9 | n => n, fun | n => n⟩
theorem Try.lays125 : Go.Proofs.Lays.n125 Try.prog Try.lays125_ren := {
  mixed := by kernel_rfl
  f125 := Try.func97.trans (congrArg some (by kernel_rfl))
  f128 := Try.func105.trans (congrArg some (by kernel_rfl))
  f129 := Try.func106.trans (congrArg some (by kernel_rfl))
  t3 := Try.underlying3
  a3 := Try.isAgg3
  z3 := Try.sizeOf3
  v3 := Try.zeroValue3
  t4 := Try.underlying4
  a4 := Try.isAgg4
  z4 := Try.sizeOf4
  v4 := Try.zeroValue4
  t5 := Try.underlying5
  a5 := Try.isAgg5
  z5 := Try.sizeOf5
  v5 := Try.zeroValue5
  t9 := Try.underlying9
  a9 := Try.isAgg9
  z9 := Try.sizeOf9
  v9 := Try.zeroValue9
  t46 := Try.underlying68
  a46 := Try.isAgg68
  z46 := Try.sizeOf68
  v46 := Try.zeroValue68
  t51 := Try.underlying103
  a51 := Try.isAgg103
  z51 := Try.sizeOf103
  v51 := Try.zeroValue103
  t53 := Try.underlying98
  a53 := Try.isAgg98
  z53 := Try.sizeOf98
  v53 := Try.zeroValue98 }
/-- bits.Len: "Len returns the minimum number of bits required to represent x; the result is 0 for x == 0.": IT RETURNS 'Lib.bitLen x'; the world is as it was. (A uint has 64 bits in the model.) ITS CALLEE bits.Len64 IS MET BY ITS OWN CONTRACT OFF THE SHELF (lay that first). (LAID: no walk: one application.) -/
theorem Try.bits_Len (x : Int) (w : World) (h0 : 0 ≤ x) (h1 : x ≤ 18446744073709551615) :
    Calls Try.prog 97 #[.int .u64 x] w fun e w' => e = .returned (.int .i64 (Lib.bitLen x.toNat)) ∧ w' = w := Any.bits_Len Try.lays125 x w h0 h1
open Go.RowKit in
/-- (*strings.Builder).Len: "Len returns the number of accumulated bytes; b.Len() == len(b.String()).": the world is as it was. (THE FORM '_f': 'Lib.IsBuilderF'.) (LAID: no walk: one application.) -/
theorem Try.Builder_Len_f (B b : Nat) (bs : List Value) (w : World) (h : Lib.IsBuilderF 74 5 B b bs w) :
    Calls Try.prog 54 #[.pointer (some ⟨b, 0, none⟩)] w fun e w' => e = .returned (.int .i64 bs.length) ∧ w' = w := Any.Builder_Len_f Try.lays170 B b bs w h
open Go.RowKit in
/-- (*strings.Builder).String: "String returns the accumulated string.": OF A BUILDER THAT HOLDS AT LEAST ONE BYTE. ✋ THE MODEL FREEZES THOSE BYTES IN THE BUFFER (unsafe.String): a later write INTO them ends the model's run without an answer; a later append BEHIND them goes on. The statement's order of evaluation is drawn: one draw. THE FORM '_f': IT SAYS BESIDES THAT THE BUILDER IS A BUILDER STILL ('Lib.IsBuilderF', the same bytes): SO IT CAN BE WRITTEN ON: 'b.WriteString(b.String()[:k])'. (LAID: no walk: one application.) -/
theorem Try.Builder_String_f (B b : Nat) (l : List UInt8) (w : World) (h : Lib.IsBuilderF 74 5 B b (Lib.byteCells l) w) (h0 : l ≠ []) :
    Calls Try.prog 55 #[.pointer (some ⟨b, 0, none⟩)] w fun e w' => e = .returned (.string ⟨l.toArray⟩) ∧ (Lib.IsBuilderF 74 5 B b (Lib.byteCells l) w' ∧ Below B w w') := Any.Builder_String_f Try.lays169 Try.Builder_Extra_169 B b l w h h0
open Go.RowKit in
/-- (*strings.Builder).String OF A BUILDER THAT HOLDS NO BYTE: the empty string; THE FORM '_f': a builder still. (LAID: no walk: one application.) -/
theorem Try.Builder_String_empty_f (B b : Nat) (w : World) (h : Lib.IsBuilderF 74 5 B b [] w) (hBw : B ≤ w.heap.size) :
    Calls Try.prog 55 #[.pointer (some ⟨b, 0, none⟩)] w fun e w' => e = .returned (.string ⟨#[]⟩) ∧ (Lib.IsBuilderF 74 5 B b [] w' ∧ Below B w w') := Any.Builder_String_empty_f Try.lays169 Try.Builder_Extra_169 B b w h hBw
open Go.RowKit in
/-- (*strings.Builder).String: "String returns the accumulated string.": WHATEVER THE BUILDER HOLDS; THE FORM '_f': OF A BUILDER THAT MAY HAVE BEEN READ BEFORE; AND IT IS A BUILDER STILL, holding the same bytes: it can be written on. (LAID: no walk: one application.) -/
theorem Try.Builder_String_any_f (B b : Nat) (l : List UInt8) (w : World) (h : Lib.IsBuilderF 74 5 B b (Lib.byteCells l) w) (hBw : B ≤ w.heap.size) :
    Calls Try.prog 55 #[.pointer (some ⟨b, 0, none⟩)] w fun e w' => e = .returned (.string ⟨l.toArray⟩) ∧ (Lib.IsBuilderF 74 5 B b (Lib.byteCells l) w' ∧ Below B w w') := Any.Builder_String_any_f Try.lays169 Try.Builder_Extra_169 B b l w h hBw
def Try.lays129_ren : Go.Shelf.Ren := ⟨fun | 129 => 106 | n => n, fun | 53 => 98 | 3 => 3 | 4 => 4 | 46 => 68 | 5 => 5 | 9 => 9 | n => n, fun | n => n⟩
theorem Try.lays129 : Go.Proofs.Lays.n129 Try.prog Try.lays129_ren := {
  mixed := by kernel_rfl
  f129 := Try.func106.trans (congrArg some (by kernel_rfl))
  t3 := Try.underlying3
  a3 := Try.isAgg3
  z3 := Try.sizeOf3
  v3 := Try.zeroValue3
  t4 := Try.underlying4
  a4 := Try.isAgg4
  z4 := Try.sizeOf4
  v4 := Try.zeroValue4
  t5 := Try.underlying5
  a5 := Try.isAgg5
  z5 := Try.sizeOf5
  v5 := Try.zeroValue5
  t9 := Try.underlying9
  a9 := Try.isAgg9
  z9 := Try.sizeOf9
  v9 := Try.zeroValue9
  t46 := Try.underlying68
  a46 := Try.isAgg68
  z46 := Try.sizeOf68
  v46 := Try.zeroValue68
  t53 := Try.underlying98
  a53 := Try.isAgg98
  z53 := Try.sizeOf98
  v53 := Try.zeroValue98 }
/-- bits.Len64: "Len64 returns the minimum number of bits required to represent x; the result is 0 for x == 0.": IT RETURNS 'Lib.bitLen x'; the world is as it was. ('h0', 'h1': x is a uint64.) (LAID: no walk: one application.) -/
theorem Try.bits_Len64 (x : Int) (w : World) (h0 : 0 ≤ x) (h1 : x ≤ 18446744073709551615) :
    Calls Try.prog 106 #[.int .u64 x] w fun e w' => e = .returned (.int .i64 (Lib.bitLen x.toNat)) ∧ w' = w := Any.bits_Len64 Try.lays129 x w h0 h1
def Try.lays206_ren : Go.Shelf.Ren := ⟨fun | 206 => 78 | n => n, fun | 9 => 9 | 4 => 4 | 3 => 3 | n => n, fun | n => n⟩
theorem Try.lays206 : Go.Proofs.Lays.n206 Try.prog Try.lays206_ren := {
  mixed := by kernel_rfl
  f206 := Try.func78.trans (congrArg some (by kernel_rfl))
  t3 := Try.underlying3
  a3 := Try.isAgg3
  z3 := Try.sizeOf3
  v3 := Try.zeroValue3
  t4 := Try.underlying4
  a4 := Try.isAgg4
  z4 := Try.sizeOf4
  v4 := Try.zeroValue4
  t9 := Try.underlying9
  a9 := Try.isAgg9
  z9 := Try.sizeOf9
  v9 := Try.zeroValue9 }
open Go.RowKit Go.Lib in
/-- internal/stringslite.HasPrefix (what strings.HasPrefix calls). (LAID: no walk: one application.) -/
theorem Try.stringslite_HasPrefix (s p : ByteArray) (w : World) :
    Calls Try.prog 78 #[.string s, .string p] w fun e w' => e = .returned (.bool (Lib.hasPrefix s.data.toList p.data.toList)) ∧ w' = w := Any.stringslite_HasPrefix Try.lays206 s p w
def Try.lays99_ren : Go.Shelf.Ren := ⟨fun | 99 => 51 | 206 => 78 | n => n, fun | 9 => 9 | 4 => 4 | 3 => 3 | n => n, fun | n => n⟩
theorem Try.lays99 : Go.Proofs.Lays.n99 Try.prog Try.lays99_ren := {
  mixed := by kernel_rfl
  f99 := Try.func51.trans (congrArg some (by kernel_rfl))
  f206 := Try.func78.trans (congrArg some (by kernel_rfl))
  t3 := Try.underlying3
  a3 := Try.isAgg3
  z3 := Try.sizeOf3
  v3 := Try.zeroValue3
  t4 := Try.underlying4
  a4 := Try.isAgg4
  z4 := Try.sizeOf4
  v4 := Try.zeroValue4
  t9 := Try.underlying9
  a9 := Try.isAgg9
  z9 := Try.sizeOf9
  v9 := Try.zeroValue9 }
open Go.RowKit Go.Lib in
/-- strings.HasPrefix: "HasPrefix reports whether the string s begins with prefix.": IT RETURNS 'Lib.hasPrefix s prefix'; the world is as it was. (LAID: no walk: one application.) -/
theorem Try.strings_HasPrefix (s p : ByteArray) (w : World) :
    Calls Try.prog 51 #[.string s, .string p] w fun e w' => e = .returned (.bool (Lib.hasPrefix s.data.toList p.data.toList)) ∧ w' = w := Any.strings_HasPrefix Try.lays99 s p w
def Try.lays264_ren : Go.Shelf.Ren := ⟨fun | 264 => 77 | n => n, fun | 53 => 98 | 46 => 68 | n => n, fun | n => n⟩
theorem Try.lays264 : Go.Proofs.Lays.n264 Try.prog Try.lays264_ren := {
  mixed := by kernel_rfl
  f264 := Try.func77.trans (congrArg some (by kernel_rfl))
  t46 := Try.underlying68
  a46 := Try.isAgg68
  z46 := Try.sizeOf68
  v46 := Try.zeroValue68
  t53 := Try.underlying98
  a53 := Try.isAgg98
  z53 := Try.sizeOf98
  v53 := Try.zeroValue98 }
open Go.RowKit Go.Lib in
theorem Try.bits_Mul64 (x y : Nat) (hx : x < 18446744073709551616) (hy : y < 18446744073709551616) (w : World) :
    Calls Try.prog 77 #[.int .u64 x, .int .u64 y] w fun e w' => e = .returned (.tuple #[.int .u64 ((x * y / 18446744073709551616 : Nat) : Int), .int .u64 ((x * y % 18446744073709551616 : Nat) : Int)]) ∧ w' = w := Any.bits_Mul64 Try.lays264 x y hx hy w
def Try.lays212_ren : Go.Shelf.Ren := ⟨fun | 212 => 50 | 263 => 76 | 264 => 77 | n => n, fun | 46 => 68 | 51 => 103 | 146 => 104 | 53 => 98 | 148 => 106 | n => n, fun | n => n⟩
theorem Try.lays212 : Go.Proofs.Lays.n212 Try.prog Try.lays212_ren := {
  mixed := by kernel_rfl
  f212 := Try.func50.trans (congrArg some (by kernel_rfl))
  f263 := Try.func76.trans (congrArg some (by kernel_rfl))
  f264 := Try.func77.trans (congrArg some (by kernel_rfl))
  t46 := Try.underlying68
  a46 := Try.isAgg68
  z46 := Try.sizeOf68
  v46 := Try.zeroValue68
  t51 := Try.underlying103
  a51 := Try.isAgg103
  z51 := Try.sizeOf103
  v51 := Try.zeroValue103
  t53 := Try.underlying98
  a53 := Try.isAgg98
  z53 := Try.sizeOf98
  v53 := Try.zeroValue98
  t146 := Try.underlying104
  a146 := Try.isAgg104
  z146 := Try.sizeOf104
  v146 := Try.zeroValue104
  t148 := Try.underlying106
  a148 := Try.isAgg106
  z148 := Try.sizeOf106
  v148 := Try.zeroValue106 }
open Go.RowKit Go.Lib in
/-- math/bits.Mul: "Mul returns the full-width product of x and y": on a machine of 64 bits: Mul64's. (LAID: no walk: one application.) -/
theorem Try.bits_Mul (x y : Nat) (hx : x < 18446744073709551616) (hy : y < 18446744073709551616) (w : World) :
    Calls Try.prog 50 #[.int .u64 x, .int .u64 y] w fun e w' => e = .returned (.tuple #[.int .u64 ((x * y / 18446744073709551616 : Nat) : Int), .int .u64 ((x * y % 18446744073709551616 : Nat) : Int)]) ∧ w' = w := Any.bits_Mul Try.lays212 x y hx hy w
def Try.lays105_ren : Go.Shelf.Ren := ⟨fun | 105 => 24 | 212 => 50 | 99 => 51 | 165 => 52 | 166 => 53 | 170 => 54 | 169 => 55 | 263 => 76 | 264 => 77 | 206 => 78 | 240 => 79 | 241 => 80 | 276 => 90 | 277 => 91 | n => n, fun | 9 => 9 | 3 => 3 | 4 => 4 | 20 => 20 | 0 => 0 | 46 => 68 | 109 => 69 | 5 => 5 | 72 => 74 | 76 => 78 | 51 => 103 | 146 => 104 | 53 => 98 | 148 => 106 | 70 => 72 | 37 => 40 | 75 => 77 | 127 => 108 | 164 => 112 | 80 => 81 | n => n, fun | n => n⟩
theorem Try.lays105 : Go.Proofs.Lays.n105 Try.prog Try.lays105_ren := {
  mixed := by kernel_rfl
  f99 := Try.func51.trans (congrArg some (by kernel_rfl))
  f105 := Try.func24.trans (congrArg some (by kernel_rfl))
  f165 := Try.func52.trans (congrArg some (by kernel_rfl))
  f166 := Try.func53.trans (congrArg some (by kernel_rfl))
  f169 := Try.func55.trans (congrArg some (by kernel_rfl))
  f170 := Try.func54.trans (congrArg some (by kernel_rfl))
  f206 := Try.func78.trans (congrArg some (by kernel_rfl))
  f212 := Try.func50.trans (congrArg some (by kernel_rfl))
  f240 := Try.func79.trans (congrArg some (by kernel_rfl))
  f241 := Try.func80.trans (congrArg some (by kernel_rfl))
  f263 := Try.func76.trans (congrArg some (by kernel_rfl))
  f264 := Try.func77.trans (congrArg some (by kernel_rfl))
  f276 := Try.func90.trans (congrArg some (by kernel_rfl))
  f277 := Try.func91.trans (congrArg some (by kernel_rfl))
  t0 := Try.underlying0
  a0 := Try.isAgg0
  z0 := Try.sizeOf0
  v0 := Try.zeroValue0
  t3 := Try.underlying3
  a3 := Try.isAgg3
  z3 := Try.sizeOf3
  v3 := Try.zeroValue3
  t4 := Try.underlying4
  a4 := Try.isAgg4
  z4 := Try.sizeOf4
  v4 := Try.zeroValue4
  t5 := Try.underlying5
  a5 := Try.isAgg5
  z5 := Try.sizeOf5
  v5 := Try.zeroValue5
  t9 := Try.underlying9
  a9 := Try.isAgg9
  z9 := Try.sizeOf9
  v9 := Try.zeroValue9
  t20 := Try.underlying20
  a20 := Try.isAgg20
  z20 := Try.sizeOf20
  v20 := Try.zeroValue20
  t37 := Try.underlying40
  a37 := Try.isAgg40
  z37 := Try.sizeOf40
  v37 := Try.zeroValue40
  t46 := Try.underlying68
  a46 := Try.isAgg68
  z46 := Try.sizeOf68
  v46 := Try.zeroValue68
  t51 := Try.underlying103
  a51 := Try.isAgg103
  z51 := Try.sizeOf103
  v51 := Try.zeroValue103
  t53 := Try.underlying98
  a53 := Try.isAgg98
  z53 := Try.sizeOf98
  v53 := Try.zeroValue98
  t70 := Try.underlying72
  a70 := Try.isAgg72
  z70 := Try.sizeOf72
  v70 := Try.zeroValue72
  t72 := Try.underlying74
  a72 := Try.isAgg74
  z72 := Try.sizeOf74
  v72 := Try.zeroValue74
  t75 := Try.underlying77
  a75 := Try.isAgg77
  z75 := Try.sizeOf77
  v75 := Try.zeroValue77
  t76 := Try.underlying78
  a76 := Try.isAgg78
  z76 := Try.sizeOf78
  v76 := Try.zeroValue78
  t109 := Try.underlying69
  a109 := Try.isAgg69
  z109 := Try.sizeOf69
  v109 := Try.zeroValue69
  t127 := Try.underlying108
  a127 := Try.isAgg108
  z127 := Try.sizeOf108
  v127 := Try.zeroValue108
  t146 := Try.underlying104
  a146 := Try.isAgg104
  z146 := Try.sizeOf104
  v146 := Try.zeroValue104
  t148 := Try.underlying106
  a148 := Try.isAgg106
  z148 := Try.sizeOf106
  v148 := Try.zeroValue106
  t164 := Try.underlying112
  a164 := Try.isAgg112
  z164 := Try.sizeOf112
  v164 := Try.zeroValue112 }
theorem Try.Builder_Extra_105 : Builder.Extra Try.prog Try.lays105_ren := {
  sizeBuilder := by kernel_rfl
  liesBuilder := by kernel_rfl
  t5 := Try.underlying5
  a5 := Try.isAgg5
  z5 := Try.sizeOf5
  v5 := Try.zeroValue5
  infoByte := by kernel_rfl
  cellsByte := by kernel_rfl
  sizeByte := by kernel_rfl
  neB5 := by decide }
open Go.RowKit Go.Lib in
/-- THE MAIN CASE: at least two copies of a string that is not empty. (LAID: no walk: one application.) -/
theorem Try.strings_Repeat_main (s : ByteArray) (c : Nat) (w : World) (hc2 : 2 ≤ c) (hc : c ≤ 9223372036854775807) (hlen : s.size * c ≤ 140737488355328) (h0 : 0 < s.size) :
    Calls Try.prog 24 #[.string s, .int .i64 c] w fun e w' => e = .returned (.string ⟨(Lib.repeatL s.data.toList c).toArray⟩) ∧ Below w.heap.size w w' := Any.strings_Repeat_main Try.lays105 Try.Builder_Extra_105 s c w hc2 hc hlen h0
open Go.RowKit Go.Lib in
theorem Try.strings_Repeat_zero (s : ByteArray) (w : World) :
    Calls Try.prog 24 #[.string s, .int .i64 0] w fun e w' => e = .returned (.string ⟨#[]⟩) ∧ w' = w := Any.strings_Repeat_zero Try.lays105 s w
open Go.RowKit Go.Lib in
theorem Try.strings_Repeat_one (s : ByteArray) (w : World) :
    Calls Try.prog 24 #[.string s, .int .i64 1] w fun e w' => e = .returned (.string s) ∧ w' = w := Any.strings_Repeat_one Try.lays105 s w
open Go.RowKit Go.Lib in
/-- Copies of the empty string. (LAID: no walk: one application.) -/
theorem Try.strings_Repeat_empty (s : ByteArray) (c : Nat) (w : World) (hc2 : 2 ≤ c) (hc : c ≤ 9223372036854775807) (h0 : s.size = 0) :
    Calls Try.prog 24 #[.string s, .int .i64 c] w fun e w' => e = .returned (.string ⟨#[]⟩) ∧ w' = w := Any.strings_Repeat_empty Try.lays105 s c w hc2 hc h0
open Go.RowKit Go.Lib in
/-- count < 0: "It panics if count is negative". (LAID: no walk: one application.) -/
theorem Try.strings_Repeat_negative (s : ByteArray) (c : Int) (w : World) (hc : c < 0) :
    Calls Try.prog 24 #[.string s, .int .i64 c] w fun e w' => e = .panicked [{ v := repeatPanic Try.lays105_ren "strings: negative Repeat count", recovered := false }] ∧ w' = w := Any.strings_Repeat_negative Try.lays105 s c w hc
open Go.RowKit Go.Lib in
/-- len(s) * count is no int: ".. or if the result of (len(s) * count) overflows". (LAID: no walk: one application.) -/
theorem Try.strings_Repeat_overflow (s : ByteArray) (c : Nat) (w : World) (hc : c ≤ 9223372036854775807) (hs : s.size ≤ 9223372036854775807) (hbig : 9223372036854775807 < s.size * c) :
    Calls Try.prog 24 #[.string s, .int .i64 c] w fun e w' => e = .panicked [{ v := repeatPanic Try.lays105_ren "strings: Repeat output length overflow", recovered := false }] ∧ w' = w := Any.strings_Repeat_overflow Try.lays105 s c w hc hs hbig
open Go.RowKit Go.Lib in
/-- **strings.Repeat: count ≥ 0, the result within one allocation: count copies of s.** (LAID: no walk: one application.) -/
theorem Try.strings_Repeat (s : ByteArray) (c : Nat) (w : World) (hc : c ≤ 9223372036854775807) (hlen : s.size * c ≤ 140737488355328) :
    Calls Try.prog 24 #[.string s, .int .i64 c] w fun e w' => e = .returned (.string ⟨(Lib.repeatL s.data.toList c).toArray⟩) ∧ Below w.heap.size w w' := Any.strings_Repeat Try.lays105 Try.Builder_Extra_105 s c w hc hlen
end Go.Proofs

-- Bytes
namespace Go.Proofs.Ytbgnkjaikbhdoaa.Bytes
set_option linter.unusedSimpArgs false
set_option linter.unusedVariables false
open Go.RowKit

abbrev Str (l : List UInt8) : ByteArray := ⟨l.toArray⟩
def B (c : UInt8) : Value := .int .u8 (c.toNat : Int)

/-- The first cells of block g are these bytes, and may be written. -/
def ByteRow (w : World) (g : Nat) (l : List UInt8) : Prop :=
  ∀ j, j < l.length → w.cell? ⟨g, j, none⟩ = some (.int .u8 ((l.getD j 0).toNat : Int)) ∧ w.frozen? ⟨g, j, none⟩ = false

theorem ByteRow.conv (w : World) (e : TypeId) (l : List UInt8) : ByteRow (Lib.bytesWorld w e (Str l)) w.heap.size l := by
  intro j hj
  have hs : (Str l).size = l.length := by show l.toArray.size = _; simp
  refine ⟨by rw [Lib.bytesWorld_cell w e _ j (by omega)], ?_⟩
  have h := Lib.bytesWorld_at_new w e (Str l)
  have hc : (Lib.bytesCells w e (Str l)).size = l.length + (grownCap w (Str l).size 0 e - (Str l).size) := by
    simp [Lib.bytesCells]
  simp only [World.frozen?, h]
  simp
  omega
theorem ByteRow.below {w w1 : World} {g : Nat} {l : List UInt8} (h : ByteRow w g l) (hb : Below w.heap.size w w1) (hg : g < w.heap.size) : ByteRow w1 g l := by
  intro j hj
  obtain ⟨h1, h2⟩ := h j hj
  exact ⟨by rw [hb.cell (p := ⟨g, j, none⟩) hg]; exact h1, by rw [hb.frozen (p := ⟨g, j, none⟩) hg]; exact h2⟩
theorem ByteRow.drewN {w : World} {g : Nat} {l : List UInt8} (h : ByteRow w g l) (n : Nat) : ByteRow (w.drewN n) g l := h
theorem ByteRow.drew {w : World} {g : Nat} {l : List UInt8} (h : ByteRow w g l) : ByteRow w.drew g l := h
theorem ByteRow.set {w : World} {g : Nat} {l : List UInt8} (h : ByteRow w g l) (k : Nat) (hk : k < l.length) (c : UInt8) : ByteRow (w.setCell ⟨g, k, none⟩ (.int .u8 (c.toNat : Int))) g (l.set k c) := by
  intro j hj
  rw [List.length_set] at hj
  obtain ⟨h1, h2⟩ := h j hj
  obtain ⟨h3, _⟩ := h k hk
  refine ⟨?_, by rw [World.frozen?_setCell]; exact h2⟩
  by_cases e : k = j
  · subst e
    rw [World.cell?_setCell_same _ _ _ h3]
    simp [List.getD, hk]
  · rw [World.cell?_setCell_other _ _ _ _ (by intro h; injection h with _ h _; exact e h), h1]
    simp [List.getD, List.getElem?_set, e]
theorem nums_back (l : List UInt8) : strOfNums (l.map fun c => (c.toNat : Int)) = Str l := by
  unfold strOfNums
  congr 1
  rw [List.map_map]
  have : List.map ((fun n : Int => UInt8.ofNat n.toNat) ∘ fun c : UInt8 => (c.toNat : Int)) l = l := by
    conv => rhs; rw [← List.map_id l]
    apply List.map_congr_left
    intro c _
    simp
  rw [this]
theorem ByteRow.text {P : Program} {w : World} {g : Nat} {l : List UInt8} (h : ByteRow w g l) (cap : Nat) (src e dst : TypeId) (hs : P.underlying src = some (.slice e)) (he : P.underlying e = some (.int .u8)) (hd : P.underlying dst = some .string) :
    (convert src dst (.slice (some ⟨g, 0, none⟩) l.length cap)).run P w = .ok (.string (Str l)) w := by
  have := run_convert_bytes_arg w src e hs he g 0 l.length cap (l.map fun c => (c.toNat : Int)) (by simp) (fun i hi => by
    rw [Nat.zero_add, (h i hi).1]; congr 2
    simp [List.getD, List.getElem?_map, List.getElem?_eq_getElem hi]) dst hd
  rw [this]
  congr 2
  unfold strOfNums
  congr 1
  rw [List.map_map]
  have : List.map ((fun n : Int => UInt8.ofNat n.toNat) ∘ fun c : UInt8 => (c.toNat : Int)) l = l := by
    conv => rhs; rw [← List.map_id l]
    apply List.map_congr_left
    intro c _
    simp
  rw [this]
end Go.Proofs.Ytbgnkjaikbhdoaa.Bytes

-- WrAll
namespace Go.Proofs.Ytbgnkjaikbhdoaa.WrAll
open Go.RowKit Go.Proofs.Ytbgnkjaikbhdoaa.Pack Go.Proofs.Ytbgnkjaikbhdoaa.Wr Go.Proofs.Ytbgnkjaikbhdoaa.WrPut
open Go.Proofs.Ytbgnkjaikbhdoaa.Bytes (Str)

theorem new_any {B : Nat} (w : World) (hB : B ≤ w.heap.size) :
    Calls Try.prog 26 #[] w fun e w' => e = .returned (.pointer (some ⟨w.heap.size, 0, none⟩)) ∧ Wr B [] w' w.heap.size [] 0 ∧ Below w.heap.size w w' := by
  have hw : Wr B [] (w.alloc (.cells #[.slice none 0 0, .int .i64 0, .int .i64 0] TW)) w.heap.size [] 0 :=
    ⟨hB, ⟨.slice none 0 0, heap_alloc_new _ _, ⟨rfl, .inl ⟨rfl, rfl⟩⟩⟩, fun p hp => by cases hp⟩
  have HW := Lib.hid hw
  clear hw
  go_enter Try.func26, Try.ntmps26
  go_wp2
  go_ret
  exact ⟨rfl, HW.out, (Below.refl _ _).alloc (Nat.le_refl _) _⟩

set_option maxHeartbeats 1000000 in
theorem field_ok {B g : Nat} {G : List (Nat × Obj)} {w : World} {bs : List Bool} (h : Wr B G w g bs 0) (k : Nat) (hk : k ≤ 64) (n : Int) (m : Nat) (hm : U64 m) (hc : IntKind.u64.wrap n = (m : Int)) (hn : bs.length + k ≤ 524288) :
    Calls Try.prog 95 #[.pointer (some ⟨g, 0, none⟩), .bool true, .bool true, .int .i64 (k : Int), .int .i64 n] w fun e w' => e = .returned (.tuple #[]) ∧ Wr B G w' g (bs ++ bitsN k m) 0 ∧ Below B w w' := by
  obtain ⟨v, c0, c1, c2, hf, _, _⟩ := WrL.cells h
  have P := put_any h k hk m hm (by omega)
  have HP := Lib.hid P
  have HC := Lib.hid hc
  clear P c0 hf h hc
  go_enter Try.func95, Try.ntmps95
  go_wp2_with fail
  rw [HC.out]
  refine HP.out.mono ?_
  rintro e w1 ⟨rfl, h1, h2⟩
  have H1 := Lib.hid h1
  clear h1
  go_wp2_with fail
  go_end0
  exact ⟨rfl, H1.out, h2⟩
theorem wrap_small (n : Int) (h0 : 0 ≤ n) (h1 : n ≤ 9223372036854775807) : IntKind.u64.wrap n = (n.toNat : Int) := by
  simp only [IntKind.wrap, IntKind.bits, IntKind.signed]; simp; omega
theorem bitLen_le (n k : Nat) (h : n < 2 ^ k) : Lib.bitLen n ≤ k := by
  have : ∀ f n k, n < 2 ^ k → Lib.bitLenAux f n ≤ k := by
    intro f
    induction f with
    | zero => intro n k _; simp [Lib.bitLenAux]
    | succ f ih =>
      intro n k h
      unfold Lib.bitLenAux
      split
      · omega
      · cases k with
        | zero => simp at h; omega
        | succ k => have := ih (n / 2) k (by rw [Nat.pow_succ] at h; omega); omega
  exact this _ _ _ h

set_option maxHeartbeats 1000000 in
theorem unsigned_ok {B g : Nat} {G : List (Nat × Obj)} {w : World} {bs : List Bool} (h : Wr B G w g bs 0) (k : Nat) (hk1 : 1 ≤ k) (hk : k ≤ 63) (n : Int) (h0 : 0 ≤ n) (h1 : n ≤ 4611686018427387903) (h2 : n.toNat < 2 ^ k) (hn : bs.length + k ≤ 524288) :
    Calls Try.prog 85 #[.pointer (some ⟨g, 0, none⟩), .int .i64 (k : Int), .int .i64 n] w fun e w' => e = .returned (.tuple #[]) ∧ Wr B G w' g (bs ++ bitsN k n.toNat) 0 ∧ Below B w w' := by
  have hl : ((Lib.bitLen n.toNat : Nat) : Int) ≤ (k : Int) := by have := bitLen_le _ _ h2; omega
  have PL := fun w => Try.bits_Len n w h0 (by omega)
  have PF := field_ok h k (by omega) n n.toNat (by unfold U64; omega) (wrap_small n h0 (by omega)) hn
  have HL := Lib.hid PL
  have HF := Lib.hid PF
  clear PL PF h2 h
  go_enter Try.func85, Try.ntmps85
  go_wp2_with fail
  refine (HL.out _).mono ?_
  rintro e w1 ⟨rfl, rfl⟩
  go_wp2_with fail
  refine HF.out.mono ?_
  rintro e w1 ⟨rfl, h1, h2⟩
  have H1 := Lib.hid h1
  clear h1
  go_wp2_with fail
  go_end0
  exact ⟨rfl, H1.out, h2⟩

set_option maxHeartbeats 1000000 in
theorem flag_ok {B g : Nat} {G : List (Nat × Obj)} {w : World} {bs : List Bool} (h : Wr B G w g bs 0) (b : Bool) (hn : bs.length + 1 ≤ 524288) :
    Calls Try.prog 87 #[.pointer (some ⟨g, 0, none⟩), .bool b] w fun e w' => e = .returned (.tuple #[]) ∧ Wr B G w' g (bs ++ [b]) 0 ∧ Below B w w' := by
  have PF := field_ok h 1 (by omega) (if b then 1 else 0) (if b then 1 else 0) (by unfold U64; split <;> omega) (by cases b <;> rfl) hn
  rw [show bitsN 1 (if b then 1 else 0) = [b] by cases b <;> rfl] at PF
  have HF := Lib.hid PF
  clear PF h
  cases b
  all_goals
    go_enter Try.func87, Try.ntmps87
    go_wp2_with fail
    refine HF.out.mono ?_
    rintro e w1 ⟨rfl, h1, h2⟩
    have H1 := Lib.hid h1
    clear h1
    go_wp2_with fail
    go_end0
    exact ⟨rfl, H1.out, h2⟩

set_option maxHeartbeats 1000000 in
theorem signed_ok {B g : Nat} {G : List (Nat × Obj)} {w : World} {bs : List Bool} (h : Wr B G w g bs 0) (n : Int) (h0 : -32768 ≤ n) (h1 : n ≤ 32767) (hn : bs.length + 16 ≤ 524288) :
    Calls Try.prog 83 #[.pointer (some ⟨g, 0, none⟩), .int .i64 16, .int .i64 n] w fun e w' => e = .returned (.tuple #[]) ∧ Wr B G w' g (bs ++ bitsN 16 (n % 18446744073709551616).toNat) 0 ∧ Below B w w' := by
  have PF := field_ok h 16 (by omega) n (n % 18446744073709551616).toNat (by unfold U64; omega) (by simp only [IntKind.wrap, IntKind.bits, IntKind.signed]; simp; omega) hn
  have HF := Lib.hid PF
  clear PF h
  generalize (n % 18446744073709551616).toNat = m at HF ⊢
  have hmx : (max (16 : Int) 1) = 16 := by decide
  go_enter Try.func83, Try.ntmps83
  go_wp2_with fail
  refine HF.out.mono ?_
  rintro e w1 ⟨rfl, h1, h2⟩
  have H1 := Lib.hid h1
  clear h1
  go_wp2_with fail
  go_end0
  exact ⟨rfl, H1.out, h2⟩

set_option maxHeartbeats 1000000 in
theorem bytes_ok {B g : Nat} {G : List (Nat × Obj)} {w : World} {bs : List Bool} (h : Wr B G w g bs 0) :
    Calls Try.prog 28 #[.pointer (some ⟨g, 0, none⟩)] w fun e w' => e = .returned (.tuple #[.string (Str (pack bs)), .int .i64 0]) ∧ w = w' := by
  obtain ⟨v, c0, c1, c2, hf, hown, _⟩ := WrL.cells h
  have hconv : (convert 40 9 v).run Try.prog w = .ok (.string (Str (pack bs))) w := by
    by_cases h0 : (pack bs).length = 0
    · have e : pack bs = [] := List.eq_nil_of_length_eq_zero h0
      rw [e] at hown ⊢
      rcases hown.2 with ⟨rfl, _⟩ | ⟨gr, cap, cur, rfl, _, b3, _, _, _, _⟩
      · rw [run_convert_bytes_nil w 40 5 Try.underlying40 Try.underlying5 0 0 9 Try.underlying9]; rfl
      · have := Bytes.ByteRow.text (P := Try.prog) (w := w) (g := gr) (l := []) (fun j hj => by simp at hj) cap 40 5 9 Try.underlying40 Try.underlying5 Try.underlying9
        exact this
    · obtain ⟨gr, cap, rfl, hcell⟩ := WrL.row_cells hown (by omega)
      have := run_convert_bytes_arg w 40 5 Try.underlying40 Try.underlying5 gr 0 (pack bs).length cap ((pack bs).map fun c => (c.toNat : Int)) (by simp) (fun i hi => by
        rw [Nat.zero_add, hcell i hi]; congr 2
        simp [List.getD, List.getElem?_map, List.getElem?_eq_getElem hi]) 9 Try.underlying9
      rw [this, Bytes.nums_back]
  clear hown h
  go_enter Try.func28, Try.ntmps28
  go_wp2
  go_ret2
  exact ⟨rfl, rfl⟩
set_option maxHeartbeats 1000000 in
theorem bytes_err {B g : Nat} {G : List (Nat × Obj)} {w : World} {bs : List Bool} (h : Wr B G w g bs 8) :
    Calls Try.prog 28 #[.pointer (some ⟨g, 0, none⟩)] w fun e w' => e = .returned (.tuple #[.string ⟨#[]⟩, .int .i64 8]) ∧ ∃ n, w' = w.drewN n := by
  obtain ⟨v, c0, c1, c2, hf, hown, _⟩ := WrL.cells h
  clear hown h
  go_enter Try.func28, Try.ntmps28
  go_wp2
  go_quiet (fail)
  go_wp2
  go_ret2
  exact ⟨rfl, _, rfl⟩
end Go.Proofs.Ytbgnkjaikbhdoaa.WrAll

-- Rd
namespace Go.Proofs.Ytbgnkjaikbhdoaa.Rd
set_option linter.unusedSimpArgs false
set_option linter.unusedVariables false
open Go.RowKit Go.Proofs.Ytbgnkjaikbhdoaa.Pack Go.Proofs.Ytbgnkjaikbhdoaa.WrPut
open Go.Proofs.Ytbgnkjaikbhdoaa.Bytes (Str)

/-- k bits from place i on. -/
def bitsAt (l : List UInt8) (i k : Nat) : List Bool := (List.range k).map fun j => bitAt l (i + j)
theorem bitsAt_length (l : List UInt8) (i k : Nat) : (bitsAt l i k).length = k := by simp [bitsAt]
theorem bitsAt_succ (l : List UInt8) (i k : Nat) : bitsAt l i (k + 1) = bitsAt l i k ++ [bitAt l (i + k)] := by
  simp [bitsAt, List.range_succ]
theorem val_lt (l : List UInt8) (i k : Nat) : valN (bitsAt l i k) < 2 ^ k := by
  have := valN_lt (bitsAt l i k); rwa [bitsAt_length] at this

theorem bel_drewN (B : Nat) (w : World) (n : Nat) : Below B w (w.drewN n) := ⟨rfl, rfl, rfl, Nat.le_refl _, fun _ _ => rfl⟩
abbrev TR : TypeId := 97
abbrev TRc (l : List UInt8) (i : Nat) (e : Int) : Array Value := #[.string (Str l), .int .i64 (i : Int), .int .i64 e]
/-- BLOCK g IS A READER of the bytes l at place i with the error e; the blocks of G hold what is listed; the reader lies from block B on. -/
def Rd (B : Nat) (G : List (Nat × Obj)) (w : World) (g : Nat) (l : List UInt8) (i : Nat) (e : Int) : Prop :=
  B ≤ g ∧ w.heap[g]? = some (.cells (TRc l i e) TR (0, 0)) ∧ ∀ p ∈ G, w.heap[p.1]? = some p.2 ∧ p.1 ≠ g
variable {B g i : Nat} {G : List (Nat × Obj)} {w : World} {l : List UInt8} {e : Int}
theorem Rd.lt (h : Rd B G w g l i e) : g < w.heap.size := (Array.getElem?_eq_some_iff.1 h.2.1).1
theorem Rd.guest (h : Rd B G w g l i e) {k : Nat} {o : Obj} (hk : (k, o) ∈ G) : w.heap[k]? = some o := (h.2.2 _ hk).1
theorem Rd.guest_lt (h : Rd B G w g l i e) {k : Nat} {o : Obj} (hk : (k, o) ∈ G) : k < w.heap.size := (Array.getElem?_eq_some_iff.1 (h.guest hk)).1
theorem Rd.alloc (h : Rd B G w g l i e) (o : Obj) : Rd B G (w.alloc o) g l i e := by
  have hlt := h.lt
  refine ⟨h.1, by rw [heap_alloc_old _ _ hlt]; exact h.2.1, fun p hp => ?_⟩
  obtain ⟨a, b⟩ := h.2.2 p hp
  exact ⟨by rw [heap_alloc_old _ _ (Array.getElem?_eq_some_iff.1 a).1]; exact a, b⟩
/-- A new block joins the guests. -/
theorem Rd.allocG (h : Rd B G w g l i e) (o : Obj) : Rd B ((w.heap.size, o) :: G) (w.alloc o) g l i e := by
  have hlt := h.lt
  have h2 := h.alloc o
  refine ⟨h2.1, h2.2.1, fun p hp => ?_⟩
  rcases List.mem_cons.1 hp with rfl | hp
  · exact ⟨heap_alloc_new _ _, by simp only; omega⟩
  · exact h2.2.2 p hp
theorem Rd.drop {p : Nat × Obj} (h : Rd B (p :: G) w g l i e) : Rd B G w g l i e := ⟨h.1, h.2.1, fun q hq => h.2.2 q (List.mem_cons_of_mem _ hq)⟩
theorem Rd.drew (h : Rd B G w g l i e) : Rd B G w.drew g l i e := h
theorem Rd.drewN (h : Rd B G w g l i e) (k : Nat) : Rd B G (w.drewN k) g l i e := h
/-- A store into a guest that stands first. -/
theorem Rd.putG {k : Nat} {cs cs' : Array Value} {t : TypeId} (h : Rd B ((k, .cells cs t (0, 0)) :: G) w g l i e) (hk : ∀ p ∈ G, p.1 ≠ k) {j : Nat} {x : Value} (hc : cs.setIfInBounds j x = cs') :
    Rd B ((k, .cells cs' t (0, 0)) :: G) (w.setCell ⟨k, j, none⟩ x) g l i e := by
  obtain ⟨h1, h2, h3⟩ := h
  obtain ⟨a, b⟩ := h3 _ (.head _)
  refine ⟨h1, by rw [heap_setCell_other _ _ _ _ (by simpa using Ne.symm b)]; exact h2, fun p hp => ?_⟩
  rcases List.mem_cons.1 hp with rfl | hp
  · exact ⟨by rw [heap_setCell_same _ _ _ _ _ _ a, hc], b⟩
  · obtain ⟨c, d⟩ := h3 p (List.mem_cons_of_mem _ hp)
    exact ⟨by rw [heap_setCell_other _ _ _ _ (by simpa using hk p hp)]; exact c, d⟩
theorem Rd.cellG {k : Nat} {cs : Array Value} {t : TypeId} (h : Rd B G w g l i e) (hk : (k, .cells cs t (0, 0)) ∈ G) {j : Nat} {x : Value} (hj : cs[j]? = some x) : w.cell? ⟨k, j, none⟩ = some x ∧ w.frozen? ⟨k, j, none⟩ = false := by
  have := h.guest hk
  exact ⟨by rw [cell_of_row _ _ _ _ _ _ this]; exact hj, frozen_of_row _ _ _ _ _ this⟩
theorem Rd.sub {G' : List (Nat × Obj)} (h : Rd B G w g l i e) (hs : ∀ p ∈ G', p ∈ G) : Rd B G' w g l i e := ⟨h.1, h.2.1, fun p hp => h.2.2 p (hs p hp)⟩
/-- Other memory is made; nothing that was there is touched. -/
theorem Rd.below {w' : World} (h : Rd B G w g l i e) (hb : Below w.heap.size w w') : Rd B G w' g l i e := by
  refine ⟨h.1, by rw [hb.block _ h.lt]; exact h.2.1, fun p hp => ?_⟩
  obtain ⟨a, b⟩ := h.2.2 p hp
  exact ⟨by rw [hb.block _ (Array.getElem?_eq_some_iff.1 a).1]; exact a, b⟩
theorem Rd.cells (h : Rd B G w g l i e) : w.cell? ⟨g, 0, none⟩ = some (.string (Str l)) ∧ w.cell? ⟨g, 1, none⟩ = some (.int .i64 (i : Int)) ∧ w.cell? ⟨g, 2, none⟩ = some (.int .i64 e) ∧ ∀ j, w.frozen? ⟨g, j, none⟩ = false := by
  refine ⟨?_, ?_, ?_, fun j => frozen_of_row _ _ _ _ _ h.2.1⟩
  · rw [cell_of_row _ _ _ _ _ _ h.2.1]; rfl
  · rw [cell_of_row _ _ _ _ _ _ h.2.1]; rfl
  · rw [cell_of_row _ _ _ _ _ _ h.2.1]; rfl
/-- A store into the reader's own block. -/
theorem Rd.put (h : Rd B G w g l i e) {j : Nat} {x : Value} {i' : Nat} {e' : Int} (he : (TRc l i e).setIfInBounds j x = TRc l i' e') :
    Rd B G (w.setCell ⟨g, j, none⟩ x) g l i' e' := by
  refine ⟨h.1, by rw [heap_setCell_same _ _ _ _ _ _ h.2.1, he], fun p hp => ?_⟩
  obtain ⟨a, b⟩ := h.2.2 p hp
  exact ⟨by rw [heap_setCell_other _ _ _ _ b]; exact a, b⟩
theorem Rd.step (h : Rd B G w g l i e) : Rd B G (w.setCell ⟨g, 1, none⟩ (.int .i64 ((i : Int) + 1))) g l (i + 1) e := h.put rfl

/-- The number with one bit more. -/
theorem bit_val (l : List UInt8) (i x : Nat) (hx : (l.getD (i / 8) 0).toNat = x) (z : Int) (hz : (x : Int) / 2 ^ (7 - i % 8) = z) (v : Nat) (hv : v < 9223372036854775808) :
    Go.bits .or .u64 (IntKind.u64.wrap ((v : Int) * 2)) (IntKind.u64.wrap (Go.bits .and .u8 z 1)) = ((2 * v + (if bitAt l i then 1 else 0) : Nat) : Int) := by
  unfold bitAt
  rw [hx]
  have hb : x < 256 := by rw [← hx]; exact (l.getD (i / 8) 0).toNat_lt
  have e1 : z = ((x / 2 ^ (7 - i % 8) : Nat) : Int) := by rw [← hz]; simp
  have hl : x / 2 ^ (7 - i % 8) < 256 := Nat.lt_of_le_of_lt (Nat.div_le_self _ _) hb
  rw [e1, show (1 : Int) = ((1 : Nat) : Int) from rfl, u8_and_nat _ _ hl (by decide), nat_mask1, Nat.testBit_eq_decide_div_mod_eq]
  generalize x / 2 ^ (7 - i % 8) = c
  have e2 : IntKind.u64.wrap ((c % 2 : Nat) : Int) = ((c % 2 : Nat) : Int) := by rw [IntKind.wrap_u64]; omega
  have e3 : IntKind.u64.wrap ((v : Int) * 2) = ((2 * v : Nat) : Int) := by rw [IntKind.wrap_u64]; omega
  rw [e2, e3, u64_or_nat _ _ (by omega) (by omega)]
  congr 1
  have : 2 * v ||| c % 2 = 2 * v + c % 2 := by
    have := Nat.two_pow_add_eq_or_of_lt (i := 1) (b := c % 2) (by omega) v
    rw [show 2 ^ 1 * v = 2 * v by omega] at this
    exact this.symm
  rw [this]
  by_cases hc : c % 2 = 1
  · simp [hc]
  · have : c % 2 = 0 := by omega
    simp [this]

set_option maxRecDepth 100000 in
set_option maxHeartbeats 2000000 in
theorem get_any (h : Rd B G w g l i e) (hs : l.length ≤ 65536) (k : Nat) (hk : k ≤ 64) (hi : i + k ≤ 8 * l.length) :
    Calls Try.prog 70 #[.pointer (some ⟨g, 0, none⟩), .int .i64 (k : Int)] w fun r w' => r = .returned (.int .u64 (valN (bitsAt l i k) : Int)) ∧ Rd B G w' g l (i + k) e ∧ Below B w w' := by
  have HH := Lib.hid h
  have hB := h.1
  clear h
  go_enter Try.func70, Try.ntmps70
  go_wp2
  go_loopw [5, 7] (fun n j wr => ∃ q : Nat, q ≤ k ∧ j = .int .i64 q ∧ n = .int .u64 (valN (bitsAt l i q) : Int) ∧ Hid (Rd B G wr g l (i + q) e) ∧ Hid (Below B w wr)) (fun _ j _ => k - (intOf j).toNat)
  case atStart => exact ⟨0, Nat.zero_le _, rfl, by simp [bitsAt, valN], HH, Lib.hid (Below.refl _ _)⟩
  case round =>
    clear HH
    obtain ⟨q, hq, rfl, rfl, HR, HB⟩ := hrel
    obtain ⟨c0, c1, c2, hf⟩ := Rd.cells HR.out
    by_cases hlt : q < k
    · obtain ⟨m, hm⟩ : ∃ m, m = i + q := ⟨_, rfl⟩
      have hmx : m < 8 * l.length := by omega
      rw [← hm] at c1 HR
      have hs8 : (Str l).size = l.length := by show l.toArray.size = _; simp
      obtain ⟨a, ha⟩ : ∃ a : Int, IntKind.i64.wrap ((m : Int) / 8) = a := ⟨_, rfl⟩
      obtain ⟨b, hb⟩ : ∃ b : Int, IntKind.i64.wrap (7 - (m : Int) % 8) = b := ⟨_, rfl⟩
      have ha2 : a = ((m / 8 : Nat) : Int) := by rw [← ha, IntKind.wrap_i64]; omega
      have hb2 : b = ((7 - m % 8 : Nat) : Int) := by rw [← hb, IntKind.wrap_i64]; omega
      have p1 : (0 ≤ a) = True := eq_true (by omega)
      have p2 : (a < ((Str l).size : Int)) = True := eq_true (by rw [hs8]; omega)
      have p22 : (a < (l.length : Int)) = True := eq_true (by omega)
      have p3 : (0 ≤ b) = True := eq_true (by omega)
      obtain ⟨x, hx⟩ : ∃ x : Nat, (l.getD (m / 8) 0).toNat = x := ⟨_, rfl⟩
      have hx2 : ∀ h : a.toNat < (Str l).size, ((Str l)[a.toNat]'h).toNat = x := by
        intro h
        have e1 : a.toNat = m / 8 := by omega
        have e2 : m / 8 < l.length := by omega
        rw [← hx]; simp only [e1]
        show (l.toArray[m / 8]'_).toNat = _
        simp [List.getD, e2]
      have hx3 : ∀ h : a.toNat < l.length, (l[a.toNat]'h).toNat = x := by
        intro h
        have e1 : a.toNat = m / 8 := by omega
        have e2 : m / 8 < l.length := by omega
        rw [← hx]; simp [e1, List.getD, e2]
      obtain ⟨z, hz⟩ : ∃ z : Int, (x : Int) / 2 ^ min b.toNat 8 = z := ⟨_, rfl⟩
      have hz2 : (x : Int) / 2 ^ b.toNat = z := by rw [← hz, Nat.min_eq_left (by omega)]
      have hb8 : b ≤ 8 := by omega
      have hv63 : valN (bitsAt l i q) < 9223372036854775808 := Nat.lt_of_lt_of_le (val_lt l i q) (by
        have : (2 : Nat) ^ q ≤ 2 ^ 63 := Nat.pow_le_pow_right (by decide) (by omega)
        omega)
      have hval : Go.bits .or .u64 (IntKind.u64.wrap ((valN (bitsAt l i q) : Int) * 2)) (IntKind.u64.wrap (Go.bits .and .u8 z 1)) = (valN (bitsAt l i (q + 1)) : Int) := by
        rw [bitsAt_succ, valN_snoc, ← hm]
        exact bit_val l m x hx z (by rw [← hz2]; congr 2; omega) _ hv63
      have HV := Lib.hid hval
      have HN : Hid (m + 1 = i + (q + 1)) := Lib.hid (by omega)
      clear hs8 ha2 hb2 hx hm hval hv63
      go_wp2_with fail
      go_quiet (fail)
      rw [HV.out]
      have HR2 := Lib.hid (Rd.step (Rd.drewN HR.out nq))
      have HB2 := Lib.hid ((HB.out.trans (bel_drewN B wr nq)).setCell (p := ⟨g, 1, none⟩) hB (.int .i64 ((m : Int) + 1)))
      have d1 : (wr.drewN nq).cell? ⟨g, 1, none⟩ = some (.int .i64 (m : Int)) := c1
      have f1 : (wr.drewN nq).frozen? ⟨g, 1, none⟩ = false := hf 1
      clear HR HB c0 c1 c2 hf p1 p2 p22 p3 hx2 hx3 hz hz2 ha hb hb8 HV
      generalize World.drewN wr nq = w2 at HR2 HB2 d1 f1 ⊢
      go_wp2
      go_roundw
      case rel => exact ⟨q + 1, by omega, by go_num, rfl, by rw [← HN.out]; exact HR2, HB2⟩
      case measure => simp [intOf]; omega
    · obtain rfl : q = k := by omega
      go_wp2
      go_ret
      exact ⟨rfl, HR.out, HB.out⟩

/-- How many bits are left. -/
def leftN (l : List UInt8) (i : Nat) (e : Int) : Nat := if e = 0 then 8 * l.length - i else 0
set_option maxHeartbeats 2000000 in
theorem left_any (h : Rd B G w g l i e) (hs : l.length ≤ 65536) (hi : i ≤ 8 * l.length) :
    Calls Try.prog 71 #[.pointer (some ⟨g, 0, none⟩)] w fun r w' => r = .returned (.int .i64 (leftN l i e : Int)) ∧ ∃ n, w' = w.drewN n := by
  obtain ⟨c0, c1, c2, hf⟩ := Rd.cells h
  clear h
  by_cases he : e = 0
  · subst he
    have hv : IntKind.i64.wrap (IntKind.i64.wrap (8 * (l.length : Int)) - (i : Int)) = (leftN l i 0 : Int) := by
      simp only [leftN, if_pos, IntKind.wrap_i64]; omega
    have hv2 : IntKind.i64.wrap (8 * (l.length : Int) - (i : Int)) = (leftN l i 0 : Int) := by
      simp only [leftN, if_pos, IntKind.wrap_i64]; omega
    have hv3 : (8 * (l.length : Int) - (i : Int)) = (leftN l i 0 : Int) := by
      simp only [leftN, if_pos]; omega
    have hs2 : (Str l).size = l.length := by show l.toArray.size = _; simp
    generalize (leftN l i 0 : Int) = v at hv hv2 hv3 ⊢
    clear hv3
    go_enter Try.func71, Try.ntmps71
    go_wp2
    go_quiet (fail)
    go_wp2
    go_ret
    exact ⟨rfl, _, rfl⟩
  · have he2 : (e == 0) = false := by simpa using he
    have he3 : (e != 0) = true := by simpa using he
    have hl : leftN l i e = 0 := by simp [leftN, he]
    rw [hl]
    clear hl he
    go_enter Try.func71, Try.ntmps71
    go_wp2
    go_ret
    exact ⟨rfl, 0, rfl⟩
/-- The first error is kept. -/
theorem fail_any (h : Rd B G w g l i 0) (c : Int) :
    Calls Try.prog 104 #[.pointer (some ⟨g, 0, none⟩), .int .i64 c] w fun r w' => r = .returned (.tuple #[]) ∧ Rd B G w' g l i c ∧ Below B w w' := by
  obtain ⟨c0, c1, c2, hf⟩ := Rd.cells h
  have f2 := hf 2
  have HR := Lib.hid (h.put (j := 2) (x := .int .i64 c) (i' := i) (e' := c) rfl)
  have HB := Lib.hid ((Below.refl B w).setCell (p := ⟨g, 2, none⟩) h.1 (.int .i64 c))
  clear h hf
  go_enter Try.func104, Try.ntmps104
  go_wp2
  go_end0
  exact ⟨rfl, HR.out, HB.out⟩

/-- One field of k bits is read: the number, the place, the error. -/
def rdf (l : List UInt8) (k i : Nat) (e : Int) : Nat × Nat × Int := if e = 0 then if 8 * l.length < i + k then (0, i, 9) else (valN (bitsAt l i k), i + k, 0) else (0, i, e)
theorem rdf_lt (l : List UInt8) (k i : Nat) (e : Int) : (rdf l k i e).1 < 2 ^ k := by
  unfold rdf
  split
  · split
    · exact Nat.two_pow_pos k
    · exact val_lt _ _ _
  · exact Nat.two_pow_pos k
theorem rdf_le (l : List UInt8) (k i : Nat) (e : Int) (h : i ≤ 8 * l.length) : (rdf l k i e).2.1 ≤ 8 * l.length := by
  unfold rdf
  split
  · split
    · exact h
    · show i + k ≤ _; omega
  · exact h
set_option maxHeartbeats 2000000 in
theorem field_any (h : Rd B G w g l i e) (hs : l.length ≤ 65536) (hi : i ≤ 8 * l.length) (k : Nat) (hk : k ≤ 64) :
    Calls Try.prog 96 #[.pointer (some ⟨g, 0, none⟩), .bool true, .int .i64 (k : Int)] w fun r w' => r = .returned (.int .u64 ((rdf l k i e).1 : Int)) ∧ Rd B G w' g l (rdf l k i e).2.1 (rdf l k i e).2.2 ∧ Below B w w' := by
  obtain ⟨c0, c1, c2, hf⟩ := Rd.cells h
  have HH := Lib.hid h
  unfold rdf
  by_cases he : e = 0
  · subst he
    have HL := Lib.hid (left_any h hs hi)
    have hlN : (leftN l i 0 : Int) = 8 * (l.length : Int) - (i : Int) := by simp only [leftN, if_pos]; omega
    rw [hlN] at HL
    clear hlN
    rw [if_pos rfl]
    by_cases hlt : 8 * l.length < i + k
    · rw [if_pos hlt]
      have hd : decide (8 * (l.length : Int) - (i : Int) < (k : Int)) = true := decide_eq_true (by omega)
      generalize 8 * (l.length : Int) - (i : Int) = v at HL hd
      clear h hlt
      go_enter Try.func96, Try.ntmps96
      go_wp2_with fail
      refine HL.out.mono ?_
      rintro r w1 ⟨rfl, n1, rfl⟩
      go_wp2_with fail
      refine (fail_any (Rd.drewN HH.out n1) 9).mono ?_
      rintro r w2 ⟨rfl, h2, b2⟩
      have H2 := Lib.hid h2
      have HB2 := Lib.hid ((bel_drewN B w n1).trans b2)
      clear h2 b2
      go_wp2_with fail
      go_ret
      exact ⟨rfl, H2.out, HB2.out⟩
    · rw [if_neg hlt]
      have hd : decide (8 * (l.length : Int) - (i : Int) < (k : Int)) = false := decide_eq_false (by omega)
      generalize 8 * (l.length : Int) - (i : Int) = v at HL hd
      have HI : Hid (i + k ≤ 8 * l.length) := Lib.hid (by omega)
      clear h hlt
      go_enter Try.func96, Try.ntmps96
      go_wp2_with fail
      refine HL.out.mono ?_
      rintro r w1 ⟨rfl, n1, rfl⟩
      go_wp2_with fail
      refine (get_any (Rd.drewN HH.out n1) hs k hk HI.out).mono ?_
      rintro r w2 ⟨rfl, h2, b2⟩
      have H2 := Lib.hid h2
      have HB2 := Lib.hid ((bel_drewN B w n1).trans b2)
      clear h2 b2
      go_wp2_with fail
      go_ret
      exact ⟨rfl, H2.out, HB2.out⟩
  · have he2 : (e == 0) = false := by simpa using he
    have he3 : (e != 0) = true := by simpa using he
    rw [if_neg he]
    clear h he
    go_enter Try.func96, Try.ntmps96
    go_wp2_with fail
    go_ret
    exact ⟨rfl, HH.out, Below.refl B w⟩
set_option maxHeartbeats 2000000 in
theorem unsigned_any (h : Rd B G w g l i e) (hs : l.length ≤ 65536) (hi : i ≤ 8 * l.length) (k : Nat) (h1 : 1 ≤ k) (hk : k ≤ 62) :
    Calls Try.prog 86 #[.pointer (some ⟨g, 0, none⟩), .int .i64 (k : Int)] w fun r w' => r = .returned (.int .i64 ((rdf l k i e).1 : Int)) ∧ Rd B G w' g l (rdf l k i e).2.1 (rdf l k i e).2.2 ∧ Below B w w' := by
  have HF := Lib.hid (field_any h hs hi k (by omega))
  have hv := rdf_lt l k i e
  have hp : (2 : Nat) ^ k ≤ 2 ^ 62 := Nat.pow_le_pow_right (by decide) hk
  have hw : IntKind.i64.wrap ((rdf l k i e).1 : Int) = ((rdf l k i e).1 : Int) := by rw [IntKind.wrap_i64]; omega
  have d1 : decide ((1 : Int) ≤ (k : Int)) = true := decide_eq_true (by omega)
  have d2 : decide ((k : Int) ≤ 63) = true := decide_eq_true (by omega)
  clear hv hp h
  generalize (rdf l k i e).1 = v at *
  generalize (rdf l k i e).2.1 = i' at *
  generalize (rdf l k i e).2.2 = e' at *
  go_enter Try.func86, Try.ntmps86
  go_wp2_with fail
  ((with_reducible refine HF.out.mono ?_); rintro r w2 ⟨rfl, h2, b2⟩)
  have H2 := Lib.hid h2
  have HB2 := Lib.hid b2
  clear h2 b2
  go_wp2_with fail
  go_ret
  exact ⟨rfl, H2.out, HB2.out⟩
set_option maxHeartbeats 2000000 in
theorem flag_any (h : Rd B G w g l i e) (hs : l.length ≤ 65536) (hi : i ≤ 8 * l.length) :
    Calls Try.prog 88 #[.pointer (some ⟨g, 0, none⟩)] w fun r w' => r = .returned (.bool (decide ((rdf l 1 i e).1 = 1))) ∧ Rd B G w' g l (rdf l 1 i e).2.1 (rdf l 1 i e).2.2 ∧ Below B w w' := by
  have HF := Lib.hid (field_any h hs hi 1 (by omega))
  rw [show ((1 : Nat) : Int) = 1 from rfl] at HF
  have hv := rdf_lt l 1 i e
  have hb : (((rdf l 1 i e).1 : Int) == 1) = decide ((rdf l 1 i e).1 = 1) := by
    rw [Bool.eq_iff_iff]; simp; omega
  clear hv h
  generalize decide ((rdf l 1 i e).1 = 1) = b at *
  generalize (rdf l 1 i e).1 = v at *
  generalize (rdf l 1 i e).2.1 = i' at *
  generalize (rdf l 1 i e).2.2 = e' at *
  go_enter Try.func88, Try.ntmps88
  go_wp2_with fail
  ((with_reducible refine HF.out.mono ?_); rintro r w2 ⟨rfl, h2, b2⟩)
  have H2 := Lib.hid h2
  have HB2 := Lib.hid b2
  clear h2 b2
  go_wp2_with fail
  go_ret
  exact ⟨rfl, H2.out, HB2.out⟩
theorem newr_any (l : List UInt8) (hs : l.length ≤ 65536) (w : World) {B : Nat} (hB : B ≤ w.heap.size) :
    Calls Try.prog 41 #[.string (Str l)] w fun r w' => r = .returned (.pointer (some ⟨w.heap.size, 0, none⟩)) ∧ Rd B [] w' w.heap.size l 0 0 ∧ Below w.heap.size w w' := by
  have hd : decide ((65536 : Int) < (l.length : Int)) = false := decide_eq_false (by omega)
  have hd2 : decide (65536 < l.length) = false := decide_eq_false (by omega)
  have hs2 : (Str l).size = l.length := by show l.toArray.size = _; simp
  have HR : Hid (Rd B [] (w.alloc (.cells #[.string (Str l), .int .i64 0, .int .i64 0] TR)) w.heap.size l 0 0) := Lib.hid ⟨hB, heap_alloc_new _ _, fun p hp => by cases hp⟩
  go_enter Try.func41, Try.ntmps41
  go_wp2
  go_ret
  exact ⟨rfl, HR.out, (Below.refl _ _).alloc (Nat.le_refl _) _⟩
end Go.Proofs.Ytbgnkjaikbhdoaa.Rd

-- RdC
namespace Go.Proofs.Ytbgnkjaikbhdoaa.RdC
set_option linter.unusedSimpArgs false
set_option linter.unusedVariables false
open Go.RowKit Go.Proofs.Ytbgnkjaikbhdoaa.Pack Go.Proofs.Ytbgnkjaikbhdoaa.WrPut Go.Proofs.Ytbgnkjaikbhdoaa.Rd
open Go.Proofs.Ytbgnkjaikbhdoaa.Bytes (Str)
variable {B g i : Nat} {G : List (Nat × Obj)} {w : World} {l : List UInt8} {e : Int}

set_option maxRecDepth 100000 in
set_option maxHeartbeats 1000000 in
theorem ones_any {b0 : Nat} (h : Rd B G w g l i 0) (hb0 : w.cell? ⟨b0, 0, none⟩ = some (.pointer (some ⟨g, 0, none⟩))) (hs : l.length ≤ 65536) (hi : i ≤ 8 * l.length) (n : Nat) (hn : n = 8 * l.length - i) (hl : n < 8) :
    Calls Try.prog 69 #[.pointer (some ⟨b0, 0, none⟩)] w fun r w' => r = .returned (.bool (decide (valN (bitsAt l i n) ≠ 0))) ∧ Below w.heap.size w w' := by
  have hlt := h.lt
  have hb0lt : b0 < w.heap.size := World.block_lt_of_cell? w _ hb0
  have hnew : Rd w.heap.size [] (w.alloc (.cells (TRc l i 0) TR)) w.heap.size l i 0 := ⟨Nat.le_refl _, heap_alloc_new _ _, fun p hp => by cases hp⟩
  have hlft : (leftN l i 0 : Int) = (n : Int) := by simp only [leftN, if_pos]; omega
  have HROW := Lib.hid h.2.1
  have HL := left_any (h.alloc (.cells (TRc l i 0) TR)) hs hi
  rw [hlft] at HL
  have HL := Lib.hid HL
  have HG := Lib.hid (fun k => get_any (Rd.drewN hnew k) hs n (by omega) (by omega))
  have HB := Lib.hid (fun k => bel_drewN w.heap.size (w.alloc (.cells (TRc l i 0) TR)) k)
  have HB0 := Lib.hid ((Below.refl w.heap.size w).alloc (Nat.le_refl _) (.cells (TRc l i 0) TR))
  have hv : (((valN (bitsAt l i n) : Nat) : Int) != 0) = decide (valN (bitsAt l i n) ≠ 0) := by
    rw [Bool.eq_iff_iff]; simp
  generalize decide (valN (bitsAt l i n) ≠ 0) = b at *
  clear h hn hnew hlft hlt
  go_enter Try.func69, Try.ntmps69
  go_wp2_with (first | (refine wpList_load_row rfl TR _ rfl g rfl TR (TRc l i 0) (0, 0) _ HROW.out Try.underlying97 rfl (by kernel_rfl) ?_))
  ((with_reducible refine HL.out.mono ?_); rintro r w1 ⟨rfl, n1, rfl⟩)
  go_wp2_with fail
  ((with_reducible refine (HG.out n1).mono ?_); rintro r w2 ⟨rfl, h2, b2⟩)
  have HB2 := Lib.hid (HB0.out.trans ((HB.out n1).trans b2))
  clear h2 b2 HB HB0 HL HG
  go_wp2_with fail
  go_ret
  exact ⟨rfl, HB2.out⟩

/-- What Close returns. -/
def closeF (l : List UInt8) (i : Nat) (e : Int) : Int := if e = 0 then if 8 ≤ 8 * l.length - i then 10 else if valN (bitsAt l i (8 * l.length - i)) ≠ 0 then 10 else 0 else e

set_option maxRecDepth 100000 in
set_option maxHeartbeats 1000000 in
theorem close_any (h : Rd B G w g l i e) (hs : l.length ≤ 65536) (hi : i ≤ 8 * l.length) :
    Calls Try.prog 42 #[.pointer (some ⟨g, 0, none⟩)] w fun r w' => r = .returned (.int .i64 (closeF l i e)) ∧ Below w.heap.size w w' := by
  unfold closeF
  have hbx := h.alloc (.cells #[.pointer (some ⟨g, 0, none⟩)] 46)
  have hlt := h.lt
  have hBW := (Below.refl w.heap.size w).alloc (Nat.le_refl _) (.cells #[.pointer (some ⟨g, 0, none⟩)] 46)
  have hblk : (w.alloc (.cells #[.pointer (some ⟨g, 0, none⟩)] 46)).heap[w.heap.size]? = some (.cells #[.pointer (some ⟨g, 0, none⟩)] 46 (0, 0)) := heap_alloc_new _ _
  obtain ⟨c0, c1, c2, hf⟩ := Rd.cells hbx
  clear c0 c1 hf
  by_cases he : e = 0
  · subst he
    rw [if_pos rfl]
    obtain ⟨n, hn⟩ : ∃ n, 8 * l.length - i = n := ⟨_, rfl⟩
    have hlft : (leftN l i 0 : Int) = (n : Int) := by simp only [leftN, if_pos]; omega
    have HL := left_any hbx hs hi
    rw [hlft] at HL
    have HL := Lib.hid HL
    have HBX := Lib.hid hbx
    have HBW := Lib.hid hBW
    have HBLK := Lib.hid hblk
    rw [hn]
    by_cases h8 : 8 ≤ n
    · rw [if_pos h8]
      have d8 : decide ((8 : Int) ≤ (n : Int)) = true := decide_eq_true (by omega)
      clear h hbx hBW hblk hn hlft hlt h8
      go_enter Try.func42, Try.ntmps42
      go_wp2_with fail
      ((with_reducible refine HL.out.mono ?_); rintro r w1 ⟨rfl, n1, rfl⟩)
      go_wp2_with fail
      go_ret
      exact ⟨rfl, HBW.out.trans (bel_drewN _ _ _)⟩
    · rw [if_neg h8]
      have d8 : decide ((8 : Int) ≤ (n : Int)) = false := decide_eq_false (by omega)
      have HO : Hid (∀ k, _) := Lib.hid (fun k => ones_any (Rd.drewN hbx k) (b0 := w.heap.size) (by show World.cell? _ _ = _; rw [cell_of_row _ _ _ _ _ _ (show ((w.alloc (.cells #[.pointer (some ⟨g, 0, none⟩)] 46)).drewN k).heap[w.heap.size]? = _ from hblk)]; rfl) hs hi n hn.symm (by omega))
      generalize hb : decide (valN (bitsAt l i n) ≠ 0) = b at HO
      have hr : (if valN (bitsAt l i n) ≠ 0 then (10 : Int) else 0) = if b then 10 else 0 := by
        rw [← hb]; by_cases hz : valN (bitsAt l i n) ≠ 0 <;> simp [hz]
      rw [hr]
      clear h hbx hBW hblk hn hlft hlt h8 hb hr
      cases b
      all_goals
        go_enter Try.func42, Try.ntmps42
        go_wp2_with fail
        ((with_reducible refine HL.out.mono ?_); rintro r w1 ⟨rfl, n1, rfl⟩)
        go_wp2_with fail
        ((with_reducible refine (HO.out n1).mono ?_); rintro r w2 ⟨rfl, b2⟩)
        have HB2 := Lib.hid ((HBW.out.trans (bel_drewN _ _ n1)).trans (b2.mono (by simp)))
        clear b2
        go_wp2_with fail
        go_ret
        exact ⟨rfl, HB2.out⟩
  · have he2 : (e == 0) = false := by simpa using he
    have he3 : (e != 0) = true := by simpa using he
    have HBW := Lib.hid hBW
    rw [if_neg he]
    clear h hbx hblk hlt he hBW
    go_enter Try.func42, Try.ntmps42
    go_wp2_with fail
    go_ret
    exact ⟨rfl, HBW.out⟩
end Go.Proofs.Ytbgnkjaikbhdoaa.RdC

-- WrText
namespace Go.Proofs.Ytbgnkjaikbhdoaa.WrText
open Go.RowKit Go.Proofs.Ytbgnkjaikbhdoaa.Pack Go.Proofs.Ytbgnkjaikbhdoaa.Wr Go.Proofs.Ytbgnkjaikbhdoaa.WrPut Go.Proofs.Ytbgnkjaikbhdoaa.WrAll
open Go.Proofs.Ytbgnkjaikbhdoaa.Bytes (Str)

theorem limit_127 (w : World) : Calls Try.prog 101 #[.int .i64 127] w fun e w' => e = .returned (.bool true) ∧ w = w' := by
  go_enter Try.func101, Try.ntmps101
  go_wp2
  go_ret
  exact ⟨rfl, rfl⟩
theorem width_127 (w : World) : Calls Try.prog 102 #[.int .i64 127] w fun e w' => e = .returned (.int .i64 7) ∧ w = w' := by
  have PL := fun w => Try.bits_Len 127 w (by omega) (by omega)
  have e7 : ((Lib.bitLen (Int.toNat 127) : Nat) : Int) = 7 := by decide
  rw [e7] at PL
  have HL := Lib.hid PL
  clear PL e7
  have hmx : (max (1 : Int) 7) = 7 := by decide
  go_enter Try.func102, Try.ntmps102
  go_wp2_with fail
  refine (HL.out _).mono ?_
  rintro e w1 ⟨rfl, rfl⟩
  go_wp2_with fail
  go_ret
  exact ⟨rfl, rfl⟩

/-- The bits of bytes, one behind the other. -/
def byteBits (l : List UInt8) : List Bool := l.flatMap fun c => bitsN 8 c.toNat
theorem byteBits_length (l : List UInt8) : (byteBits l).length = 8 * l.length := by
  induction l with
  | nil => rfl
  | cons c l ih => simp only [byteBits, List.flatMap_cons, List.length_append, bitsN_length] at ih ⊢; rw [ih]; simp; omega
theorem byteBits_snoc (l : List UInt8) (c : UInt8) : byteBits (l ++ [c]) = byteBits l ++ bitsN 8 c.toNat := by simp [byteBits]
/-- A text with the limit 127. -/
def textBits (l : List UInt8) : List Bool := bitsN 7 l.length ++ byteBits l

theorem Below.drewN' (B : Nat) (w : World) (n : Nat) : Below B w (w.drewN n) := ⟨rfl, rfl, rfl, Nat.le_refl _, fun _ _ => rfl⟩

set_option maxHeartbeats 2000000 in
theorem text_ok {B g : Nat} {G : List (Nat × Obj)} {w : World} {bs : List Bool} (h : Wr B G w g bs 0) (l : List UInt8) (hl : l.length ≤ 127) (hn : bs.length + 7 + 8 * l.length ≤ 500000) :
    Calls Try.prog 93 #[.pointer (some ⟨g, 0, none⟩), .int .i64 127, .string (Str l)] w fun e w' => e = .returned (.tuple #[]) ∧ Wr B G w' g (bs ++ textBits l) 0 ∧ Below B w w' := by
  obtain ⟨v, c0, c1, c2, hf, hown, _⟩ := WrL.cells h
  have HH := Lib.hid h
  have hd : decide ((127 : Int) < (l.length : Int)) = false := by simp; omega
  clear hown c0 hf h
  go_enter Try.func93, Try.ntmps93
  go_wp2_with fail
  refine (limit_127 _).mono ?_
  rintro e w1 ⟨rfl, rfl⟩
  go_wp2_with fail
  go_quiet ((go_at_call 102; exact Calls.quiet_of_same ((width_127 _).mono fun _ _ h => ⟨h.1, h.2.symm⟩)))
  have HN := Lib.hid (WrL.drewN HH.out nq)
  have HB0 := Lib.hid (Below.drewN' B w nq)
  clear HH c1 c2 hd
  generalize World.drewN w nq = w2 at HN HB0 ⊢
  go_wp2_with fail
  refine (width_127 _).mono ?_
  rintro e w3 ⟨rfl, rfl⟩
  go_wp2_with fail
  refine (put_any (show Wr B G w2 g bs 0 from HN.out) 7 (by omega) l.length (by unfold U64; omega) (by omega)).mono ?_
  rintro e w3 ⟨rfl, h3, b3⟩
  have H3 := Lib.hid h3
  have HB3 := Lib.hid (HB0.out.trans b3)
  clear h3 b3 HN HB0
  go_wp2_with fail
  go_loopw [16] (fun i wr => ∃ k : Nat, k ≤ l.length ∧ i = .int .i64 k ∧ Hid (Wr B G wr g (bs ++ bitsN 7 l.length ++ byteBits (l.take k)) 0) ∧ Hid (Below B w wr)) (fun i _ => l.length - (intOf i).toNat)
  case atStart => exact ⟨0, Nat.zero_le _, rfl, by simpa [byteBits] using H3, HB3⟩
  case round =>
    clear H3 HB3
    obtain ⟨k, hk, rfl, H3, HB3⟩ := hrel
    by_cases hlt : k < l.length
    · have hs : (Str l).size = l.length := by show l.toArray.size = _; simp
      have hks : k < (Str l).size := by omega
      clear hs
      have ec : IntKind.u64.wrap (((Str l)[k]'hks).toNat : Int) = ((l[k]'hlt).toNat : Int) := by
        have : (Str l)[k]'hks = l[k]'hlt := by show l.toArray[k]'_ = _; simp
        rw [this, WrAll.wrap_small _ (by omega) (by have := (l[k]'hlt).toNat_lt; omega)]; omega
      have HE := Lib.hid ec
      have hbl : (byteBits (l.take k)).length ≤ 8 * l.length := by rw [byteBits_length, List.length_take]; omega
      have hcl : (bs ++ bitsN 7 l.length ++ byteBits (l.take k)).length + 8 ≤ 1000000 := by
        rw [List.length_append, List.length_append, bitsN_length]; omega
      have hts : byteBits (l.take (k + 1)) = byteBits (l.take k) ++ bitsN 8 (l[k]'hlt).toNat := by
        rw [List.take_succ_eq_append_getElem hlt, byteBits_snoc]
      have HT := Lib.hid hts
      clear ec hbl hts
      go_wp2_with fail
      rw [HE.out]
      refine (put_any H3.out 8 (by omega) (l[k]'hlt).toNat (by have := (l[k]'hlt).toNat_lt; unfold U64; omega) hcl).mono ?_
      rintro e w4 ⟨rfl, h4, b4⟩
      have H4 : Hid (Wr B G w4 g (bs ++ bitsN 7 l.length ++ byteBits (l.take (k + 1))) 0) := by
        rw [HT.out, ← List.append_assoc]; exact Lib.hid h4
      have HB4 := Lib.hid (HB3.out.trans b4)
      clear h4 b4 H3 HB3 HT
      go_wp2_with fail
      go_roundw
      case rel => exact ⟨k + 1, by omega, by go_num, H4, HB4⟩
      case measure => simp [intOf]; omega
    · obtain rfl : k = l.length := by omega
      have HF : Hid (Wr B G wr g (bs ++ textBits l) 0) := by
        have := H3.out
        rw [List.take_length, List.append_assoc] at this
        exact Lib.hid this
      clear H3
      go_wp2
      go_end0
      exact ⟨rfl, HF.out, HB3.out⟩

set_option maxHeartbeats 2000000 in
theorem text_long {B g : Nat} {G : List (Nat × Obj)} {w : World} {bs : List Bool} (h : Wr B G w g bs 0) (l : List UInt8) (hl : 127 < l.length) :
    Calls Try.prog 93 #[.pointer (some ⟨g, 0, none⟩), .int .i64 127, .string (Str l)] w fun e w' => e = .returned (.tuple #[]) ∧ Wr B G w' g bs 8 ∧ Below B w w' := by
  obtain ⟨v, c0, c1, c2, hf, hown, hv⟩ := WrL.cells h
  have f2 := hf 2
  have hd : decide ((127 : Int) < (l.length : Int)) = true := by simp; omega
  have HW : Hid (∀ n, Wr B G ((w.drewN n).setCell ⟨g, 2, none⟩ (.int .i64 8)) g bs 8) := Lib.hid (fun n => WrL.put (WrL.drewN h n) (v := v) hv hown rfl)
  have HB0 : Hid (∀ n, Below B w ((w.drewN n).setCell ⟨g, 2, none⟩ (.int .i64 8))) := Lib.hid (fun n => (Below.drewN' B w n).setCell h.1 _)
  clear hown c0 hf h hv
  go_enter Try.func93, Try.ntmps93
  go_wp2_with fail
  refine (limit_127 _).mono ?_
  rintro e w1 ⟨rfl, rfl⟩
  go_wp2_with fail
  go_quiet ((go_at_call 102; exact Calls.quiet_of_same ((width_127 _).mono fun _ _ h => ⟨h.1, h.2.symm⟩)))
  go_wp2_with fail
  go_end0
  exact ⟨rfl, HW.out _, HB0.out _⟩
end Go.Proofs.Ytbgnkjaikbhdoaa.WrText

-- RdT
namespace Go.Proofs.Ytbgnkjaikbhdoaa.RdT
set_option linter.unusedSimpArgs false
set_option linter.unusedVariables false
open Go.RowKit Go.Proofs.Ytbgnkjaikbhdoaa.Pack Go.Proofs.Ytbgnkjaikbhdoaa.WrPut Go.Proofs.Ytbgnkjaikbhdoaa.WrText Go.Proofs.Ytbgnkjaikbhdoaa.Rd Go.Proofs.Ytbgnkjaikbhdoaa.RdC
open Go.Proofs.Ytbgnkjaikbhdoaa.Bytes (Str)
variable {B g i : Nat} {G : List (Nat × Obj)} {w : World} {l : List UInt8} {e : Int}

/-- A signed field of 16 bits. -/
def rdS (l : List UInt8) (i : Nat) (e : Int) : Int := if (rdf l 16 i e).2.2 = 0 ∧ 32768 ≤ (rdf l 16 i e).1 then ((rdf l 16 i e).1 : Int) - 65536 else ((rdf l 16 i e).1 : Int)

set_option maxHeartbeats 2000000 in
theorem signed_any (h : Rd B G w g l i e) (hs : l.length ≤ 65536) (hi : i ≤ 8 * l.length) :
    Calls Try.prog 84 #[.pointer (some ⟨g, 0, none⟩), .int .i64 16] w fun r w' => r = .returned (.int .i64 (rdS l i e)) ∧ Rd B G w' g l (rdf l 16 i e).2.1 (rdf l 16 i e).2.2 ∧ Below B w w' := by
  have HF := Lib.hid (field_any h hs hi 16 (by omega))
  rw [show ((16 : Nat) : Int) = 16 from rfl] at HF
  have hv := rdf_lt l 16 i e
  unfold rdS
  clear h
  generalize (rdf l 16 i e).1 = v at *
  generalize (rdf l 16 i e).2.1 = i' at *
  generalize (rdf l 16 i e).2.2 = e' at *
  have hw : IntKind.i64.wrap (v : Int) = (v : Int) := by rw [IntKind.wrap_i64]; omega
  by_cases he : e' = 0
  · subst he
    by_cases h15 : 32768 ≤ v
    · rw [if_pos ⟨rfl, h15⟩]
      obtain ⟨z, hz⟩ : ∃ z : Int, (v : Int) / 32768 = z := ⟨_, rfl⟩
      have hz1 : z = 1 := by omega
      have hb : (Go.bits .and .i64 z 1 == 1) = true := by subst hz1; decide
      have hsub : IntKind.i64.wrap ((v : Int) - 65536) = (v : Int) - 65536 := by rw [IntKind.wrap_i64]; omega
      clear hz1 h15 hv
      go_enter Try.func84, Try.ntmps84
      go_wp2_with fail
      ((with_reducible refine HF.out.mono ?_); rintro r w2 ⟨rfl, h2, b2⟩)
      have H2 := Lib.hid h2
      have HB2 := Lib.hid b2
      obtain ⟨c0, c1, c2, hf⟩ := Rd.cells h2
      clear h2 b2 c0 c1 hf
      go_wp2_with fail
      go_ret
      exact ⟨rfl, H2.out, HB2.out⟩
    · rw [if_neg (fun h => h15 h.2)]
      obtain ⟨z, hz⟩ : ∃ z : Int, (v : Int) / 32768 = z := ⟨_, rfl⟩
      have hz1 : z = 0 := by omega
      have hb : (Go.bits .and .i64 z 1 == 1) = false := by subst hz1; decide
      clear hz1 h15 hv
      go_enter Try.func84, Try.ntmps84
      go_wp2_with fail
      ((with_reducible refine HF.out.mono ?_); rintro r w2 ⟨rfl, h2, b2⟩)
      have H2 := Lib.hid h2
      have HB2 := Lib.hid b2
      obtain ⟨c0, c1, c2, hf⟩ := Rd.cells h2
      clear h2 b2 c0 c1 hf
      go_wp2_with fail
      go_ret
      exact ⟨rfl, H2.out, HB2.out⟩
  · rw [if_neg (fun h => he h.1)]
    have he2 : (e' == 0) = false := by simpa using he
    clear he hv
    go_enter Try.func84, Try.ntmps84
    go_wp2_with fail
    ((with_reducible refine HF.out.mono ?_); rintro r w2 ⟨rfl, h2, b2⟩)
    have H2 := Lib.hid h2
    have HB2 := Lib.hid b2
    obtain ⟨c0, c1, c2, hf⟩ := Rd.cells h2
    clear h2 b2 c0 c1 hf
    go_wp2_with fail
    go_ret
    exact ⟨rfl, H2.out, HB2.out⟩

/-! ### Text -/
/-- n bytes from bit i on. -/
def bytesAt (l : List UInt8) (i n : Nat) : List UInt8 := (List.range n).map fun j => UInt8.ofNat (valN (bitsAt l (i + 8 * j) 8))
theorem bytesAt_length (l : List UInt8) (i n : Nat) : (bytesAt l i n).length = n := by simp [bytesAt]
theorem bytesAt_succ (l : List UInt8) (i n : Nat) : bytesAt l i (n + 1) = bytesAt l i n ++ [UInt8.ofNat (valN (bitsAt l (i + 8 * n) 8))] := by
  simp [bytesAt, List.range_succ]
/-- A text with the limit 127. -/
def rdText (l : List UInt8) (i : Nat) (e : Int) : List UInt8 × Nat × Int :=
  if (rdf l 7 i e).2.2 = 0 then if 8 * l.length < (rdf l 7 i e).2.1 + 8 * (rdf l 7 i e).1 then ([], (rdf l 7 i e).2.1, 9) else (bytesAt l (rdf l 7 i e).2.1 (rdf l 7 i e).1, (rdf l 7 i e).2.1 + 8 * (rdf l 7 i e).1, 0)
  else ([], (rdf l 7 i e).2.1, (rdf l 7 i e).2.2)
theorem rdText_le (l : List UInt8) (i : Nat) (e : Int) (h : i ≤ 8 * l.length) : (rdText l i e).2.1 ≤ 8 * l.length := by
  have := rdf_le l 7 i e h
  unfold rdText
  split
  · split
    · exact this
    · show _ + _ ≤ _; omega
  · exact this
/-- The row while it is filled. -/
def half (l : List UInt8) (i n k : Nat) : List UInt8 := bytesAt l i k ++ List.replicate (n - k) 0
theorem half_length (l : List UInt8) (i n k : Nat) (h : k ≤ n) : (half l i n k).length = n := by
  simp [half, bytesAt_length]; omega
theorem half_set (l : List UInt8) (i n k : Nat) (h : k < n) : (half l i n k).set k (UInt8.ofNat (valN (bitsAt l (i + 8 * k) 8))) = half l i n (k + 1) := by
  unfold half
  rw [bytesAt_succ, List.append_assoc]
  have e : n - k = (n - (k + 1)) + 1 := by omega
  rw [e, List.replicate_succ, List.set_append_right _ _ (by rw [bytesAt_length]; omega), bytesAt_length]
  simp
abbrev rowB (m : List UInt8) : Array Value := (m.map Go.Proofs.Ytbgnkjaikbhdoaa.Bytes.B).toArray
theorem rowB_get (m : List UInt8) (k : Nat) (h : k < m.length) : (rowB m)[k]? = some (.int .u8 ((m.getD k 0).toNat : Int)) := by
  simp [rowB, Go.Proofs.Ytbgnkjaikbhdoaa.Bytes.B, h, List.getD]
theorem rowB_set (m : List UInt8) (k : Nat) (c : UInt8) : (rowB m).setIfInBounds k (.int .u8 (c.toNat : Int)) = rowB (m.set k c) := by
  simp [rowB, List.map_set, Go.Proofs.Ytbgnkjaikbhdoaa.Bytes.B]
theorem made (n : Nat) : madeCells (Value.int .u8 0).cells n = rowB (List.replicate n 0) := by
  apply Array.ext_getElem?
  intro j
  by_cases h : j < n
  · simp [madeCells, rowB, h, Value.cells, Nat.mod_one, Go.Proofs.Ytbgnkjaikbhdoaa.Bytes.B]
  · simp [madeCells, rowB, h]
theorem info8 : (Try.prog.info? 5).map (fun i => (i.zero, i.size, i.bytes)) = some (some (.int .u8 0), 1, 1) := by kernel_rfl
theorem make_row (n : Nat) (hn : n ≤ 1000) (w : World) : (Instr.makeSlice 40 (.int .i64 (n : Int)) (.int .i64 (n : Int))).run Try.prog w = .ok (.slice (some ⟨w.heap.size, 0, none⟩) n n) (w.alloc (.cells (rowB (List.replicate n 0)) 5)) := by
  obtain ⟨i0, hi, hz0, hz1, hz2⟩ := info_parts info8
  have := run_make (P := Try.prog) w 40 5 i0 (.int .u8 0) Try.underlying40 hi hz0 .i64 .i64 n n (by omega) (Int.le_refl _) (by rw [hz2]; omega) (by omega)
  rw [this, hz1, Int.toNat_natCast, Nat.mul_one, made]
theorem row_text (w : World) (gr : Nat) (m : List UInt8) (h : w.heap[gr]? = some (.cells (rowB m) 5 (0, 0))) (cap : Nat) :
    (convert 40 9 (.slice (some ⟨gr, 0, none⟩) m.length cap)).run Try.prog w = .ok (.string (Str m)) w :=
  Bytes.ByteRow.text (P := Try.prog) (w := w) (g := gr) (l := m) (fun j hj => ⟨by rw [cell_of_row _ _ _ _ _ _ h]; exact rowB_get m j hj, frozen_of_row _ _ _ _ _ h⟩) cap 40 5 9 Try.underlying40 Try.underlying5 Try.underlying9

set_option maxRecDepth 100000 in
set_option maxHeartbeats 4000000 in
theorem text_err (h : Rd B G w g l i e) (hs : l.length ≤ 65536) (hi : i ≤ 8 * l.length) (he : (rdf l 7 i e).2.2 ≠ 0) :
    Calls Try.prog 94 #[.pointer (some ⟨g, 0, none⟩), .int .i64 127] w fun r w' => r = .returned (.string (Str [])) ∧ Rd B G w' g l (rdf l 7 i e).2.1 (rdf l 7 i e).2.2 ∧ Below B w w' := by
  have HF := Lib.hid (field_any h hs hi 7 (by omega))
  rw [show ((7 : Nat) : Int) = 7 from rfl] at HF
  have hv := rdf_lt l 7 i e
  have he2 : ((rdf l 7 i e).2.2 == 0) = false := by simpa using he
  have he3 : ((rdf l 7 i e).2.2 != 0) = true := by simpa using he
  clear h he
  generalize (rdf l 7 i e).1 = v at *
  generalize (rdf l 7 i e).2.1 = i' at *
  generalize (rdf l 7 i e).2.2 = e' at *
  have hw : IntKind.i64.wrap (v : Int) = (v : Int) := by rw [IntKind.wrap_i64]; omega
  clear hv
  go_enter Try.func94, Try.ntmps94
  go_wp2_with fail
  ((with_reducible refine (limit_127 _).mono ?_); rintro e w1 ⟨rfl, rfl⟩)
  go_wp2_with fail
  ((with_reducible refine (width_127 _).mono ?_); rintro e w1 ⟨rfl, rfl⟩)
  go_wp2_with fail
  ((with_reducible refine HF.out.mono ?_); rintro r w2 ⟨rfl, h2, b2⟩)
  have H2 := Lib.hid h2
  have HB2 := Lib.hid b2
  obtain ⟨c0, c1, c2, hf⟩ := Rd.cells h2
  clear h2 b2 c0 c1 hf
  go_wp2_with fail
  go_ret
  exact ⟨rfl, H2.out, HB2.out⟩

set_option maxRecDepth 100000 in
set_option maxHeartbeats 4000000 in
theorem text_short (h : Rd B G w g l i e) (hs : l.length ≤ 65536) (hi : i ≤ 8 * l.length) (he : (rdf l 7 i e).2.2 = 0) (hl : 8 * l.length < (rdf l 7 i e).2.1 + 8 * (rdf l 7 i e).1) :
    Calls Try.prog 94 #[.pointer (some ⟨g, 0, none⟩), .int .i64 127] w fun r w' => r = .returned (.string (Str [])) ∧ Rd B G w' g l (rdf l 7 i e).2.1 9 ∧ Below B w w' := by
  have HF := Lib.hid (field_any h hs hi 7 (by omega))
  rw [show ((7 : Nat) : Int) = 7 from rfl] at HF
  have hv := rdf_lt l 7 i e
  have hle := rdf_le l 7 i e hi
  clear h
  generalize (rdf l 7 i e).1 = v at *
  generalize (rdf l 7 i e).2.1 = i' at *
  generalize (rdf l 7 i e).2.2 = e' at *
  subst he
  have hw : IntKind.i64.wrap (v : Int) = (v : Int) := by rw [IntKind.wrap_i64]; omega
  have d1 : decide ((127 : Int) < (v : Int)) = false := decide_eq_false (by omega)
  have hl0 : (leftN l i' 0 : Int) = 8 * (l.length : Int) - (i' : Int) := by simp only [leftN, if_pos]; omega
  have d2 : decide (8 * (l.length : Int) - (i' : Int) < 8 * (v : Int)) = true := decide_eq_true (by omega)
  have HL := Lib.hid (fun (w : World) (h : Rd B G w g l i' 0) => left_any h hs hle)
  rw [hl0] at HL
  generalize 8 * (l.length : Int) - (i' : Int) = lf at *
  have hm : IntKind.i64.wrap (8 * (v : Int)) = 8 * (v : Int) := by rw [IntKind.wrap_i64]; omega
  clear hl0 hl hv
  go_enter Try.func94, Try.ntmps94
  go_wp2_with fail
  ((with_reducible refine (limit_127 _).mono ?_); rintro e w1 ⟨rfl, rfl⟩)
  go_wp2_with fail
  ((with_reducible refine (width_127 _).mono ?_); rintro e w1 ⟨rfl, rfl⟩)
  go_wp2_with fail
  ((with_reducible refine HF.out.mono ?_); rintro r w2 ⟨rfl, h2, b2⟩)
  have H2 := Lib.hid h2
  have HB2 := Lib.hid b2
  obtain ⟨c0, c1, c2, hf⟩ := Rd.cells h2
  clear h2 b2 c0 c1 hf
  go_wp2_with fail
  ((with_reducible refine (HL.out _ H2.out).mono ?_); rintro r w3 ⟨rfl, n3, rfl⟩)
  go_wp2_with fail
  ((with_reducible refine (fail_any (Rd.drewN H2.out n3) 9).mono ?_); rintro r w4 ⟨rfl, h4, b4⟩)
  have H4 := Lib.hid h4
  have HB4 := Lib.hid ((HB2.out.trans (bel_drewN B w2 n3)).trans b4)
  clear h4 b4
  go_wp2_with fail
  go_ret
  exact ⟨rfl, H4.out, HB4.out⟩

set_option maxRecDepth 100000 in
set_option maxHeartbeats 4000000 in
theorem text_full (h : Rd B G w g l i e) (hs : l.length ≤ 65536) (hi : i ≤ 8 * l.length) (he : (rdf l 7 i e).2.2 = 0) (hl : (rdf l 7 i e).2.1 + 8 * (rdf l 7 i e).1 ≤ 8 * l.length) :
    Calls Try.prog 94 #[.pointer (some ⟨g, 0, none⟩), .int .i64 127] w fun r w' => r = .returned (.string (Str (bytesAt l (rdf l 7 i e).2.1 (rdf l 7 i e).1))) ∧ Rd B G w' g l ((rdf l 7 i e).2.1 + 8 * (rdf l 7 i e).1) 0 ∧ Below B w w' := by
  have HF := Lib.hid (field_any h hs hi 7 (by omega))
  rw [show ((7 : Nat) : Int) = 7 from rfl] at HF
  have hv := rdf_lt l 7 i e
  have hle := rdf_le l 7 i e hi
  have hB := h.1
  have hlt := h.lt
  clear h
  generalize (rdf l 7 i e).1 = v at *
  generalize (rdf l 7 i e).2.1 = i' at *
  generalize (rdf l 7 i e).2.2 = e' at *
  subst he
  have hw : IntKind.i64.wrap (v : Int) = (v : Int) := by rw [IntKind.wrap_i64]; omega
  have d1 : decide ((127 : Int) < (v : Int)) = false := decide_eq_false (by omega)
  have hl0 : (leftN l i' 0 : Int) = 8 * (l.length : Int) - (i' : Int) := by simp only [leftN, if_pos]; omega
  have d2 : decide (8 * (l.length : Int) - (i' : Int) < 8 * (v : Int)) = false := decide_eq_false (by omega)
  have HL := Lib.hid (fun (w : World) (h : Rd B G w g l i' 0) => left_any h hs hle)
  rw [hl0] at HL
  generalize 8 * (l.length : Int) - (i' : Int) = lf at *
  have hm : IntKind.i64.wrap (8 * (v : Int)) = 8 * (v : Int) := by rw [IntKind.wrap_i64]; omega
  have hmk := fun w => make_row v (by omega) w
  have HLE := Lib.hid hl
  clear hl0 hl hle
  go_enter Try.func94, Try.ntmps94
  go_wp2_with fail
  ((with_reducible refine (limit_127 _).mono ?_); rintro e w1 ⟨rfl, rfl⟩)
  go_wp2_with fail
  ((with_reducible refine (width_127 _).mono ?_); rintro e w1 ⟨rfl, rfl⟩)
  go_wp2_with fail
  ((with_reducible refine HF.out.mono ?_); rintro r w2 ⟨rfl, h2, b2⟩)
  have H2 := Lib.hid h2
  have HB2 := Lib.hid b2
  obtain ⟨c0, c1, c2, hf⟩ := Rd.cells h2
  clear h2 b2 c0 c1 hf
  go_wp2_with fail
  ((with_reducible refine (HL.out _ H2.out).mono ?_); rintro r w3 ⟨rfl, n3, rfl⟩)
  have H3 := Lib.hid (Rd.drewN H2.out n3)
  have HB3 := Lib.hid (HB2.out.trans (bel_drewN B w2 n3))
  clear H2 HB2 HL HF c2 d1 hw
  generalize World.drewN w2 n3 = w3 at H3 HB3 ⊢
  have HR0 := Lib.hid (Rd.allocG H3.out (.cells (rowB (List.replicate v 0)) 5))
  have HBL := Lib.hid (HB3.out.alloc (by have := HB3.out.size; have := Rd.lt H3.out; omega) (.cells (rowB (List.replicate v 0)) 5))
  have HGN : Hid (∀ p ∈ G, p.1 ≠ w3.heap.size) := Lib.hid (fun p hp => by have := Rd.guest_lt H3.out (k := p.1) (o := p.2) hp; omega)
  have HGB : Hid (B ≤ w3.heap.size) := Lib.hid (by have := Rd.lt H3.out; omega)
  clear H3 HB3
  go_wp2_with fail
  generalize World.alloc w3 (Obj.cells (rowB (List.replicate v 0)) 5) = w5 at HR0 HBL ⊢
  generalize w3.heap.size = gr at HR0 HGN HGB ⊢
  go_loopw [8, 42] (fun a j wr => ∃ k : Nat, k ≤ v ∧ j = .int .i64 k ∧ Hid (Rd B ((gr, .cells (rowB (half l i' v k)) 5 (0, 0)) :: G) wr g l (i' + 8 * k) 0) ∧ Hid (Below B w wr)) (fun a j _ => v - (intOf j).toNat)
  case atStart => exact ⟨0, Nat.zero_le _, rfl, by simpa [half, bytesAt] using HR0, HBL⟩
  case round =>
    clear HR0 HBL
    obtain ⟨k, hk, rfl, HR, HB⟩ := hrel
    by_cases hlt : k < v
    · have HG := Lib.hid (get_any HR.out hs 8 (by omega) (by have := HLE.out; omega))
      rw [show ((8 : Nat) : Int) = 8 from rfl] at HG
      have hx : valN (bitsAt l (i' + 8 * k) 8) < 2 ^ 8 := val_lt _ _ _
      have hc1 : IntKind.u8.wrap (valN (bitsAt l (i' + 8 * k) 8) : Int) = ((UInt8.ofNat (valN (bitsAt l (i' + 8 * k) 8))).toNat : Int) := by
        rw [IntKind.wrap_u8, UInt8.toNat_ofNat']; omega
      have hc2 : (valN (bitsAt l (i' + 8 * k) 8) : Int) % 256 = ((UInt8.ofNat (valN (bitsAt l (i' + 8 * k) 8))).toNat : Int) := by
        rw [UInt8.toNat_ofNat']; omega
      have HS := Lib.hid (half_set l i' v k hlt)
      generalize valN (bitsAt l (i' + 8 * k) 8) = x at *
      have HC2 := Lib.hid hc2
      generalize UInt8.ofNat x = c at *
      clear hx hc2
      have hhl : k < (half l i' v k).length := by rw [half_length _ _ _ _ hk]; exact hlt
      have HRG := Lib.hid (rowB_get (half l i' v k) k hhl)
      have HSET := Lib.hid (rowB_set (half l i' v k) k c)
      rw [HS.out] at HSET
      clear hhl HS
      have HK : Hid (i' + 8 * k + 8 = i' + 8 * (k + 1)) := Lib.hid (by omega)
      generalize rowB (half l i' v k) = row at *
      go_wp2_with fail
      ((with_reducible refine HG.out.mono ?_); rintro r w6 ⟨rfl, h6, b6⟩)
      obtain ⟨d0, f0⟩ := Rd.cellG h6 (.head _) HRG.out
      have H7 := Lib.hid (Rd.putG h6 HGN.out HSET.out)
      have HB7 := Lib.hid ((HB.out.trans b6).setCell (p := ⟨gr, k, none⟩) HGB.out (.int .u8 (c.toNat : Int)))
      clear h6 b6 HG HR HB
      go_wp2
      go_roundw
      case rel => exact ⟨k + 1, by omega, by go_num, by rw [← HK.out]; exact H7, HB7⟩
      case measure => simp [intOf]; omega
    · obtain rfl : k = v := by omega
      have hlen : (half l i' k k).length = k := half_length _ _ _ _ (Nat.le_refl _)
      have hcv := row_text wr gr (half l i' k k) (Rd.guest HR.out (.head _)) k
      rw [hlen, show half l i' k k = bytesAt l i' k by simp [half]] at hcv
      clear hlen
      have H9 := Lib.hid (Rd.drop HR.out)
      clear HR
      go_wp2
      go_ret
      exact ⟨rfl, H9.out, HB.out⟩
theorem text_any (h : Rd B G w g l i e) (hs : l.length ≤ 65536) (hi : i ≤ 8 * l.length) :
    Calls Try.prog 94 #[.pointer (some ⟨g, 0, none⟩), .int .i64 127] w fun r w' => r = .returned (.string (Str (rdText l i e).1)) ∧ Rd B G w' g l (rdText l i e).2.1 (rdText l i e).2.2 ∧ Below B w w' := by
  unfold rdText
  by_cases he : (rdf l 7 i e).2.2 = 0
  · rw [if_pos he]
    by_cases hl : 8 * l.length < (rdf l 7 i e).2.1 + 8 * (rdf l 7 i e).1
    · rw [if_pos hl]; exact text_short h hs hi he hl
    · rw [if_neg hl]; exact text_full h hs hi he (by omega)
  · rw [if_neg he]; exact text_err h hs hi he
end Go.Proofs.Ytbgnkjaikbhdoaa.RdT

-- PenW
namespace Go.Proofs.Ytbgnkjaikbhdoaa.PenW
set_option linter.unusedSimpArgs false
set_option linter.unusedVariables false
open Go.RowKit Go.Proofs.Ytbgnkjaikbhdoaa.Pack Go.Proofs.Ytbgnkjaikbhdoaa.Wr Go.Proofs.Ytbgnkjaikbhdoaa.WrPut Go.Proofs.Ytbgnkjaikbhdoaa.WrAll Go.Proofs.Ytbgnkjaikbhdoaa.WrText
open Go.Proofs.Ytbgnkjaikbhdoaa.Bytes (Str)

/-- A pen that writes. -/
abbrev Pw (g : Nat) : Value := .agg #[.pointer (some ⟨g, 0, none⟩), .pointer none]
/-- Its block. -/
abbrev Pb (g : Nat) : Obj := .cells #[.pointer (some ⟨g, 0, none⟩), .pointer none] 48
theorem guest_cell {B g gf j : Nat} {G : List (Nat × Obj)} {w : World} {l : List UInt8} {n : Nat} {err : Int} {cs : Array Value} {t : TypeId} {v : Value} (h : WrL B G w g l n err) (hG : (gf, .cells cs t) ∈ G) (hj : cs[j]? = some v) : w.cell? ⟨gf, j, none⟩ = some v := by
  have := h.guest hG
  rw [cell_of_row _ _ _ _ _ _ this]; exact hj
theorem guest_lt {B g gf : Nat} {G : List (Nat × Obj)} {w : World} {l : List UInt8} {n : Nat} {err : Int} {o : Obj} (h : WrL B G w g l n err) (hG : (gf, o) ∈ G) : gf < w.heap.size :=
  (Array.getElem?_eq_some_iff.1 (h.guest hG)).1
theorem not8 {cs : Array Value} {t : TypeId} (ht : t ≠ 5) : ¬ T8 (.cells cs t) := by
  rintro ⟨cur, e⟩; injection e with _ e; exact ht e
theorem pb_not8 (g : Nat) : ¬ T8 (Pb g) := not8 (by decide)

set_option maxRecDepth 100000 in
set_option maxHeartbeats 4000000 in
theorem unsigned_w {B g gf j k : Nat} {G : List (Nat × Obj)} {w : World} {bs : List Bool} {cs : Array Value} (h : Wr B G w g bs 0) (hG : (gf, .cells cs 23) ∈ G) (hk1 : 1 ≤ k) (hk : k ≤ 63) (n : Int) (hj : cs[j]? = some (.int .i64 n)) (h0 : 0 ≤ n) (h1 : n ≤ 4611686018427387903) (h2 : n.toNat < 2 ^ k) (hn : bs.length + k ≤ 524288) :
    Calls Try.prog 61 #[Pw g, .int .i64 (k : Int), .pointer (some ⟨gf, j, none⟩)] w fun e w' => e = .returned (.tuple #[]) ∧ Wr B G w' g (bs ++ (bitsN k n.toNat)) 0 ∧ Below B w w' := by
  have hlt := WrL.lt h
  have hB := h.1
  obtain ⟨w1, hw1⟩ : ∃ w1, w1 = w.alloc (Pb g) := ⟨_, rfl⟩
  obtain ⟨pb, hpb⟩ : ∃ pb, pb = w.heap.size := ⟨_, rfl⟩
  have hW1 : Wr B ((pb, Pb g) :: G) w1 g bs 0 := by rw [hw1, hpb]; exact WrL.allocG h _ (pb_not8 g)
  have hB1 : Below B w w1 := by rw [hw1]; exact Below.alloc (Below.refl B w) (by omega) _
  have p0 : w1.cell? ⟨pb, 0, none⟩ = some (.pointer (some ⟨g, 0, none⟩)) := guest_cell hW1 (.head _) rfl
  have p1 : w1.cell? ⟨pb, 1, none⟩ = some (.pointer none) := guest_cell hW1 (.head _) rfl
  have q0 : w1.cell? ⟨gf, j, none⟩ = some (.int .i64 n) := guest_cell hW1 (.tail _ hG) hj
  have HP := Lib.hid (unsigned_ok (WrL.drew (WrL.drop hW1)) k hk1 hk n h0 h1 h2 hn)
  have HB1 := Lib.hid (below_drew' hB1)
  clear h hG hW1 hB1 p1 hj h2
  go_enter Try.func61, Try.ntmps61
  go_wp2_with fail
  rw [← hw1, ← hpb]
  clear hw1 hpb
  refine wp_region_still_tail 6 (by kernel_rfl) (by kernel_rfl) ?_
  simp only [List.take_succ_cons, List.take_zero, List.drop_succ_cons, List.drop_zero]
  change wpStill _ _ (World.drew w1) (fun a' => wpList _ _ _ _ a' (World.drew w1)) _ _
  have p0' : w1.drew.cell? ⟨pb, 0, none⟩ = some (.pointer (some ⟨g, 0, none⟩)) := p0
  have q0' : w1.drew.cell? ⟨gf, j, none⟩ = some (.int .i64 n) := q0
  clear p0 q0
  generalize World.drew w1 = w2 at p0' q0' HP HB1 ⊢
  repeat still_step
  refine wpStill_nil ?_
  go_wp2_with fail
  refine HP.out.mono ?_
  rintro e w3 ⟨rfl, h3, b3⟩
  have H3 := Lib.hid h3
  have HB3 := Lib.hid (HB1.out.trans b3)
  clear h3 b3
  go_wp2_with fail
  go_end0
  exact ⟨rfl, H3.out, HB3.out⟩

set_option maxRecDepth 100000 in
set_option maxHeartbeats 4000000 in
theorem text_w {B g gf j : Nat} {G : List (Nat × Obj)} {w : World} {bs : List Bool} {cs : Array Value} (h : Wr B G w g bs 0) (hG : (gf, .cells cs 23) ∈ G) (l : List UInt8) (hj : cs[j]? = some (.string (Str l))) (hl : l.length ≤ 127) (hn : bs.length + 7 + 8 * l.length ≤ 500000) :
    Calls Try.prog 82 #[Pw g, .pointer (some ⟨gf, j, none⟩)] w fun e w' => e = .returned (.tuple #[]) ∧ Wr B G w' g (bs ++ (textBits l)) 0 ∧ Below B w w' := by
  have hlt := WrL.lt h
  have hB := h.1
  obtain ⟨w1, hw1⟩ : ∃ w1, w1 = w.alloc (Pb g) := ⟨_, rfl⟩
  obtain ⟨pb, hpb⟩ : ∃ pb, pb = w.heap.size := ⟨_, rfl⟩
  have hW1 : Wr B ((pb, Pb g) :: G) w1 g bs 0 := by rw [hw1, hpb]; exact WrL.allocG h _ (pb_not8 g)
  have hB1 : Below B w w1 := by rw [hw1]; exact Below.alloc (Below.refl B w) (by omega) _
  have p0 : w1.cell? ⟨pb, 0, none⟩ = some (.pointer (some ⟨g, 0, none⟩)) := guest_cell hW1 (.head _) rfl
  have p1 : w1.cell? ⟨pb, 1, none⟩ = some (.pointer none) := guest_cell hW1 (.head _) rfl
  have q0 : w1.cell? ⟨gf, j, none⟩ = some (.string (Str l)) := guest_cell hW1 (.tail _ hG) hj
  have HP := Lib.hid (text_ok (WrL.drew (WrL.drop hW1)) l hl hn)
  have HB1 := Lib.hid (below_drew' hB1)
  clear h hG hW1 hB1 p1 hj
  go_enter Try.func82, Try.ntmps82
  go_wp2_with fail
  rw [← hw1, ← hpb]
  clear hw1 hpb
  refine wp_region_still_tail 5 (by kernel_rfl) (by kernel_rfl) ?_
  simp only [List.take_succ_cons, List.take_zero, List.drop_succ_cons, List.drop_zero]
  change wpStill _ _ (World.drew w1) (fun a' => wpList _ _ _ _ a' (World.drew w1)) _ _
  have p0' : w1.drew.cell? ⟨pb, 0, none⟩ = some (.pointer (some ⟨g, 0, none⟩)) := p0
  have q0' : w1.drew.cell? ⟨gf, j, none⟩ = some (.string (Str l)) := q0
  clear p0 q0
  generalize World.drew w1 = w2 at p0' q0' HP HB1 ⊢
  repeat still_step
  refine wpStill_nil ?_
  go_wp2_with fail
  refine HP.out.mono ?_
  rintro e w3 ⟨rfl, h3, b3⟩
  have H3 := Lib.hid h3
  have HB3 := Lib.hid (HB1.out.trans b3)
  clear h3 b3
  go_wp2_with fail
  go_end0
  exact ⟨rfl, H3.out, HB3.out⟩

set_option maxRecDepth 100000 in
set_option maxHeartbeats 4000000 in
theorem ack_w {B g gf : Nat} {G : List (Nat × Obj)} {w : World} {bs : List Bool} {cs : Array Value} (h : Wr B G w g bs 0) (hG : (gf, .cells cs 23) ∈ G) (n : Int) (hj : cs[7]? = some (.int .i64 n)) (h0 : -32768 ≤ n) (h1 : n ≤ 32767) (hn : bs.length + 16 ≤ 524288) :
    Calls Try.prog 58 #[Pw g, .pointer (some ⟨gf, 0, none⟩)] w fun e w' => e = .returned (.tuple #[]) ∧ Wr B G w' g (bs ++ (bitsN 16 (n % 18446744073709551616).toNat)) 0 ∧ Below B w w' := by
  have hlt := WrL.lt h
  have hB := h.1
  obtain ⟨w1, hw1⟩ : ∃ w1, w1 = w.alloc (Pb g) := ⟨_, rfl⟩
  obtain ⟨pb, hpb⟩ : ∃ pb, pb = w.heap.size := ⟨_, rfl⟩
  have hW1 : Wr B ((pb, Pb g) :: G) w1 g bs 0 := by rw [hw1, hpb]; exact WrL.allocG h _ (pb_not8 g)
  have hB1 : Below B w w1 := by rw [hw1]; exact Below.alloc (Below.refl B w) (by omega) _
  have p0 : w1.cell? ⟨pb, 0, none⟩ = some (.pointer (some ⟨g, 0, none⟩)) := guest_cell hW1 (.head _) rfl
  have p1 : w1.cell? ⟨pb, 1, none⟩ = some (.pointer none) := guest_cell hW1 (.head _) rfl
  have q0 : w1.cell? ⟨gf, 7, none⟩ = some (.int .i64 n) := guest_cell hW1 (.tail _ hG) hj
  have HP := Lib.hid (signed_ok (WrL.drew (WrL.drop hW1)) n h0 h1 hn)
  have HB1 := Lib.hid (below_drew' hB1)
  clear h hG hW1 hB1 p1 hj
  go_enter Try.func58, Try.ntmps58
  go_wp2_with fail
  rw [← hw1, ← hpb]
  clear hw1 hpb
  refine wp_region_still_tail 6 (by kernel_rfl) (by kernel_rfl) ?_
  simp only [List.take_succ_cons, List.take_zero, List.drop_succ_cons, List.drop_zero]
  change wpStill _ _ (World.drew w1) (fun a' => wpList _ _ _ _ a' (World.drew w1)) _ _
  have p0' : w1.drew.cell? ⟨pb, 0, none⟩ = some (.pointer (some ⟨g, 0, none⟩)) := p0
  have q0' : w1.drew.cell? ⟨gf, 7, none⟩ = some (.int .i64 n) := q0
  clear p0 q0
  generalize World.drew w1 = w2 at p0' q0' HP HB1 ⊢
  repeat still_step
  refine wpStill_nil ?_
  go_wp2_with fail
  refine HP.out.mono ?_
  rintro e w3 ⟨rfl, h3, b3⟩
  have H3 := Lib.hid h3
  have HB3 := Lib.hid (HB1.out.trans b3)
  clear h3 b3
  go_wp2_with fail
  go_end0
  exact ⟨rfl, H3.out, HB3.out⟩

set_option maxRecDepth 100000 in
set_option maxHeartbeats 4000000 in
theorem text_w_long {B g gf j : Nat} {G : List (Nat × Obj)} {w : World} {bs : List Bool} {cs : Array Value} (h : Wr B G w g bs 0) (hG : (gf, .cells cs 23) ∈ G) (l : List UInt8) (hj : cs[j]? = some (.string (Str l))) (hl : 127 < l.length) :
    Calls Try.prog 82 #[Pw g, .pointer (some ⟨gf, j, none⟩)] w fun e w' => e = .returned (.tuple #[]) ∧ Wr B G w' g bs 8 ∧ Below B w w' := by
  have hlt := WrL.lt h
  have hB := h.1
  obtain ⟨w1, hw1⟩ : ∃ w1, w1 = w.alloc (Pb g) := ⟨_, rfl⟩
  obtain ⟨pb, hpb⟩ : ∃ pb, pb = w.heap.size := ⟨_, rfl⟩
  have hW1 : Wr B ((pb, Pb g) :: G) w1 g bs 0 := by rw [hw1, hpb]; exact WrL.allocG h _ (pb_not8 g)
  have hB1 : Below B w w1 := by rw [hw1]; exact Below.alloc (Below.refl B w) (by omega) _
  have p0 : w1.cell? ⟨pb, 0, none⟩ = some (.pointer (some ⟨g, 0, none⟩)) := guest_cell hW1 (.head _) rfl
  have p1 : w1.cell? ⟨pb, 1, none⟩ = some (.pointer none) := guest_cell hW1 (.head _) rfl
  have q0 : w1.cell? ⟨gf, j, none⟩ = some (.string (Str l)) := guest_cell hW1 (.tail _ hG) hj
  have HP := Lib.hid (text_long (WrL.drew (WrL.drop hW1)) l hl)
  have HB1 := Lib.hid (below_drew' hB1)
  clear h hG hW1 hB1 p1 hj
  go_enter Try.func82, Try.ntmps82
  go_wp2_with fail
  rw [← hw1, ← hpb]
  clear hw1 hpb
  refine wp_region_still_tail 5 (by kernel_rfl) (by kernel_rfl) ?_
  simp only [List.take_succ_cons, List.take_zero, List.drop_succ_cons, List.drop_zero]
  change wpStill _ _ (World.drew w1) (fun a' => wpList _ _ _ _ a' (World.drew w1)) _ _
  have p0' : w1.drew.cell? ⟨pb, 0, none⟩ = some (.pointer (some ⟨g, 0, none⟩)) := p0
  have q0' : w1.drew.cell? ⟨gf, j, none⟩ = some (.string (Str l)) := q0
  clear p0 q0
  generalize World.drew w1 = w2 at p0' q0' HP HB1 ⊢
  repeat still_step
  refine wpStill_nil ?_
  go_wp2_with fail
  refine HP.out.mono ?_
  rintro e w3 ⟨rfl, h3, b3⟩
  have H3 := Lib.hid h3
  have HB3 := Lib.hid (HB1.out.trans b3)
  clear h3 b3
  go_wp2_with fail
  go_end0
  exact ⟨rfl, H3.out, HB3.out⟩

/-- A store that writes what stands there. -/
theorem again {B g gf j : Nat} {G : List (Nat × Obj)} {w : World} {l : List UInt8} {n : Nat} {err : Int} {cs : Array Value} {t : TypeId} {v : Value} (h : WrL B G w g l n err) (hG : (gf, .cells cs t) ∈ G) (hj : cs[j]? = some v) : WrL B G (w.setCell ⟨gf, j, none⟩ v) g l n err := by
  obtain ⟨hf, hne, hn8⟩ := h.2.2 _ hG
  have same : ∀ k : Nat, (w.setCell ⟨gf, j, none⟩ v).heap[k]? = w.heap[k]? := by
    intro k
    by_cases e : k = gf
    · subst e
      have hh : w.heap[k]? = some (.cells cs t (0, 0)) := hf
      rw [heap_setCell_same _ _ _ _ _ _ hh, hh]
      congr 2
      apply Array.ext_getElem?
      intro i
      rw [Array.getElem?_setIfInBounds]
      split
      · rename_i e; subst e
        have := (Array.getElem?_eq_some_iff.1 hj).1
        rw [if_pos this, hj]
      · rfl
    · rw [heap_setCell_other _ _ _ _ e]
  obtain ⟨h1, ⟨v', hv, hr⟩, hGG⟩ := h
  refine ⟨h1, ⟨v', by rw [same]; exact hv, hr.1, ?_⟩, fun p hp => ?_⟩
  · rcases hr.2 with b | ⟨gr, cap, cur, b1, b2, b3, b4⟩
    · exact .inl b
    · exact .inr ⟨gr, cap, cur, b1, b2, by rw [same]; exact b3, b4⟩
  · obtain ⟨a, b, c⟩ := hGG p hp
    exact ⟨by rw [same]; exact a, b, c⟩
theorem again_below {B g gf j : Nat} {G : List (Nat × Obj)} {w w1 : World} {l : List UInt8} {n : Nat} {err : Int} {cs : Array Value} {t : TypeId} {v : Value} (hb : Below B w w1) (h : WrL B G w1 g l n err) (hG : (gf, .cells cs t) ∈ G) (hj : cs[j]? = some v) : Below B w (w1.setCell ⟨gf, j, none⟩ v) := by
  obtain ⟨hf, hne, hn8⟩ := h.2.2 _ hG
  have hh : w1.heap[gf]? = some (.cells cs t (0, 0)) := hf
  refine ⟨hb.os, hb.tape, hb.output, by simpa using hb.size, fun i hi => ?_⟩
  by_cases e : i = gf
  · subst e
    rw [heap_setCell_same _ _ _ _ _ _ hh, ← hb.block i hi, hh]
    congr 2
    apply Array.ext_getElem?
    intro k
    rw [Array.getElem?_setIfInBounds]
    split
    · rename_i e; subst e
      have := (Array.getElem?_eq_some_iff.1 hj).1
      rw [if_pos this, hj]
    · rfl
  · rw [heap_setCell_other _ _ _ _ e]; exact hb.block i hi

set_option maxRecDepth 100000 in
set_option maxHeartbeats 4000000 in
theorem data_w {B g gf : Nat} {G : List (Nat × Obj)} {w : World} {bs : List Bool} {cs : Array Value} (h : Wr B G w g bs 0) (hG : (gf, .cells cs 23) ∈ G) (f : Int) (hcf : cs[5]? = some (.int .i64 f)) (hlf : 0 ≤ f) (huf : f ≤ 255) (m : Int) (hcm : cs[6]? = some (.int .i64 m)) (hlm : 0 ≤ m) (hum : m ≤ 65535) (l : List UInt8) (hcl : cs[11]? = some (.string (Str l))) (hl7 : l.length ≤ 127) (hn : bs.length ≤ 100) :
    Calls Try.prog 57 #[Pw g, .pointer (some ⟨gf, 0, none⟩)] w fun e w' => e = .returned (.tuple #[]) ∧ Wr B G w' g (bs ++ (bitsN 8 f.toNat ++ bitsN 16 m.toNat ++ textBits l)) 0 ∧ Below B w w' := by
  have hlt := WrL.lt h
  have hB := h.1
  obtain ⟨w1, hw1⟩ : ∃ w1, w1 = w.alloc (Pb g) := ⟨_, rfl⟩
  obtain ⟨pb, hpb⟩ : ∃ pb, pb = w.heap.size := ⟨_, rfl⟩
  have hW1 : Wr B ((pb, Pb g) :: G) w1 g bs 0 := by rw [hw1, hpb]; exact WrL.allocG h _ (pb_not8 g)
  have hB1 : Below B w w1 := by rw [hw1]; exact Below.alloc (Below.refl B w) (by omega) _
  have p0 : w1.cell? ⟨pb, 0, none⟩ = some (.pointer (some ⟨g, 0, none⟩)) := guest_cell hW1 (.head _) rfl
  have p1 : w1.cell? ⟨pb, 1, none⟩ = some (.pointer none) := guest_cell hW1 (.head _) rfl
  have HW1 := Lib.hid hW1
  have HB1 := Lib.hid hB1
  have HG := Lib.hid hG
  clear h hW1 hB1 hG
  go_enter Try.func57, Try.ntmps57
  go_wp2_with fail
  rw [← hw1, ← hpb]
  clear hw1 hpb

  refine wp_region_still_tail 4 (by kernel_rfl) (by kernel_rfl) ?_
  simp only [List.take_succ_cons, List.take_zero, List.drop_succ_cons, List.drop_zero]
  change wpStill _ _ (World.drew w1) (fun a' => wpList _ _ _ _ a' (World.drew w1)) _ _
  have r0 : (World.drew w1).cell? ⟨pb, 0, none⟩ = some (.pointer (some ⟨g, 0, none⟩)) := p0
  have r1 : (World.drew w1).cell? ⟨pb, 1, none⟩ = some (.pointer none) := p1
  have HWd := Lib.hid (WrL.drew HW1.out)
  have HBd := Lib.hid (below_drew' HB1.out)
  clear p0 p1 HW1 HB1
  generalize World.drew w1 = wa0 at r0 r1 HWd HBd ⊢
  repeat still_step
  refine wpStill_nil ?_
  clear r0 r1
  go_wp2_with fail
  refine (unsigned_w (j := 5) (show Wr _ _ _ _ _ _ from HWd.out) (.tail _ HG.out) (k := 8) (by omega) (by omega) f hcf hlf (by omega) (by omega) (by first | omega | (simp only [List.length_append, bitsN_length]; omega))).mono ?_
  rintro e wb0 ⟨rfl, h3, b3⟩
  have HW1 := Lib.hid h3
  have HB1 := Lib.hid (HBd.out.trans b3)
  clear h3 b3 HWd HBd
  have p0 : wb0.cell? ⟨pb, 0, none⟩ = some (.pointer (some ⟨g, 0, none⟩)) := guest_cell HW1.out (.head _) rfl
  have p1 : wb0.cell? ⟨pb, 1, none⟩ = some (.pointer none) := guest_cell HW1.out (.head _) rfl
  go_wp2_with fail
  refine wp_region_still_tail 4 (by kernel_rfl) (by kernel_rfl) ?_
  simp only [List.take_succ_cons, List.take_zero, List.drop_succ_cons, List.drop_zero]
  change wpStill _ _ (World.drew wb0) (fun a' => wpList _ _ _ _ a' (World.drew wb0)) _ _
  have r0 : (World.drew wb0).cell? ⟨pb, 0, none⟩ = some (.pointer (some ⟨g, 0, none⟩)) := p0
  have r1 : (World.drew wb0).cell? ⟨pb, 1, none⟩ = some (.pointer none) := p1
  have HWd := Lib.hid (WrL.drew HW1.out)
  have HBd := Lib.hid (below_drew' HB1.out)
  clear p0 p1 HW1 HB1
  generalize World.drew wb0 = wa1 at r0 r1 HWd HBd ⊢
  repeat still_step
  refine wpStill_nil ?_
  clear r0 r1
  go_wp2_with fail
  refine (unsigned_w (j := 6) (show Wr _ _ _ _ _ _ from HWd.out) (.tail _ HG.out) (k := 16) (by omega) (by omega) m hcm hlm (by omega) (by omega) (by first | omega | (simp only [List.length_append, bitsN_length]; omega))).mono ?_
  rintro e wb1 ⟨rfl, h3, b3⟩
  have HW1 := Lib.hid h3
  have HB1 := Lib.hid (HBd.out.trans b3)
  clear h3 b3 HWd HBd
  have p0 : wb1.cell? ⟨pb, 0, none⟩ = some (.pointer (some ⟨g, 0, none⟩)) := guest_cell HW1.out (.head _) rfl
  have p1 : wb1.cell? ⟨pb, 1, none⟩ = some (.pointer none) := guest_cell HW1.out (.head _) rfl
  go_wp2_with fail
  refine wp_region_still_tail 4 (by kernel_rfl) (by kernel_rfl) ?_
  simp only [List.take_succ_cons, List.take_zero, List.drop_succ_cons, List.drop_zero]
  change wpStill _ _ (World.drew wb1) (fun a' => wpList _ _ _ _ a' (World.drew wb1)) _ _
  have r0 : (World.drew wb1).cell? ⟨pb, 0, none⟩ = some (.pointer (some ⟨g, 0, none⟩)) := p0
  have r1 : (World.drew wb1).cell? ⟨pb, 1, none⟩ = some (.pointer none) := p1
  have HWd := Lib.hid (WrL.drew HW1.out)
  have HBd := Lib.hid (below_drew' HB1.out)
  clear p0 p1 HW1 HB1
  generalize World.drew wb1 = wa2 at r0 r1 HWd HBd ⊢
  repeat still_step
  refine wpStill_nil ?_
  clear r0 r1
  go_wp2_with fail
  refine (text_w (j := 11) (show Wr _ _ _ _ _ _ from HWd.out) (.tail _ HG.out) l hcl hl7 (by first | omega | (simp only [List.length_append, bitsN_length]; omega))).mono ?_
  rintro e wb2 ⟨rfl, h3, b3⟩
  have HW1 := Lib.hid h3
  have HB1 := Lib.hid (HBd.out.trans b3)
  clear h3 b3 HWd HBd
  go_wp2_with fail
  go_end0
  have h9 : Wr B G _ g _ _ := WrL.drop HW1.out
  exact ⟨rfl, by simpa only [List.append_assoc, List.append_nil] using h9, HB1.out⟩

set_option maxRecDepth 100000 in
set_option maxHeartbeats 4000000 in
theorem beacon_w {B g gf : Nat} {G : List (Nat × Obj)} {w : World} {bs : List Bool} {cs : Array Value} (h : Wr B G w g bs 0) (hG : (gf, .cells cs 23) ∈ G) (s : Int) (hcs : cs[8]? = some (.int .i64 s)) (hls : 0 ≤ s) (hus : s ≤ 109951162) (r : Int) (hcr : cs[9]? = some (.int .i64 r)) (hlr : 0 ≤ r) (hur : r ≤ 65535) (q : Int) (hcq : cs[10]? = some (.int .i64 q)) (hlq : 0 ≤ q) (huq : q ≤ 65535) (l : List UInt8) (hcl : cs[11]? = some (.string (Str l))) (hl7 : l.length ≤ 127) (hn : bs.length ≤ 100) :
    Calls Try.prog 59 #[Pw g, .pointer (some ⟨gf, 0, none⟩)] w fun e w' => e = .returned (.tuple #[]) ∧ Wr B G w' g (bs ++ (bitsN 27 s.toNat ++ bitsN 16 r.toNat ++ bitsN 16 q.toNat ++ textBits l)) 0 ∧ Below B w w' := by
  have hlt := WrL.lt h
  have hB := h.1
  obtain ⟨w1, hw1⟩ : ∃ w1, w1 = w.alloc (Pb g) := ⟨_, rfl⟩
  obtain ⟨pb, hpb⟩ : ∃ pb, pb = w.heap.size := ⟨_, rfl⟩
  have hW1 : Wr B ((pb, Pb g) :: G) w1 g bs 0 := by rw [hw1, hpb]; exact WrL.allocG h _ (pb_not8 g)
  have hB1 : Below B w w1 := by rw [hw1]; exact Below.alloc (Below.refl B w) (by omega) _
  have p0 : w1.cell? ⟨pb, 0, none⟩ = some (.pointer (some ⟨g, 0, none⟩)) := guest_cell hW1 (.head _) rfl
  have p1 : w1.cell? ⟨pb, 1, none⟩ = some (.pointer none) := guest_cell hW1 (.head _) rfl
  have HW1 := Lib.hid hW1
  have HB1 := Lib.hid hB1
  have HG := Lib.hid hG
  clear h hW1 hB1 hG
  go_enter Try.func59, Try.ntmps59
  go_wp2_with fail
  rw [← hw1, ← hpb]
  clear hw1 hpb

  refine wp_region_still_tail 4 (by kernel_rfl) (by kernel_rfl) ?_
  simp only [List.take_succ_cons, List.take_zero, List.drop_succ_cons, List.drop_zero]
  change wpStill _ _ (World.drew w1) (fun a' => wpList _ _ _ _ a' (World.drew w1)) _ _
  have r0 : (World.drew w1).cell? ⟨pb, 0, none⟩ = some (.pointer (some ⟨g, 0, none⟩)) := p0
  have r1 : (World.drew w1).cell? ⟨pb, 1, none⟩ = some (.pointer none) := p1
  have HWd := Lib.hid (WrL.drew HW1.out)
  have HBd := Lib.hid (below_drew' HB1.out)
  clear p0 p1 HW1 HB1
  generalize World.drew w1 = wa0 at r0 r1 HWd HBd ⊢
  repeat still_step
  refine wpStill_nil ?_
  clear r0 r1
  go_wp2_with fail
  refine (unsigned_w (j := 8) (show Wr _ _ _ _ _ _ from HWd.out) (.tail _ HG.out) (k := 27) (by omega) (by omega) s hcs hls (by omega) (by omega) (by first | omega | (simp only [List.length_append, bitsN_length]; omega))).mono ?_
  rintro e wb0 ⟨rfl, h3, b3⟩
  have HW1 := Lib.hid h3
  have HB1 := Lib.hid (HBd.out.trans b3)
  clear h3 b3 HWd HBd
  have p0 : wb0.cell? ⟨pb, 0, none⟩ = some (.pointer (some ⟨g, 0, none⟩)) := guest_cell HW1.out (.head _) rfl
  have p1 : wb0.cell? ⟨pb, 1, none⟩ = some (.pointer none) := guest_cell HW1.out (.head _) rfl
  go_wp2_with fail
  refine wp_region_still_tail 4 (by kernel_rfl) (by kernel_rfl) ?_
  simp only [List.take_succ_cons, List.take_zero, List.drop_succ_cons, List.drop_zero]
  change wpStill _ _ (World.drew wb0) (fun a' => wpList _ _ _ _ a' (World.drew wb0)) _ _
  have r0 : (World.drew wb0).cell? ⟨pb, 0, none⟩ = some (.pointer (some ⟨g, 0, none⟩)) := p0
  have r1 : (World.drew wb0).cell? ⟨pb, 1, none⟩ = some (.pointer none) := p1
  have HWd := Lib.hid (WrL.drew HW1.out)
  have HBd := Lib.hid (below_drew' HB1.out)
  clear p0 p1 HW1 HB1
  generalize World.drew wb0 = wa1 at r0 r1 HWd HBd ⊢
  repeat still_step
  refine wpStill_nil ?_
  clear r0 r1
  go_wp2_with fail
  refine (unsigned_w (j := 9) (show Wr _ _ _ _ _ _ from HWd.out) (.tail _ HG.out) (k := 16) (by omega) (by omega) r hcr hlr (by omega) (by omega) (by first | omega | (simp only [List.length_append, bitsN_length]; omega))).mono ?_
  rintro e wb1 ⟨rfl, h3, b3⟩
  have HW1 := Lib.hid h3
  have HB1 := Lib.hid (HBd.out.trans b3)
  clear h3 b3 HWd HBd
  have p0 : wb1.cell? ⟨pb, 0, none⟩ = some (.pointer (some ⟨g, 0, none⟩)) := guest_cell HW1.out (.head _) rfl
  have p1 : wb1.cell? ⟨pb, 1, none⟩ = some (.pointer none) := guest_cell HW1.out (.head _) rfl
  go_wp2_with fail
  refine wp_region_still_tail 4 (by kernel_rfl) (by kernel_rfl) ?_
  simp only [List.take_succ_cons, List.take_zero, List.drop_succ_cons, List.drop_zero]
  change wpStill _ _ (World.drew wb1) (fun a' => wpList _ _ _ _ a' (World.drew wb1)) _ _
  have r0 : (World.drew wb1).cell? ⟨pb, 0, none⟩ = some (.pointer (some ⟨g, 0, none⟩)) := p0
  have r1 : (World.drew wb1).cell? ⟨pb, 1, none⟩ = some (.pointer none) := p1
  have HWd := Lib.hid (WrL.drew HW1.out)
  have HBd := Lib.hid (below_drew' HB1.out)
  clear p0 p1 HW1 HB1
  generalize World.drew wb1 = wa2 at r0 r1 HWd HBd ⊢
  repeat still_step
  refine wpStill_nil ?_
  clear r0 r1
  go_wp2_with fail
  refine (unsigned_w (j := 10) (show Wr _ _ _ _ _ _ from HWd.out) (.tail _ HG.out) (k := 16) (by omega) (by omega) q hcq hlq (by omega) (by omega) (by first | omega | (simp only [List.length_append, bitsN_length]; omega))).mono ?_
  rintro e wb2 ⟨rfl, h3, b3⟩
  have HW1 := Lib.hid h3
  have HB1 := Lib.hid (HBd.out.trans b3)
  clear h3 b3 HWd HBd
  have p0 : wb2.cell? ⟨pb, 0, none⟩ = some (.pointer (some ⟨g, 0, none⟩)) := guest_cell HW1.out (.head _) rfl
  have p1 : wb2.cell? ⟨pb, 1, none⟩ = some (.pointer none) := guest_cell HW1.out (.head _) rfl
  go_wp2_with fail
  refine wp_region_still_tail 4 (by kernel_rfl) (by kernel_rfl) ?_
  simp only [List.take_succ_cons, List.take_zero, List.drop_succ_cons, List.drop_zero]
  change wpStill _ _ (World.drew wb2) (fun a' => wpList _ _ _ _ a' (World.drew wb2)) _ _
  have r0 : (World.drew wb2).cell? ⟨pb, 0, none⟩ = some (.pointer (some ⟨g, 0, none⟩)) := p0
  have r1 : (World.drew wb2).cell? ⟨pb, 1, none⟩ = some (.pointer none) := p1
  have HWd := Lib.hid (WrL.drew HW1.out)
  have HBd := Lib.hid (below_drew' HB1.out)
  clear p0 p1 HW1 HB1
  generalize World.drew wb2 = wa3 at r0 r1 HWd HBd ⊢
  repeat still_step
  refine wpStill_nil ?_
  clear r0 r1
  go_wp2_with fail
  refine (text_w (j := 11) (show Wr _ _ _ _ _ _ from HWd.out) (.tail _ HG.out) l hcl hl7 (by first | omega | (simp only [List.length_append, bitsN_length]; omega))).mono ?_
  rintro e wb3 ⟨rfl, h3, b3⟩
  have HW1 := Lib.hid h3
  have HB1 := Lib.hid (HBd.out.trans b3)
  clear h3 b3 HWd HBd
  go_wp2_with fail
  go_end0
  have h9 : Wr B G _ g _ _ := WrL.drop HW1.out
  exact ⟨rfl, by simpa only [List.append_assoc, List.append_nil] using h9, HB1.out⟩

set_option maxRecDepth 100000 in
set_option maxHeartbeats 4000000 in
theorem message_w {B g gf : Nat} {G : List (Nat × Obj)} {w : World} {bs : List Bool} {cs : Array Value} (h : Wr B G w g bs 0) (hG : (gf, .cells cs 23) ∈ G) (l : List UInt8) (hcl : cs[11]? = some (.string (Str l))) (hl7 : l.length ≤ 127) (hn : bs.length ≤ 100) :
    Calls Try.prog 60 #[Pw g, .pointer (some ⟨gf, 0, none⟩)] w fun e w' => e = .returned (.tuple #[]) ∧ Wr B G w' g (bs ++ (textBits l)) 0 ∧ Below B w w' := by
  have hlt := WrL.lt h
  have hB := h.1
  obtain ⟨w1, hw1⟩ : ∃ w1, w1 = w.alloc (Pb g) := ⟨_, rfl⟩
  obtain ⟨pb, hpb⟩ : ∃ pb, pb = w.heap.size := ⟨_, rfl⟩
  have hW1 : Wr B ((pb, Pb g) :: G) w1 g bs 0 := by rw [hw1, hpb]; exact WrL.allocG h _ (pb_not8 g)
  have hB1 : Below B w w1 := by rw [hw1]; exact Below.alloc (Below.refl B w) (by omega) _
  have p0 : w1.cell? ⟨pb, 0, none⟩ = some (.pointer (some ⟨g, 0, none⟩)) := guest_cell hW1 (.head _) rfl
  have p1 : w1.cell? ⟨pb, 1, none⟩ = some (.pointer none) := guest_cell hW1 (.head _) rfl
  have HW1 := Lib.hid hW1
  have HB1 := Lib.hid hB1
  have HG := Lib.hid hG
  clear h hW1 hB1 hG
  go_enter Try.func60, Try.ntmps60
  go_wp2_with fail
  rw [← hw1, ← hpb]
  clear hw1 hpb

  refine wp_region_still_tail 4 (by kernel_rfl) (by kernel_rfl) ?_
  simp only [List.take_succ_cons, List.take_zero, List.drop_succ_cons, List.drop_zero]
  change wpStill _ _ (World.drew w1) (fun a' => wpList _ _ _ _ a' (World.drew w1)) _ _
  have r0 : (World.drew w1).cell? ⟨pb, 0, none⟩ = some (.pointer (some ⟨g, 0, none⟩)) := p0
  have r1 : (World.drew w1).cell? ⟨pb, 1, none⟩ = some (.pointer none) := p1
  have HWd := Lib.hid (WrL.drew HW1.out)
  have HBd := Lib.hid (below_drew' HB1.out)
  clear p0 p1 HW1 HB1
  generalize World.drew w1 = wa0 at r0 r1 HWd HBd ⊢
  repeat still_step
  refine wpStill_nil ?_
  clear r0 r1
  go_wp2_with fail
  refine (text_w (j := 11) (show Wr _ _ _ _ _ _ from HWd.out) (.tail _ HG.out) l hcl hl7 (by first | omega | (simp only [List.length_append, bitsN_length]; omega))).mono ?_
  rintro e wb0 ⟨rfl, h3, b3⟩
  have HW1 := Lib.hid h3
  have HB1 := Lib.hid (HBd.out.trans b3)
  clear h3 b3 HWd HBd
  go_wp2_with fail
  go_end0
  have h9 : Wr B G _ g _ _ := WrL.drop HW1.out
  exact ⟨rfl, by simpa only [List.append_assoc, List.append_nil] using h9, HB1.out⟩

set_option maxRecDepth 100000 in
set_option maxHeartbeats 4000000 in
theorem data_w_long {B g gf : Nat} {G : List (Nat × Obj)} {w : World} {bs : List Bool} {cs : Array Value} (h : Wr B G w g bs 0) (hG : (gf, .cells cs 23) ∈ G) (f : Int) (hcf : cs[5]? = some (.int .i64 f)) (hlf : 0 ≤ f) (huf : f ≤ 255) (m : Int) (hcm : cs[6]? = some (.int .i64 m)) (hlm : 0 ≤ m) (hum : m ≤ 65535) (l : List UInt8) (hcl : cs[11]? = some (.string (Str l))) (hl7 : 127 < l.length) (hn : bs.length ≤ 100) :
    Calls Try.prog 57 #[Pw g, .pointer (some ⟨gf, 0, none⟩)] w fun e w' => e = .returned (.tuple #[]) ∧ Wr B G w' g (bs ++ (bitsN 8 f.toNat ++ bitsN 16 m.toNat)) 8 ∧ Below B w w' := by
  have hlt := WrL.lt h
  have hB := h.1
  obtain ⟨w1, hw1⟩ : ∃ w1, w1 = w.alloc (Pb g) := ⟨_, rfl⟩
  obtain ⟨pb, hpb⟩ : ∃ pb, pb = w.heap.size := ⟨_, rfl⟩
  have hW1 : Wr B ((pb, Pb g) :: G) w1 g bs 0 := by rw [hw1, hpb]; exact WrL.allocG h _ (pb_not8 g)
  have hB1 : Below B w w1 := by rw [hw1]; exact Below.alloc (Below.refl B w) (by omega) _
  have p0 : w1.cell? ⟨pb, 0, none⟩ = some (.pointer (some ⟨g, 0, none⟩)) := guest_cell hW1 (.head _) rfl
  have p1 : w1.cell? ⟨pb, 1, none⟩ = some (.pointer none) := guest_cell hW1 (.head _) rfl
  have HW1 := Lib.hid hW1
  have HB1 := Lib.hid hB1
  have HG := Lib.hid hG
  clear h hW1 hB1 hG
  go_enter Try.func57, Try.ntmps57
  go_wp2_with fail
  rw [← hw1, ← hpb]
  clear hw1 hpb

  refine wp_region_still_tail 4 (by kernel_rfl) (by kernel_rfl) ?_
  simp only [List.take_succ_cons, List.take_zero, List.drop_succ_cons, List.drop_zero]
  change wpStill _ _ (World.drew w1) (fun a' => wpList _ _ _ _ a' (World.drew w1)) _ _
  have r0 : (World.drew w1).cell? ⟨pb, 0, none⟩ = some (.pointer (some ⟨g, 0, none⟩)) := p0
  have r1 : (World.drew w1).cell? ⟨pb, 1, none⟩ = some (.pointer none) := p1
  have HWd := Lib.hid (WrL.drew HW1.out)
  have HBd := Lib.hid (below_drew' HB1.out)
  clear p0 p1 HW1 HB1
  generalize World.drew w1 = wa0 at r0 r1 HWd HBd ⊢
  repeat still_step
  refine wpStill_nil ?_
  clear r0 r1
  go_wp2_with fail
  refine (unsigned_w (j := 5) (show Wr _ _ _ _ _ _ from HWd.out) (.tail _ HG.out) (k := 8) (by omega) (by omega) f hcf hlf (by omega) (by omega) (by first | omega | (simp only [List.length_append, bitsN_length]; omega))).mono ?_
  rintro e wb0 ⟨rfl, h3, b3⟩
  have HW1 := Lib.hid h3
  have HB1 := Lib.hid (HBd.out.trans b3)
  clear h3 b3 HWd HBd
  have p0 : wb0.cell? ⟨pb, 0, none⟩ = some (.pointer (some ⟨g, 0, none⟩)) := guest_cell HW1.out (.head _) rfl
  have p1 : wb0.cell? ⟨pb, 1, none⟩ = some (.pointer none) := guest_cell HW1.out (.head _) rfl
  go_wp2_with fail
  refine wp_region_still_tail 4 (by kernel_rfl) (by kernel_rfl) ?_
  simp only [List.take_succ_cons, List.take_zero, List.drop_succ_cons, List.drop_zero]
  change wpStill _ _ (World.drew wb0) (fun a' => wpList _ _ _ _ a' (World.drew wb0)) _ _
  have r0 : (World.drew wb0).cell? ⟨pb, 0, none⟩ = some (.pointer (some ⟨g, 0, none⟩)) := p0
  have r1 : (World.drew wb0).cell? ⟨pb, 1, none⟩ = some (.pointer none) := p1
  have HWd := Lib.hid (WrL.drew HW1.out)
  have HBd := Lib.hid (below_drew' HB1.out)
  clear p0 p1 HW1 HB1
  generalize World.drew wb0 = wa1 at r0 r1 HWd HBd ⊢
  repeat still_step
  refine wpStill_nil ?_
  clear r0 r1
  go_wp2_with fail
  refine (unsigned_w (j := 6) (show Wr _ _ _ _ _ _ from HWd.out) (.tail _ HG.out) (k := 16) (by omega) (by omega) m hcm hlm (by omega) (by omega) (by first | omega | (simp only [List.length_append, bitsN_length]; omega))).mono ?_
  rintro e wb1 ⟨rfl, h3, b3⟩
  have HW1 := Lib.hid h3
  have HB1 := Lib.hid (HBd.out.trans b3)
  clear h3 b3 HWd HBd
  have p0 : wb1.cell? ⟨pb, 0, none⟩ = some (.pointer (some ⟨g, 0, none⟩)) := guest_cell HW1.out (.head _) rfl
  have p1 : wb1.cell? ⟨pb, 1, none⟩ = some (.pointer none) := guest_cell HW1.out (.head _) rfl
  go_wp2_with fail
  refine wp_region_still_tail 4 (by kernel_rfl) (by kernel_rfl) ?_
  simp only [List.take_succ_cons, List.take_zero, List.drop_succ_cons, List.drop_zero]
  change wpStill _ _ (World.drew wb1) (fun a' => wpList _ _ _ _ a' (World.drew wb1)) _ _
  have r0 : (World.drew wb1).cell? ⟨pb, 0, none⟩ = some (.pointer (some ⟨g, 0, none⟩)) := p0
  have r1 : (World.drew wb1).cell? ⟨pb, 1, none⟩ = some (.pointer none) := p1
  have HWd := Lib.hid (WrL.drew HW1.out)
  have HBd := Lib.hid (below_drew' HB1.out)
  clear p0 p1 HW1 HB1
  generalize World.drew wb1 = wa2 at r0 r1 HWd HBd ⊢
  repeat still_step
  refine wpStill_nil ?_
  clear r0 r1
  go_wp2_with fail
  refine (text_w_long (j := 11) (show Wr _ _ _ _ _ _ from HWd.out) (.tail _ HG.out) l hcl hl7).mono ?_
  rintro e wb2 ⟨rfl, h3, b3⟩
  have HW1 := Lib.hid h3
  have HB1 := Lib.hid (HBd.out.trans b3)
  clear h3 b3 HWd HBd
  go_wp2_with fail
  go_end0
  have h9 : Wr B G _ g _ _ := WrL.drop HW1.out
  exact ⟨rfl, by simpa only [List.append_assoc, List.append_nil] using h9, HB1.out⟩

set_option maxRecDepth 100000 in
set_option maxHeartbeats 4000000 in
theorem beacon_w_long {B g gf : Nat} {G : List (Nat × Obj)} {w : World} {bs : List Bool} {cs : Array Value} (h : Wr B G w g bs 0) (hG : (gf, .cells cs 23) ∈ G) (s : Int) (hcs : cs[8]? = some (.int .i64 s)) (hls : 0 ≤ s) (hus : s ≤ 109951162) (r : Int) (hcr : cs[9]? = some (.int .i64 r)) (hlr : 0 ≤ r) (hur : r ≤ 65535) (q : Int) (hcq : cs[10]? = some (.int .i64 q)) (hlq : 0 ≤ q) (huq : q ≤ 65535) (l : List UInt8) (hcl : cs[11]? = some (.string (Str l))) (hl7 : 127 < l.length) (hn : bs.length ≤ 100) :
    Calls Try.prog 59 #[Pw g, .pointer (some ⟨gf, 0, none⟩)] w fun e w' => e = .returned (.tuple #[]) ∧ Wr B G w' g (bs ++ (bitsN 27 s.toNat ++ bitsN 16 r.toNat ++ bitsN 16 q.toNat)) 8 ∧ Below B w w' := by
  have hlt := WrL.lt h
  have hB := h.1
  obtain ⟨w1, hw1⟩ : ∃ w1, w1 = w.alloc (Pb g) := ⟨_, rfl⟩
  obtain ⟨pb, hpb⟩ : ∃ pb, pb = w.heap.size := ⟨_, rfl⟩
  have hW1 : Wr B ((pb, Pb g) :: G) w1 g bs 0 := by rw [hw1, hpb]; exact WrL.allocG h _ (pb_not8 g)
  have hB1 : Below B w w1 := by rw [hw1]; exact Below.alloc (Below.refl B w) (by omega) _
  have p0 : w1.cell? ⟨pb, 0, none⟩ = some (.pointer (some ⟨g, 0, none⟩)) := guest_cell hW1 (.head _) rfl
  have p1 : w1.cell? ⟨pb, 1, none⟩ = some (.pointer none) := guest_cell hW1 (.head _) rfl
  have HW1 := Lib.hid hW1
  have HB1 := Lib.hid hB1
  have HG := Lib.hid hG
  clear h hW1 hB1 hG
  go_enter Try.func59, Try.ntmps59
  go_wp2_with fail
  rw [← hw1, ← hpb]
  clear hw1 hpb

  refine wp_region_still_tail 4 (by kernel_rfl) (by kernel_rfl) ?_
  simp only [List.take_succ_cons, List.take_zero, List.drop_succ_cons, List.drop_zero]
  change wpStill _ _ (World.drew w1) (fun a' => wpList _ _ _ _ a' (World.drew w1)) _ _
  have r0 : (World.drew w1).cell? ⟨pb, 0, none⟩ = some (.pointer (some ⟨g, 0, none⟩)) := p0
  have r1 : (World.drew w1).cell? ⟨pb, 1, none⟩ = some (.pointer none) := p1
  have HWd := Lib.hid (WrL.drew HW1.out)
  have HBd := Lib.hid (below_drew' HB1.out)
  clear p0 p1 HW1 HB1
  generalize World.drew w1 = wa0 at r0 r1 HWd HBd ⊢
  repeat still_step
  refine wpStill_nil ?_
  clear r0 r1
  go_wp2_with fail
  refine (unsigned_w (j := 8) (show Wr _ _ _ _ _ _ from HWd.out) (.tail _ HG.out) (k := 27) (by omega) (by omega) s hcs hls (by omega) (by omega) (by first | omega | (simp only [List.length_append, bitsN_length]; omega))).mono ?_
  rintro e wb0 ⟨rfl, h3, b3⟩
  have HW1 := Lib.hid h3
  have HB1 := Lib.hid (HBd.out.trans b3)
  clear h3 b3 HWd HBd
  have p0 : wb0.cell? ⟨pb, 0, none⟩ = some (.pointer (some ⟨g, 0, none⟩)) := guest_cell HW1.out (.head _) rfl
  have p1 : wb0.cell? ⟨pb, 1, none⟩ = some (.pointer none) := guest_cell HW1.out (.head _) rfl
  go_wp2_with fail
  refine wp_region_still_tail 4 (by kernel_rfl) (by kernel_rfl) ?_
  simp only [List.take_succ_cons, List.take_zero, List.drop_succ_cons, List.drop_zero]
  change wpStill _ _ (World.drew wb0) (fun a' => wpList _ _ _ _ a' (World.drew wb0)) _ _
  have r0 : (World.drew wb0).cell? ⟨pb, 0, none⟩ = some (.pointer (some ⟨g, 0, none⟩)) := p0
  have r1 : (World.drew wb0).cell? ⟨pb, 1, none⟩ = some (.pointer none) := p1
  have HWd := Lib.hid (WrL.drew HW1.out)
  have HBd := Lib.hid (below_drew' HB1.out)
  clear p0 p1 HW1 HB1
  generalize World.drew wb0 = wa1 at r0 r1 HWd HBd ⊢
  repeat still_step
  refine wpStill_nil ?_
  clear r0 r1
  go_wp2_with fail
  refine (unsigned_w (j := 9) (show Wr _ _ _ _ _ _ from HWd.out) (.tail _ HG.out) (k := 16) (by omega) (by omega) r hcr hlr (by omega) (by omega) (by first | omega | (simp only [List.length_append, bitsN_length]; omega))).mono ?_
  rintro e wb1 ⟨rfl, h3, b3⟩
  have HW1 := Lib.hid h3
  have HB1 := Lib.hid (HBd.out.trans b3)
  clear h3 b3 HWd HBd
  have p0 : wb1.cell? ⟨pb, 0, none⟩ = some (.pointer (some ⟨g, 0, none⟩)) := guest_cell HW1.out (.head _) rfl
  have p1 : wb1.cell? ⟨pb, 1, none⟩ = some (.pointer none) := guest_cell HW1.out (.head _) rfl
  go_wp2_with fail
  refine wp_region_still_tail 4 (by kernel_rfl) (by kernel_rfl) ?_
  simp only [List.take_succ_cons, List.take_zero, List.drop_succ_cons, List.drop_zero]
  change wpStill _ _ (World.drew wb1) (fun a' => wpList _ _ _ _ a' (World.drew wb1)) _ _
  have r0 : (World.drew wb1).cell? ⟨pb, 0, none⟩ = some (.pointer (some ⟨g, 0, none⟩)) := p0
  have r1 : (World.drew wb1).cell? ⟨pb, 1, none⟩ = some (.pointer none) := p1
  have HWd := Lib.hid (WrL.drew HW1.out)
  have HBd := Lib.hid (below_drew' HB1.out)
  clear p0 p1 HW1 HB1
  generalize World.drew wb1 = wa2 at r0 r1 HWd HBd ⊢
  repeat still_step
  refine wpStill_nil ?_
  clear r0 r1
  go_wp2_with fail
  refine (unsigned_w (j := 10) (show Wr _ _ _ _ _ _ from HWd.out) (.tail _ HG.out) (k := 16) (by omega) (by omega) q hcq hlq (by omega) (by omega) (by first | omega | (simp only [List.length_append, bitsN_length]; omega))).mono ?_
  rintro e wb2 ⟨rfl, h3, b3⟩
  have HW1 := Lib.hid h3
  have HB1 := Lib.hid (HBd.out.trans b3)
  clear h3 b3 HWd HBd
  have p0 : wb2.cell? ⟨pb, 0, none⟩ = some (.pointer (some ⟨g, 0, none⟩)) := guest_cell HW1.out (.head _) rfl
  have p1 : wb2.cell? ⟨pb, 1, none⟩ = some (.pointer none) := guest_cell HW1.out (.head _) rfl
  go_wp2_with fail
  refine wp_region_still_tail 4 (by kernel_rfl) (by kernel_rfl) ?_
  simp only [List.take_succ_cons, List.take_zero, List.drop_succ_cons, List.drop_zero]
  change wpStill _ _ (World.drew wb2) (fun a' => wpList _ _ _ _ a' (World.drew wb2)) _ _
  have r0 : (World.drew wb2).cell? ⟨pb, 0, none⟩ = some (.pointer (some ⟨g, 0, none⟩)) := p0
  have r1 : (World.drew wb2).cell? ⟨pb, 1, none⟩ = some (.pointer none) := p1
  have HWd := Lib.hid (WrL.drew HW1.out)
  have HBd := Lib.hid (below_drew' HB1.out)
  clear p0 p1 HW1 HB1
  generalize World.drew wb2 = wa3 at r0 r1 HWd HBd ⊢
  repeat still_step
  refine wpStill_nil ?_
  clear r0 r1
  go_wp2_with fail
  refine (text_w_long (j := 11) (show Wr _ _ _ _ _ _ from HWd.out) (.tail _ HG.out) l hcl hl7).mono ?_
  rintro e wb3 ⟨rfl, h3, b3⟩
  have HW1 := Lib.hid h3
  have HB1 := Lib.hid (HBd.out.trans b3)
  clear h3 b3 HWd HBd
  go_wp2_with fail
  go_end0
  have h9 : Wr B G _ g _ _ := WrL.drop HW1.out
  exact ⟨rfl, by simpa only [List.append_assoc, List.append_nil] using h9, HB1.out⟩

set_option maxRecDepth 100000 in
set_option maxHeartbeats 4000000 in
theorem message_w_long {B g gf : Nat} {G : List (Nat × Obj)} {w : World} {bs : List Bool} {cs : Array Value} (h : Wr B G w g bs 0) (hG : (gf, .cells cs 23) ∈ G) (l : List UInt8) (hcl : cs[11]? = some (.string (Str l))) (hl7 : 127 < l.length) (hn : bs.length ≤ 100) :
    Calls Try.prog 60 #[Pw g, .pointer (some ⟨gf, 0, none⟩)] w fun e w' => e = .returned (.tuple #[]) ∧ Wr B G w' g (bs ++ ([])) 8 ∧ Below B w w' := by
  have hlt := WrL.lt h
  have hB := h.1
  obtain ⟨w1, hw1⟩ : ∃ w1, w1 = w.alloc (Pb g) := ⟨_, rfl⟩
  obtain ⟨pb, hpb⟩ : ∃ pb, pb = w.heap.size := ⟨_, rfl⟩
  have hW1 : Wr B ((pb, Pb g) :: G) w1 g bs 0 := by rw [hw1, hpb]; exact WrL.allocG h _ (pb_not8 g)
  have hB1 : Below B w w1 := by rw [hw1]; exact Below.alloc (Below.refl B w) (by omega) _
  have p0 : w1.cell? ⟨pb, 0, none⟩ = some (.pointer (some ⟨g, 0, none⟩)) := guest_cell hW1 (.head _) rfl
  have p1 : w1.cell? ⟨pb, 1, none⟩ = some (.pointer none) := guest_cell hW1 (.head _) rfl
  have HW1 := Lib.hid hW1
  have HB1 := Lib.hid hB1
  have HG := Lib.hid hG
  clear h hW1 hB1 hG
  go_enter Try.func60, Try.ntmps60
  go_wp2_with fail
  rw [← hw1, ← hpb]
  clear hw1 hpb

  refine wp_region_still_tail 4 (by kernel_rfl) (by kernel_rfl) ?_
  simp only [List.take_succ_cons, List.take_zero, List.drop_succ_cons, List.drop_zero]
  change wpStill _ _ (World.drew w1) (fun a' => wpList _ _ _ _ a' (World.drew w1)) _ _
  have r0 : (World.drew w1).cell? ⟨pb, 0, none⟩ = some (.pointer (some ⟨g, 0, none⟩)) := p0
  have r1 : (World.drew w1).cell? ⟨pb, 1, none⟩ = some (.pointer none) := p1
  have HWd := Lib.hid (WrL.drew HW1.out)
  have HBd := Lib.hid (below_drew' HB1.out)
  clear p0 p1 HW1 HB1
  generalize World.drew w1 = wa0 at r0 r1 HWd HBd ⊢
  repeat still_step
  refine wpStill_nil ?_
  clear r0 r1
  go_wp2_with fail
  refine (text_w_long (j := 11) (show Wr _ _ _ _ _ _ from HWd.out) (.tail _ HG.out) l hcl hl7).mono ?_
  rintro e wb0 ⟨rfl, h3, b3⟩
  have HW1 := Lib.hid h3
  have HB1 := Lib.hid (HBd.out.trans b3)
  clear h3 b3 HWd HBd
  go_wp2_with fail
  go_end0
  have h9 : Wr B G _ g _ _ := WrL.drop HW1.out
  exact ⟨rfl, by simpa only [List.append_assoc, List.append_nil] using h9, HB1.out⟩

end Go.Proofs.Ytbgnkjaikbhdoaa.PenW

-- PenF
namespace Go.Proofs.Ytbgnkjaikbhdoaa.PenF
open Go.Maps (keyOf_int_mk)
open Go.RowKit Go.Proofs.Ytbgnkjaikbhdoaa.Pack Go.Proofs.Ytbgnkjaikbhdoaa.Wr Go.Proofs.Ytbgnkjaikbhdoaa.WrPut Go.Proofs.Ytbgnkjaikbhdoaa.WrAll Go.Proofs.Ytbgnkjaikbhdoaa.WrText Go.Proofs.Ytbgnkjaikbhdoaa.PenW
open Go.Proofs.Ytbgnkjaikbhdoaa.Bytes (Str)

/-- A target: its flag, and the number where there is one. -/
def targetBits (n : Int) : List Bool := if 0 ≤ n then true :: bitsN 5 n.toNat else [false]

set_option maxRecDepth 100000 in
set_option maxHeartbeats 4000000 in
theorem target_yes {B g gf : Nat} {G : List (Nat × Obj)} {w : World} {bs : List Bool} {cs : Array Value} (h : Wr B G w g bs 0) (hG : (gf, .cells cs 23) ∈ G) (n : Int) (hj : cs[2]? = some (.int .i64 n)) (h0 : 0 ≤ n) (h1 : n ≤ 31) (hn : bs.length + 6 ≤ 1000) :
    Calls Try.prog 62 #[Pw g, .pointer (some ⟨gf, 2, none⟩)] w fun e w' => e = .returned (.tuple #[]) ∧ Wr B G w' g (bs ++ (true :: bitsN 5 n.toNat)) 0 ∧ Below B w w' := by
  have hlt := WrL.lt h
  have hB := h.1
  have hW1 : Wr B ((w.heap.size, Pb g) :: G) (w.alloc (Pb g)) g bs 0 := WrL.allocG h _ (pb_not8 g)
  have hB1 : Below B w (w.alloc (Pb g)) := Below.alloc (Below.refl B w) (by omega) _
  have hgf := guest_lt h hG
  have q0 : w.cell? ⟨gf, 2, none⟩ = some (.int .i64 n) := guest_cell h hG hj
  have HP := Lib.hid (flag_ok hW1 true (by omega))
  have HB1 := Lib.hid hB1
  have HG := Lib.hid hG
  have HJ := Lib.hid hj
  clear h hG hW1 hB1 hj
  go_enter Try.func62, Try.ntmps62
  go_wp2_with fail
  refine HP.out.mono ?_
  rintro e w2 ⟨rfl, h3, b3⟩
  have HW2 := Lib.hid h3
  have HB2 := Lib.hid (HB1.out.trans b3)
  have p0' : w2.cell? ⟨w.heap.size, 0, none⟩ = some (.pointer (some ⟨g, 0, none⟩)) := guest_cell h3 (.head _) rfl
  have p1' : w2.cell? ⟨w.heap.size, 1, none⟩ = some (.pointer none) := guest_cell h3 (.head _) rfl
  clear h3 b3 q0 HP HB1 hgf
  go_wp2_with fail
  refine (unsigned_w (j := 2) (show Wr _ _ _ _ _ _ from HW2.out) (.tail _ HG.out) (k := 5) (by omega) (by omega) n HJ.out h0 (by omega) (by omega) (by simp only [List.length_append, List.length_singleton]; omega)).mono ?_
  rintro e w3 ⟨rfl, h3, b3⟩
  have HW3 := Lib.hid h3
  have HB3 := Lib.hid (HB2.out.trans b3)
  clear h3 b3
  go_wp2_with fail
  go_end0
  have h9 : Wr B G _ g _ _ := WrL.drop HW3.out
  exact ⟨rfl, by simpa only [List.append_assoc, List.cons_append, List.nil_append] using h9, HB3.out⟩

set_option maxRecDepth 100000 in
set_option maxHeartbeats 4000000 in
theorem target_no {B g gf : Nat} {G : List (Nat × Obj)} {w : World} {bs : List Bool} {cs : Array Value} (h : Wr B G w g bs 0) (hG : (gf, .cells cs 23) ∈ G) (hj : cs[2]? = some (.int .i64 (-1))) (hn : bs.length + 6 ≤ 1000) :
    Calls Try.prog 62 #[Pw g, .pointer (some ⟨gf, 2, none⟩)] w fun e w' => e = .returned (.tuple #[]) ∧ Wr B G w' g (bs ++ [false]) 0 ∧ Below B w w' := by
  have hlt := WrL.lt h
  have hB := h.1
  have hW1 : Wr B ((w.heap.size, Pb g) :: G) (w.alloc (Pb g)) g bs 0 := WrL.allocG h _ (pb_not8 g)
  have hB1 : Below B w (w.alloc (Pb g)) := Below.alloc (Below.refl B w) (by omega) _
  have hgf := guest_lt h hG
  have q0 : w.cell? ⟨gf, 2, none⟩ = some (.int .i64 (-1)) := guest_cell h hG hj
  have HP := Lib.hid (flag_ok hW1 false (by omega))
  have HB1 := Lib.hid hB1
  have HG := Lib.hid hG
  have HJ := Lib.hid hj
  clear h hG hW1 hB1 hj
  go_enter Try.func62, Try.ntmps62
  go_wp2_with fail
  refine HP.out.mono ?_
  rintro e w2 ⟨rfl, h3, b3⟩
  have HW2 := Lib.hid h3
  have HB2 := Lib.hid (HB1.out.trans b3)
  have q0' : w2.cell? ⟨gf, 2, none⟩ = some (.int .i64 (-1)) := guest_cell h3 (.tail _ HG.out) HJ.out
  have f0' : w2.frozen? ⟨gf, 2, none⟩ = false := frozen_of_row _ _ _ _ _ (WrL.guest h3 (.tail _ HG.out))
  have HW3 := Lib.hid (again h3 (.tail _ HG.out) HJ.out)
  have HB3 := Lib.hid (again_below (HB1.out.trans b3) h3 (.tail _ HG.out) HJ.out)
  clear h3 b3 q0 HP HB1 hgf
  go_wp2_with fail
  go_end0
  exact ⟨rfl, WrL.drop HW3.out, HB3.out⟩
theorem target_w {B g gf : Nat} {G : List (Nat × Obj)} {w : World} {bs : List Bool} {cs : Array Value} (h : Wr B G w g bs 0) (hG : (gf, .cells cs 23) ∈ G) (n : Int) (hj : cs[2]? = some (.int .i64 n)) (h0 : -1 ≤ n) (h1 : n ≤ 31) (hn : bs.length + 6 ≤ 1000) :
    Calls Try.prog 62 #[Pw g, .pointer (some ⟨gf, 2, none⟩)] w fun e w' => e = .returned (.tuple #[]) ∧ Wr B G w' g (bs ++ targetBits n) 0 ∧ Below B w w' := by
  unfold targetBits
  by_cases hz : 0 ≤ n
  · rw [if_pos hz]; exact target_yes h hG n hj hz h1 hn
  · rw [if_neg hz]
    obtain rfl : n = -1 := by omega
    exact target_no h hG hj hn

/-! ### the map of the kinds -/
/-- How a function of no captures reads. -/
def fnElem (v : Value) : Option (DataW Unit × List MemPlace) :=
  match v with
  | .func (.func k) f c => if f.size = 0 ∧ c.size = 0 then some (.lit (.int .i64 (k : Int)), []) else none
  | .nilFunc => some (.nil, [])
  | _ => none
theorem fnElem_inv {v : Value} {k : Nat} {ps : List MemPlace} (h : fnElem v = some (.lit (.int .i64 (k : Int)), ps)) : v = .func (.func k) #[] #[] := by
  unfold fnElem at h
  split at h
  · split at h
    · rename_i hs
      simp only [Option.some.injEq, Prod.mk.injEq, DataW.lit.injEq, Lit.int.injEq, true_and] at h
      obtain ⟨ha, hb⟩ := hs
      have h1 := Int.ofNat.inj h.1
      rw [Array.eq_empty_of_size_eq_zero ha, Array.eq_empty_of_size_eq_zero hb, h1]
    · cases h
  · simp at h
  · cases h
theorem fnElem_nil {v : Value} {ps : List MemPlace} (h : fnElem v = some (.nil, ps)) : v = .nilFunc := by
  unfold fnElem at h
  split at h
  · split at h <;> simp at h
  · rfl
  · cases h
abbrev Fv (k : Nat) : Value := .func (.func k) #[] #[]
theorem fn_mk (k : Nat) : fnElem (Fv k) = some (.lit (.int .i64 (k : Int)), []) := by simp [fnElem]
theorem key_of (j : Int) (h0 : -1000000 ≤ j) (h1 : j ≤ 1000000) : keyOf Try.prog 3 (.int .i64 j) = some (.int .i64 j) :=
  keyOf_int_mk Try.underlying3 (by simp [Lit.wf, IntKind.min, IntKind.max, IntKind.bits, IntKind.signed]; omega)
theorem isKey (j : Int) : WideAt.IsKeyLit (.int .i64 j) := by unfold WideAt.IsKeyLit; trivial
abbrev TM : TypeId := 87

/-- The map of the kinds is built, and answers. -/
theorem kinds_map (w : World) : ∃ w1 w2 w3 w4 o,
    (Instr.mapUpdate TM (.map (some w.heap.size)) (.int .i64 1) (Fv 57)).run Try.prog (w.alloc (.map #[] 0)) = .ok () w1 ∧
    (Instr.mapUpdate TM (.map (some w.heap.size)) (.int .i64 2) (Fv 58)).run Try.prog w1 = .ok () w2 ∧
    (Instr.mapUpdate TM (.map (some w.heap.size)) (.int .i64 3) (Fv 59)).run Try.prog w2 = .ok () w3 ∧
    (Instr.mapUpdate TM (.map (some w.heap.size)) (.int .i64 4) (Fv 60)).run Try.prog w3 = .ok () w4 ∧
    Below w.heap.size w w4 ∧ w.heap.size < w4.heap.size ∧ w4.heap[w.heap.size]? = some o ∧ ¬ T8 o ∧
    (∀ W : World, W.heap[w.heap.size]? = some o →
      (Instr.lookup TM (.map (some w.heap.size)) (.int .i64 1) true).run Try.prog W = .ok (.tuple #[Fv 57, .bool true]) W ∧
      (Instr.lookup TM (.map (some w.heap.size)) (.int .i64 2) true).run Try.prog W = .ok (.tuple #[Fv 58, .bool true]) W ∧
      (Instr.lookup TM (.map (some w.heap.size)) (.int .i64 3) true).run Try.prog W = .ok (.tuple #[Fv 59, .bool true]) W ∧
      (Instr.lookup TM (.map (some w.heap.size)) (.int .i64 4) true).run Try.prog W = .ok (.tuple #[Fv 60, .bool true]) W ∧
      ∀ j : Int, -1000000 ≤ j → j ≤ 1000000 → j ≠ 1 → j ≠ 2 → j ≠ 3 → j ≠ 4 → (Instr.lookup TM (.map (some w.heap.size)) (.int .i64 j) true).run Try.prog W = .ok (.tuple #[.nilFunc, .bool false]) W) := by
  have K := Maps.int_keyed (P := Try.prog) Try.underlying3
  have ht := Try.underlying87
  have h0 := World.ownsMap_made (H := Unit) w Try.prog 3 fnElem
  obtain ⟨w1, r1, h1, g1⟩ := h0.update K ht (by decide) (key_of 1 (by omega) (by omega)) (fn_mk 57)
  obtain ⟨w2, r2, h2, g2⟩ := h1.update K ht (by decide) (key_of 2 (by omega) (by omega)) (fn_mk 58)
  obtain ⟨w3, r3, h3, g3⟩ := h2.update K ht (by decide) (key_of 3 (by omega) (by omega)) (fn_mk 59)
  obtain ⟨w4, r4, h4, g4⟩ := h3.update K ht (by decide) (key_of 4 (by omega) (by omega)) (fn_mk 60)
  have hI0 : Maps.IsMap (DataW.map (H := Unit) []) := Maps.isMap_empty
  have hI1 := hI0.put (.int .i64 1) (.lit (.int .i64 ((57 : Nat) : Int)))
  have hI2 := hI1.put (.int .i64 2) (.lit (.int .i64 ((58 : Nat) : Int)))
  have hI3 := hI2.put (.int .i64 3) (.lit (.int .i64 ((59 : Nat) : Int)))
  have ne : ∀ {a b : Int}, a ≠ b → (Lit.int .i64 a) ≠ (Lit.int .i64 b) := by intro a b h e; injection e with _ e; exact h e
  obtain ⟨es, clock, hb, hrest⟩ := h4
  refine ⟨w1, w2, w3, w4, .map es clock, r1, r2, r3, r4, ?_, ?_, hb, (by rintro ⟨cur, e⟩; cases e), ?_⟩
  · have b0 : Below w.heap.size w (w.alloc (.map #[] 0)) := (Below.refl _ _).alloc (Nat.le_refl _) _
    have st : ∀ {a b : World}, Below w.heap.size w a → a.grownBy b (some w.heap.size) → Below w.heap.size w b := fun {a b} h hg =>
      ⟨hg.os.trans h.os, hg.tape.trans h.tape, hg.output.trans h.output, Nat.le_trans h.size hg.size, fun i hi => (hg.block i (Nat.lt_of_lt_of_le hi h.size) (by intro e; injection e with e; omega)).trans (h.block i hi)⟩
    exact st (st (st (st b0 g1) g2) g3) g4
  · exact (Array.getElem?_eq_some_iff.1 hb).1
  · intro W hW
    have hO : W.ownsMap Try.prog 3 fnElem w.heap.size 4 _ := ⟨es, clock, hW, hrest⟩
    have look : ∀ j : Int, -1000000 ≤ j → j ≤ 1000000 → _ := fun j a b => hO.look_ok K ht (Try.zeroValue85 W) (zd := .nil) (zp := []) rfl (key_of j a b)
    refine ⟨?_, ?_, ?_, ?_, ?_⟩
    · obtain ⟨v, ps, hr, hv⟩ := look 1 (by omega) (by omega)
      rw [Maps.atKey_put_other (ne (by omega)), Maps.atKey_put_other (ne (by omega)), Maps.atKey_put_other (ne (by omega)), Maps.atKey_put_same hI0 (isKey 1)] at hv
      rw [Maps.has_put_other (ne (by omega)), Maps.has_put_other (ne (by omega)), Maps.has_put_other (ne (by omega)), Maps.has_put_same hI0 (isKey 1)] at hr
      rw [hr, fnElem_inv hv]
    · obtain ⟨v, ps, hr, hv⟩ := look 2 (by omega) (by omega)
      rw [Maps.atKey_put_other (ne (by omega)), Maps.atKey_put_other (ne (by omega)), Maps.atKey_put_same hI1 (isKey 2)] at hv
      rw [Maps.has_put_other (ne (by omega)), Maps.has_put_other (ne (by omega)), Maps.has_put_same hI1 (isKey 2)] at hr
      rw [hr, fnElem_inv hv]
    · obtain ⟨v, ps, hr, hv⟩ := look 3 (by omega) (by omega)
      rw [Maps.atKey_put_other (ne (by omega)), Maps.atKey_put_same hI2 (isKey 3)] at hv
      rw [Maps.has_put_other (ne (by omega)), Maps.has_put_same hI2 (isKey 3)] at hr
      rw [hr, fnElem_inv hv]
    · obtain ⟨v, ps, hr, hv⟩ := look 4 (by omega) (by omega)
      rw [Maps.atKey_put_same hI3 (isKey 4)] at hv
      rw [Maps.has_put_same hI3 (isKey 4)] at hr
      rw [hr, fnElem_inv hv]
    · intro j a b n1 n2 n3 n4
      obtain ⟨v, ps, hr, hv⟩ := look j a b
      rw [Maps.atKey_put_other (ne n4), Maps.atKey_put_other (ne n3), Maps.atKey_put_other (ne n2), Maps.atKey_put_other (ne n1)] at hv
      rw [Maps.has_put_other (ne n4), Maps.has_put_other (ne n3), Maps.has_put_other (ne n2), Maps.has_put_other (ne n1)] at hr
      rw [hr, fnElem_nil hv]; rfl
end Go.Proofs.Ytbgnkjaikbhdoaa.PenF
