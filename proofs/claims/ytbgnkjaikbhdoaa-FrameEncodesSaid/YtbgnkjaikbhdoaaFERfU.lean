/- The reference's writer beside a frame's block; its fields at the widths of a frame. (cut to what is reached: wip/tools/slimout.py) -/
import Derived.Test.YtbgnkjaikbhdoaaFEWfText
import Derived.Test.YtbgnkjaikbhdoaaFEWfBytes
import Derived.Test.YtbgnkjaikbhdoaaFERfC
import Derived.Test.YtbgnkjaikbhdoaaFEFrEn
namespace Go.Proofs.Ytbgnkjaikbhdoaa.RfU
set_option linter.unusedSimpArgs false
set_option linter.unusedVariables false
open Go.RowKit Go.Proofs.Ytbgnkjaikbhdoaa.Pack Go.Proofs.Ytbgnkjaikbhdoaa.Wf Go.Proofs.Ytbgnkjaikbhdoaa.WfAll Go.Proofs.Ytbgnkjaikbhdoaa.FrA
open Go.Proofs.Ytbgnkjaikbhdoaa.Wr (T8)
open Go.Proofs.Ytbgnkjaikbhdoaa.Bytes (Str)
theorem guest_c {B g gf j : Nat} {G : List (Nat × Obj)} {w : World} {bs : List Bool} {cs : Array Value} {t : TypeId} {v : Value} (h : Wf B G w g bs) (hG : (gf, .cells cs t) ∈ G) (hj : cs[j]? = some v) : w.cell? ⟨gf, j, none⟩ = some v := by
  rw [cell_of_row _ _ _ _ _ _ (WfL.guest h hG)]; exact hj
theorem addG {B g gf : Nat} {G : List (Nat × Obj)} {w : World} {bs : List Bool} {o : Obj} (h : Wf B G w g bs) (ho : w.heap[gf]? = some o) (hne : gf ≠ g) (h8 : ¬ T8 o) : Wf B ((gf, o) :: G) w g bs := by
  refine ⟨h.1, h.2.1, fun p hp => ?_⟩
  rcases List.mem_cons.1 hp with rfl | hp
  · exact ⟨ho, hne, h8⟩
  · exact h.2.2 p hp
theorem u3 {B g : Nat} {G : List (Nat × Obj)} {w : World} {bs : List Bool} (h : Wf B G w g bs) (n : Int) (h0 : 0 ≤ n) (h1 : n < 8) (hn : bs.length ≤ 500000) :
    Calls Try.prog 30 #[.pointer (some ⟨g, 0, none⟩), .int .i64 3, .int .i64 n] w fun e w' => e = .returned (.tuple #[]) ∧ Wf B G w' g (bs ++ bitsN 3 n.toNat) ∧ Below B w w' :=
  unsigned_f h 3 (by omega) (by omega) n h0 (by omega) (by omega) (by omega)
theorem u5 {B g : Nat} {G : List (Nat × Obj)} {w : World} {bs : List Bool} (h : Wf B G w g bs) (n : Int) (h0 : 0 ≤ n) (h1 : n < 32) (hn : bs.length ≤ 500000) :
    Calls Try.prog 30 #[.pointer (some ⟨g, 0, none⟩), .int .i64 5, .int .i64 n] w fun e w' => e = .returned (.tuple #[]) ∧ Wf B G w' g (bs ++ bitsN 5 n.toNat) ∧ Below B w w' :=
  unsigned_f h 5 (by omega) (by omega) n h0 (by omega) (by omega) (by omega)
theorem u8 {B g : Nat} {G : List (Nat × Obj)} {w : World} {bs : List Bool} (h : Wf B G w g bs) (n : Int) (h0 : 0 ≤ n) (h1 : n < 256) (hn : bs.length ≤ 500000) :
    Calls Try.prog 30 #[.pointer (some ⟨g, 0, none⟩), .int .i64 8, .int .i64 n] w fun e w' => e = .returned (.tuple #[]) ∧ Wf B G w' g (bs ++ bitsN 8 n.toNat) ∧ Below B w w' :=
  unsigned_f h 8 (by omega) (by omega) n h0 (by omega) (by omega) (by omega)
theorem u16 {B g : Nat} {G : List (Nat × Obj)} {w : World} {bs : List Bool} (h : Wf B G w g bs) (n : Int) (h0 : 0 ≤ n) (h1 : n < 65536) (hn : bs.length ≤ 500000) :
    Calls Try.prog 30 #[.pointer (some ⟨g, 0, none⟩), .int .i64 16, .int .i64 n] w fun e w' => e = .returned (.tuple #[]) ∧ Wf B G w' g (bs ++ bitsN 16 n.toNat) ∧ Below B w w' :=
  unsigned_f h 16 (by omega) (by omega) n h0 (by omega) (by omega) (by omega)
theorem u27 {B g : Nat} {G : List (Nat × Obj)} {w : World} {bs : List Bool} (h : Wf B G w g bs) (n : Int) (h0 : 0 ≤ n) (h1 : n < 134217728) (hn : bs.length ≤ 500000) :
    Calls Try.prog 30 #[.pointer (some ⟨g, 0, none⟩), .int .i64 27, .int .i64 n] w fun e w' => e = .returned (.tuple #[]) ∧ Wf B G w' g (bs ++ bitsN 27 n.toNat) ∧ Below B w w' :=
  unsigned_f h 27 (by omega) (by omega) n h0 (by omega) (by omega) (by omega)
end Go.Proofs.Ytbgnkjaikbhdoaa.RfU
