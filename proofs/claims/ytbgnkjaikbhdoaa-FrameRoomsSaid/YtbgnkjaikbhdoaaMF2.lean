/-    Contracts of crc.times, of the closure inside crc.remainders, of crc.remainders and of crc.Update. Plain algebra of residues modulo x^16 + x^12 + x^5 + 1 over GF(2), as BitVec 16: no program, no memory. frame.pen.data, beacon, message and frame, reading. Printed by wip/penr.py. frame.Frame as a value; frame's and the reference's small functions. frame.pen, reading: each method reads its fields into the frame. -/
import Derived.Test.YtbgnkjaikbhdoaaMF1
import Derived.StillTailTactics
import Derived.Test.YtbgnkjaikbhdoaaProg
import Derived.Below
import Derived.Tactics
import Derived.WalkKit
import Derived.KernelRfl
import Derived.RowKit3
import Derived.Deep.LoopGhost
import Derived.Deep.RegionWith
import Derived.Laws.Rows
import Derived.Laws.BitsAllLaws
import Derived.Laws.BitsLemmas
import Derived.Lib.Hide
import Derived.Laws.CopyOwn
import Derived.OneCell
import Derived.Outline
import Derived.WalkSpells
import Derived.WalkLawsBesides
import Derived.IntWalk
import Derived.Deep.Draws
import Derived.Deep.AppendLies
import Derived.Maps.AppendAt
import Derived.OwnWalk
import Derived.Laws.BytesArg
import Derived.Laws.MakeOwn
import Derived.Laws.OwnMore
import Derived.Deep.OwnRows
import Derived.Lib.ConvBytes
import Derived.Laws.Slices
import Derived.Deep.QuietTactic
import Derived.BigQuiet
import Derived.WideLaws
import Derived.Deep.DeepCutAuto
import Derived.Deep.CutBlock
import Derived.Deep.RegionHeld3
import Derived.Lib.AppendStr
import Derived.ArgAppend
import Derived.Laws.IdiomCopy
import Derived.OrdersHeld
import Derived.RowKit
import Derived.Test.YtbgnkjaikbhdoaaWWords
import Derived.Test.YtbgnkjaikbhdoaaWLast
import Derived.Test.YtbgnkjaikbhdoaaWTab
import Derived.Test.YtbgnkjaikbhdoaaWFour
import Derived.Test.YtbgnkjaikbhdoaaWQPut
import Derived.Test.YtbgnkjaikbhdoaaWApart
import Derived.Test.YtbgnkjaikbhdoaaWArr
import Derived.Test.YtbgnkjaikbhdoaaWZeros
import Derived.Test.YtbgnkjaikbhdoaaWFoot
import Derived.Test.YtbgnkjaikbhdoaaWKept
import Derived.Test.YtbgnkjaikbhdoaaWShare
import Derived.Test.YtbgnkjaikbhdoaaWN
import Derived.Test.YtbgnkjaikbhdoaaWFootNe
import Derived.Test.YtbgnkjaikbhdoaaWAt
import Derived.Test.YtbgnkjaikbhdoaaWEqStruct
import Derived.Test.YtbgnkjaikbhdoaaWRepsOne
import Derived.Test.YtbgnkjaikbhdoaaWInv
import Derived.Test.YtbgnkjaikbhdoaaWInvWords
import Derived.Test.YtbgnkjaikbhdoaaWGuard
import Derived.Test.YtbgnkjaikbhdoaaWNEv
import Derived.Test.YtbgnkjaikbhdoaaWMore
import Derived.Test.YtbgnkjaikbhdoaaWSized
-- PenR
namespace Go.Proofs.Ytbgnkjaikbhdoaa.PenR
set_option linter.unusedSimpArgs false
set_option linter.unusedVariables false
open Go.RowKit Go.Proofs.Ytbgnkjaikbhdoaa.Pack Go.Proofs.Ytbgnkjaikbhdoaa.Rd Go.Proofs.Ytbgnkjaikbhdoaa.RdC Go.Proofs.Ytbgnkjaikbhdoaa.RdT
open Go.Proofs.Ytbgnkjaikbhdoaa.Bytes (Str)

abbrev TF : TypeId := 23
/-- A pen that reads. -/
abbrev Pr (g : Nat) : Value := .agg #[.pointer none, .pointer (some ⟨g, 0, none⟩)]
/-- Its block. -/
abbrev Br (g : Nat) : Obj := .cells #[.pointer none, .pointer (some ⟨g, 0, none⟩)] 48
/-- Block g is a reader, and block gf the frame that is read. -/
def Rf (B : Nat) (G : List (Nat × Obj)) (w : World) (g : Nat) (l : List UInt8) (i : Nat) (e : Int) (gf : Nat) (cs : Array Value) : Prop :=
  Rd B ((gf, .cells cs TF (0, 0)) :: G) w g l i e ∧ B ≤ gf ∧ ∀ p ∈ G, p.1 ≠ gf
variable {B g gf i : Nat} {G : List (Nat × Obj)} {w : World} {l : List UInt8} {e : Int} {cs : Array Value}
theorem Rf.alloc (h : Rf B G w g l i e gf cs) (o : Obj) : Rf B ((w.heap.size, o) :: G) (w.alloc o) g l i e gf cs := by
  obtain ⟨a, b, c⟩ := h
  have hlt := a.guest_lt (.head _)
  have h2 := a.allocG o
  refine ⟨h2.sub (fun p hp => ?_), b, fun p hp => ?_⟩
  · rcases List.mem_cons.1 hp with rfl | hp
    · exact .tail _ (.head _)
    · rcases List.mem_cons.1 hp with rfl | hp
      · exact .head _
      · exact .tail _ (.tail _ hp)
  · rcases List.mem_cons.1 hp with rfl | hp
    · show w.heap.size ≠ gf; omega
    · exact c p hp
theorem Rf.drop {p : Nat × Obj} (h : Rf B (p :: G) w g l i e gf cs) : Rf B G w g l i e gf cs :=
  ⟨h.1.sub (fun q hq => by rcases List.mem_cons.1 hq with rfl | hq; exact .head _; exact .tail _ (.tail _ hq)), h.2.1, fun q hq => h.2.2 q (List.mem_cons_of_mem _ hq)⟩
theorem Rf.set {j : Nat} {x : Value} {cs' : Array Value} (h : Rf B G w g l i e gf cs) (hc : cs.setIfInBounds j x = cs') : Rf B G (w.setCell ⟨gf, j, none⟩ x) g l i e gf cs' :=
  ⟨h.1.putG h.2.2 hc, h.2.1, h.2.2⟩
theorem Rf.at_ {w' : World} {i' : Nat} {e' : Int} (h : Rf B G w g l i e gf cs) (h' : Rd B ((gf, .cells cs TF (0, 0)) :: G) w' g l i' e') : Rf B G w' g l i' e' gf cs := ⟨h', h.2⟩
theorem Rf.cell (h : Rf B G w g l i e gf cs) {j : Nat} {x : Value} (hj : cs[j]? = some x) : w.cell? ⟨gf, j, none⟩ = some x ∧ w.frozen? ⟨gf, j, none⟩ = false := h.1.cellG (.head _) hj
theorem Rf.box {pb : Nat} (h : Rf B ((pb, Br g) :: G) w g l i e gf cs) : w.cell? ⟨pb, 0, none⟩ = some (.pointer none) ∧ w.cell? ⟨pb, 1, none⟩ = some (.pointer (some ⟨g, 0, none⟩)) :=
  ⟨(h.1.cellG (.tail _ (.head _)) rfl).1, (h.1.cellG (.tail _ (.head _)) rfl).1⟩
theorem boxB (h : Rf B G w g l i e gf cs) (o : Obj) : Below B w (w.alloc o) := (Below.refl B w).alloc (by have := h.1.lt; have := h.1.1; omega) _

set_option maxRecDepth 100000 in
set_option maxHeartbeats 4000000 in
theorem unsigned_r (h : Rf B G w g l i e gf cs) (hs : l.length ≤ 65536) (hi : i ≤ 8 * l.length) (k : Nat) (h1 : 1 ≤ k) (hk : k ≤ 62) {j : Nat} {x : Value} (hj : cs[j]? = some x) (cs' : Array Value) (hc : cs.setIfInBounds j (.int .i64 ((rdf l k i e).1 : Int)) = cs') :
    Calls Try.prog 61 #[Pr g, .int .i64 (k : Int), .pointer (some ⟨gf, j, none⟩)] w fun r w' => r = .returned (.tuple #[]) ∧ Rf B G w' g l (rdf l k i e).2.1 (rdf l k i e).2.2 gf cs' ∧ Below B w w' := by
  have HW1 := Lib.hid (h.alloc (Br g))
  have HB1 := Lib.hid (boxB h (Br g))
  have HU := Lib.hid (unsigned_any HW1.out.1 hs hi k h1 hk)
  have HJ := Lib.hid hj
  have HC := Lib.hid hc
  have HBG := Lib.hid h.2.1
  clear h hj hc
  generalize (rdf l k i e).1 = v at *
  generalize (rdf l k i e).2.1 = i' at *
  generalize (rdf l k i e).2.2 = e' at *
  go_enter Try.func61, Try.ntmps61
  go_wp2_with fail
  ((with_reducible refine HU.out.mono ?_); rintro r w2 ⟨rfl, h2, b2⟩)
  have H2 := HW1.out.at_ h2
  obtain ⟨q0, f0⟩ := H2.cell HJ.out
  have H3 := Lib.hid ((H2.set HC.out).drop)
  have HB3 := Lib.hid ((HB1.out.trans b2).setCell (p := ⟨gf, j, none⟩) HBG.out (.int .i64 (v : Int)))
  clear H2 h2 b2
  go_wp2
  go_end0
  exact ⟨rfl, H3.out, HB3.out⟩
set_option maxRecDepth 100000 in
set_option maxHeartbeats 4000000 in
theorem text_r (h : Rf B G w g l i e gf cs) (hs : l.length ≤ 65536) (hi : i ≤ 8 * l.length) {j : Nat} {x : Value} (hj : cs[j]? = some x) (cs' : Array Value) (hc : cs.setIfInBounds j (.string (Str (rdText l i e).1)) = cs') :
    Calls Try.prog 82 #[Pr g, .pointer (some ⟨gf, j, none⟩)] w fun r w' => r = .returned (.tuple #[]) ∧ Rf B G w' g l (rdText l i e).2.1 (rdText l i e).2.2 gf cs' ∧ Below B w w' := by
  have HW1 := Lib.hid (h.alloc (Br g))
  have HB1 := Lib.hid (boxB h (Br g))
  have HU := Lib.hid (text_any HW1.out.1 hs hi)
  have HJ := Lib.hid hj
  have HC := Lib.hid hc
  have HBG := Lib.hid h.2.1
  clear h hj hc
  generalize (rdText l i e).1 = v at *
  generalize (rdText l i e).2.1 = i' at *
  generalize (rdText l i e).2.2 = e' at *
  go_enter Try.func82, Try.ntmps82
  go_wp2_with fail
  ((with_reducible refine HU.out.mono ?_); rintro r w2 ⟨rfl, h2, b2⟩)
  have H2 := HW1.out.at_ h2
  obtain ⟨q0, f0⟩ := H2.cell HJ.out
  have H3 := Lib.hid ((H2.set HC.out).drop)
  have HB3 := Lib.hid ((HB1.out.trans b2).setCell (p := ⟨gf, j, none⟩) HBG.out (.string (Str v)))
  clear H2 h2 b2
  go_wp2
  go_end0
  exact ⟨rfl, H3.out, HB3.out⟩
set_option maxRecDepth 100000 in
set_option maxHeartbeats 4000000 in
theorem ack_r (h : Rf B G w g l i e gf cs) (hs : l.length ≤ 65536) (hi : i ≤ 8 * l.length) {x : Value} (hj : cs[7]? = some x) (cs' : Array Value) (hc : cs.setIfInBounds 7 (.int .i64 (rdS l i e)) = cs') :
    Calls Try.prog 58 #[Pr g, .pointer (some ⟨gf, 0, none⟩)] w fun r w' => r = .returned (.tuple #[]) ∧ Rf B G w' g l (rdf l 16 i e).2.1 (rdf l 16 i e).2.2 gf cs' ∧ Below B w w' := by
  have HW1 := Lib.hid (h.alloc (Br g))
  have HB1 := Lib.hid (boxB h (Br g))
  have HU := Lib.hid (signed_any HW1.out.1 hs hi)
  have HJ := Lib.hid hj
  have HC := Lib.hid hc
  have HBG := Lib.hid h.2.1
  clear h hj hc
  generalize rdS l i e = v at *
  generalize (rdf l 16 i e).2.1 = i' at *
  generalize (rdf l 16 i e).2.2 = e' at *
  go_enter Try.func58, Try.ntmps58
  go_wp2_with fail
  ((with_reducible refine HU.out.mono ?_); rintro r w2 ⟨rfl, h2, b2⟩)
  have H2 := HW1.out.at_ h2
  obtain ⟨q0, f0⟩ := H2.cell HJ.out
  have H3 := Lib.hid ((H2.set HC.out).drop)
  have HB3 := Lib.hid ((HB1.out.trans b2).setCell (p := ⟨gf, 7, none⟩) HBG.out (.int .i64 v))
  clear H2 h2 b2
  go_wp2
  go_end0
  exact ⟨rfl, H3.out, HB3.out⟩
/-- What target reads: the number, the place, the error. -/
def rdTg (l : List UInt8) (i : Nat) (e : Int) : Int × Nat × Int :=
  if (rdf l 1 i e).1 = 1 then (((rdf l 5 (rdf l 1 i e).2.1 (rdf l 1 i e).2.2).1 : Int), (rdf l 5 (rdf l 1 i e).2.1 (rdf l 1 i e).2.2).2.1, (rdf l 5 (rdf l 1 i e).2.1 (rdf l 1 i e).2.2).2.2) else (-1, (rdf l 1 i e).2.1, (rdf l 1 i e).2.2)
theorem rdTg_le (l : List UInt8) (i : Nat) (e : Int) (h : i ≤ 8 * l.length) : (rdTg l i e).2.1 ≤ 8 * l.length := by
  unfold rdTg; split
  · exact rdf_le _ _ _ _ (rdf_le _ _ _ _ h)
  · exact rdf_le _ _ _ _ h
set_option maxRecDepth 100000 in
set_option maxHeartbeats 4000000 in
theorem target_r (h : Rf B G w g l i e gf cs) (hs : l.length ≤ 65536) (hi : i ≤ 8 * l.length) {x : Int} (hj : cs[2]? = some (.int .i64 x)) (cs' : Array Value) (hc : cs.setIfInBounds 2 (.int .i64 (rdTg l i e).1) = cs') :
    Calls Try.prog 62 #[Pr g, .pointer (some ⟨gf, 2, none⟩)] w fun r w' => r = .returned (.tuple #[]) ∧ Rf B G w' g l (rdTg l i e).2.1 (rdTg l i e).2.2 gf cs' ∧ Below B w w' := by
  have hW1 := h.alloc (Br g)
  obtain ⟨q0, f0⟩ := hW1.cell hj
  have HW1 := Lib.hid hW1
  have HB1 := Lib.hid (boxB h (Br g))
  have HU := flag_any HW1.out.1 hs hi
  have HJ := Lib.hid hj
  have HBG := Lib.hid h.2.1
  have HLE := rdf_le l 1 i e hi
  clear h hj hW1
  unfold rdTg at hc ⊢
  by_cases hf : (rdf l 1 i e).1 = 1
  · rw [if_pos hf] at hc ⊢
    rw [decide_eq_true hf] at HU
    have HC := Lib.hid hc
    have HU := Lib.hid HU
    clear hc hf
    generalize (rdf l 1 i e).2.1 = i' at *
    generalize (rdf l 1 i e).2.2 = e' at *
    go_enter Try.func62, Try.ntmps62
    go_wp2_with fail
    ((with_reducible refine HU.out.mono ?_); rintro r w2 ⟨rfl, h2, b2⟩)
    have H2 := HW1.out.at_ h2
    have p0 := (Rf.box H2).1
    have p1 := (Rf.box H2).2
    have HX := Lib.hid (unsigned_r H2 hs HLE 5 (by omega) (by omega) HJ.out _ HC.out)
    rw [show ((5 : Nat) : Int) = 5 from rfl] at HX
    have HB2 := Lib.hid (HB1.out.trans b2)
    clear H2 h2 b2 q0 f0 HU
    go_wp2_with fail
    ((with_reducible refine HX.out.mono ?_); rintro r w3 ⟨rfl, h3, b3⟩)
    have H3 := Lib.hid h3.drop
    have HB3 := Lib.hid (HB2.out.trans b3)
    clear h3 b3
    go_wp2_with fail
    go_end0
    exact ⟨rfl, H3.out, HB3.out⟩
  · rw [if_neg hf] at hc ⊢
    rw [decide_eq_false hf] at HU
    have HC := Lib.hid hc
    have HU := Lib.hid HU
    clear hc hf
    generalize (rdf l 1 i e).2.1 = i' at *
    generalize (rdf l 1 i e).2.2 = e' at *
    go_enter Try.func62, Try.ntmps62
    go_wp2_with fail
    ((with_reducible refine HU.out.mono ?_); rintro r w2 ⟨rfl, h2, b2⟩)
    have H2 := HW1.out.at_ h2
    obtain ⟨q2, f2⟩ := H2.cell HJ.out
    have H3 := Lib.hid ((H2.set HC.out).drop)
    have HB3 := Lib.hid ((HB1.out.trans b2).setCell (p := ⟨gf, 2, none⟩) HBG.out (.int .i64 (-1)))
    clear H2 h2 b2 q0 f0
    go_wp2
    go_end0
    exact ⟨rfl, H3.out, HB3.out⟩
end Go.Proofs.Ytbgnkjaikbhdoaa.PenR

-- FrA
namespace Go.Proofs.Ytbgnkjaikbhdoaa.FrA
set_option linter.unusedSimpArgs false
set_option linter.unusedVariables false
open Go.RowKit
open Go.Proofs.Ytbgnkjaikbhdoaa.Bytes (Str)

/-- A frame's cells. -/
abbrev fr (k s t l q x y er sl rk ep : Int) (d : List UInt8) : Array Value := #[.int .i64 k, .int .i64 s, .int .i64 t, .int .i64 l, .int .i64 q, .int .i64 x, .int .i64 y, .int .i64 er, .int .i64 sl, .int .i64 rk, .int .i64 ep, .string (Str d)]
abbrev TF : TypeId := 23

def inB (n m : Int) : Bool := decide (0 ≤ n) && decide (n ≤ m)
def errB (n : Int) : Bool := decide (-32768 ≤ n) && decide (n ≤ 32767)
def tgB (s t : Int) : Bool := inB t 31 && !decide (t = s)

theorem in_any (n m : Int) (w : World) :
    Calls Try.prog 37 #[.int .i64 n, .int .i64 m] w fun e w' => e = .returned (.bool (inB n m)) ∧ w' = w := by
  unfold inB
  by_cases h1 : 0 ≤ n
  · by_cases h2 : n ≤ m
    · go_enter Try.func37, Try.ntmps37
      go_wp2_with fail
      go_ret
      exact ⟨by simp [h1, h2], rfl⟩
    · go_enter Try.func37, Try.ntmps37
      go_wp2_with fail
      go_ret
      exact ⟨by simp [h1, h2], rfl⟩
  · go_enter Try.func37, Try.ntmps37
    go_wp2_with fail
    go_ret
    exact ⟨by simp; omega, rfl⟩

theorem within_any (n m : Int) (w : World) :
    Calls Try.prog 38 #[.int .i64 n, .int .i64 m] w fun e w' => e = .returned (.bool (inB n m)) ∧ w' = w := by
  unfold inB
  by_cases h1 : 0 ≤ n
  · by_cases h2 : n ≤ m
    · go_enter Try.func38, Try.ntmps38
      go_wp2_with fail
      go_ret
      exact ⟨by simp [h1, h2], rfl⟩
    · go_enter Try.func38, Try.ntmps38
      go_wp2_with fail
      go_ret
      exact ⟨by simp [h1, h2], rfl⟩
  · go_enter Try.func38, Try.ntmps38
    go_wp2_with fail
    go_ret
    exact ⟨by simp; omega, rfl⟩

theorem isError_any (n : Int) (w : World) :
    Calls Try.prog 39 #[.int .i64 n] w fun e w' => e = .returned (.bool (errB n)) ∧ w' = w := by
  unfold errB
  by_cases h1 : -32768 ≤ n
  · by_cases h2 : n ≤ 32767
    · go_enter Try.func39, Try.ntmps39
      go_wp2_with fail
      go_ret
      exact ⟨by simp [h1, h2], rfl⟩
    · go_enter Try.func39, Try.ntmps39
      go_wp2_with fail
      go_ret
      exact ⟨by simp [h1, h2], rfl⟩
  · go_enter Try.func39, Try.ntmps39
    go_wp2_with fail
    go_ret
    exact ⟨by simp; omega, rfl⟩

set_option maxRecDepth 100000 in
set_option maxHeartbeats 4000000 in
theorem isTarget_any (k s t l q x y er sl rk ep : Int) (d : List UInt8) (w : World) :
    Calls Try.prog 67 #[.agg (fr k s t l q x y er sl rk ep d)] w fun e w' => e = .returned (.bool (tgB s t)) ∧ w' = w.alloc (.cells (fr k s t l q x y er sl rk ep d) TF) := by
  unfold tgB
  cases hc : inB t 31
  · go_enter Try.func67, Try.ntmps67
    go_wp2_with fail
    refine (in_any t 31 _).mono ?_
    rintro e w1 ⟨rfl, rfl⟩
    rw [hc]
    go_wp2_with fail
    go_ret
    exact ⟨by simp, rfl⟩
  · by_cases h : t = s
    · subst h
      go_enter Try.func67, Try.ntmps67
      go_wp2_with fail
      refine (in_any t 31 _).mono ?_
      rintro e w1 ⟨rfl, rfl⟩
      rw [hc]
      go_wp2_with fail
      go_ret
      exact ⟨by simp, rfl⟩
    · go_enter Try.func67, Try.ntmps67
      go_wp2_with fail
      refine (in_any t 31 _).mono ?_
      rintro e w1 ⟨rfl, rfl⟩
      rw [hc]
      go_wp2_with fail
      go_ret
      exact ⟨by simp [h], rfl⟩

/-- What frame.fields returns. -/
def okB (k s t x y er sl rk ep : Int) : Bool :=
  if k = 1 then tgB s t && inB x 255 && inB y 65535
  else if k = 2 then tgB s t && errB er
  else if k = 3 then decide (t = -1) && inB sl 109951162 && inB rk 65535 && inB ep 65535
  else if k = 4 then decide (t = -1) || tgB s t
  else false
abbrev rest (k s t l q x y er sl rk ep : Int) (d : List UInt8) : Array Value :=
  if k = 1 then fr k s t l q 0 0 er sl rk ep []
  else if k = 2 then fr k s t l q x y 0 sl rk ep d
  else if k = 3 then fr k s t l q x y er 0 0 0 []
  else if k = 4 then fr k s t l q x y er sl rk ep []
  else fr k s t l q x y er sl rk ep d

end Go.Proofs.Ytbgnkjaikbhdoaa.FrA

-- PenRd
namespace Go.Proofs.Ytbgnkjaikbhdoaa.PenRd
set_option linter.unusedSimpArgs false
set_option linter.unusedVariables false
open Go.RowKit Go.Proofs.Ytbgnkjaikbhdoaa.Pack Go.Proofs.Ytbgnkjaikbhdoaa.WrPut Go.Proofs.Ytbgnkjaikbhdoaa.Rd Go.Proofs.Ytbgnkjaikbhdoaa.RdC Go.Proofs.Ytbgnkjaikbhdoaa.RdT Go.Proofs.Ytbgnkjaikbhdoaa.PenF Go.Proofs.Ytbgnkjaikbhdoaa.PenR
open Go.Proofs.Ytbgnkjaikbhdoaa.Bytes (Str)
open Go.Proofs.Ytbgnkjaikbhdoaa.FrA (fr)
variable {B g gf i : Nat} {G : List (Nat × Obj)} {w : World} {l : List UInt8} {e : Int} {cs : Array Value}

theorem unsigned_e (h : Rf B G w g l i e gf cs) (hs : l.length ≤ 65536) (hi : i ≤ 8 * l.length) (k : Nat) (kI : Int) (hkI : (k : Int) = kI) (h1 : 1 ≤ k) (hk : k ≤ 62) {v i' : Nat} {e' : Int} (hr : rdf l k i e = (v, i', e')) {j : Nat} {x : Value} (hj : cs[j]? = some x) (cs' : Array Value) (hc : cs.setIfInBounds j (.int .i64 (v : Int)) = cs') :
    Calls Try.prog 61 #[Pr g, .int .i64 kI, .pointer (some ⟨gf, j, none⟩)] w fun r w' => r = .returned (.tuple #[]) ∧ Rf B G w' g l i' e' gf cs' ∧ Below B w w' := by
  subst hkI
  have := unsigned_r h hs hi k h1 hk hj cs' (by rw [hr]; exact hc)
  rw [hr] at this; exact this
theorem text_e (h : Rf B G w g l i e gf cs) (hs : l.length ≤ 65536) (hi : i ≤ 8 * l.length) {d : List UInt8} {i' : Nat} {e' : Int} (hr : rdText l i e = (d, i', e')) {j : Nat} {x : Value} (hj : cs[j]? = some x) (cs' : Array Value) (hc : cs.setIfInBounds j (.string (Str d)) = cs') :
    Calls Try.prog 82 #[Pr g, .pointer (some ⟨gf, j, none⟩)] w fun r w' => r = .returned (.tuple #[]) ∧ Rf B G w' g l i' e' gf cs' ∧ Below B w w' := by
  have := text_r h hs hi hj cs' (by rw [hr]; exact hc)
  rw [hr] at this; exact this
theorem target_e (h : Rf B G w g l i e gf cs) (hs : l.length ≤ 65536) (hi : i ≤ 8 * l.length) {t : Int} {i' : Nat} {e' : Int} (hr : rdTg l i e = (t, i', e')) {x : Int} (hj : cs[2]? = some (.int .i64 x)) (cs' : Array Value) (hc : cs.setIfInBounds 2 (.int .i64 t) = cs') :
    Calls Try.prog 62 #[Pr g, .pointer (some ⟨gf, 2, none⟩)] w fun r w' => r = .returned (.tuple #[]) ∧ Rf B G w' g l i' e' gf cs' ∧ Below B w w' := by
  have := target_r h hs hi hj cs' (by rw [hr]; exact hc)
  rw [hr] at this; exact this
theorem ack_e (h : Rf B G w g l i e gf cs) (hs : l.length ≤ 65536) (hi : i ≤ 8 * l.length) {t : Int} (ht : rdS l i e = t) {v i' : Nat} {e' : Int} (hr : rdf l 16 i e = (v, i', e')) {x : Value} (hj : cs[7]? = some x) (cs' : Array Value) (hc : cs.setIfInBounds 7 (.int .i64 t) = cs') :
    Calls Try.prog 58 #[Pr g, .pointer (some ⟨gf, 0, none⟩)] w fun r w' => r = .returned (.tuple #[]) ∧ Rf B G w' g l i' e' gf cs' ∧ Below B w w' := by
  have := ack_r h hs hi hj cs' (by rw [ht]; exact hc)
  rw [hr] at this; exact this
theorem le_of {k v i' : Nat} {e' : Int} (hr : rdf l k i e = (v, i', e')) (hi : i ≤ 8 * l.length) : i' ≤ 8 * l.length := by
  have := rdf_le l k i e hi; rwa [hr] at this
theorem leT_of {d : List UInt8} {i' : Nat} {e' : Int} (hr : rdText l i e = (d, i', e')) (hi : i ≤ 8 * l.length) : i' ≤ 8 * l.length := by
  have := rdText_le l i e hi; rwa [hr] at this
theorem leG_of {t : Int} {i' : Nat} {e' : Int} (hr : rdTg l i e = (t, i', e')) (hi : i ≤ 8 * l.length) : i' ≤ 8 * l.length := by
  have := rdTg_le l i e hi; rwa [hr] at this
theorem Rf.drew (h : Rf B G w g l i e gf cs) : Rf B G w.drew g l i e gf cs := h
theorem Rf.below {w' : World} (h : Rf B G w g l i e gf cs) (hb : Below w.heap.size w w') : Rf B G w' g l i e gf cs := ⟨h.1.below hb, h.2⟩
theorem Rf.addG {mb : Nat} {o : Obj} (h : Rf B G w g l i e gf cs) (ho : w.heap[mb]? = some o) (h1 : mb ≠ g) (h2 : mb ≠ gf) : Rf B ((mb, o) :: G) w g l i e gf cs := by
  obtain ⟨⟨a, b, c⟩, d, f⟩ := h
  refine ⟨⟨a, b, fun p hp => ?_⟩, d, fun p hp => ?_⟩
  · rcases List.mem_cons.1 hp with rfl | hp
    · exact c _ (.head _)
    · rcases List.mem_cons.1 hp with rfl | hp
      · exact ⟨ho, h1⟩
      · exact c _ (.tail _ hp)
  · rcases List.mem_cons.1 hp with rfl | hp
    · exact h2
    · exact f p hp
theorem Rf.boxAt {pb : Nat} (h : Rf B G w g l i e gf cs) (hp : (pb, Br g) ∈ G) : w.cell? ⟨pb, 0, none⟩ = some (.pointer none) ∧ w.cell? ⟨pb, 1, none⟩ = some (.pointer (some ⟨g, 0, none⟩)) :=
  ⟨(h.1.cellG (.tail _ hp) rfl).1, (h.1.cellG (.tail _ hp) rfl).1⟩

set_option maxRecDepth 100000 in
set_option maxHeartbeats 8000000 in
theorem data_r {k s t a q : Int} (h : Rf B G w g l i e gf (fr (k) (s) (t) (a) (q) 0 0 0 0 0 0 [])) (hs : l.length ≤ 65536) (hi : i ≤ 8 * l.length) {x i1 : Nat} {e1 : Int} (h1 : rdf l 8 i e = (x, i1, e1)) {y i2 : Nat} {e2 : Int} (h2 : rdf l 16 i1 e1 = (y, i2, e2)) {d : List UInt8} {i3 : Nat} {e3 : Int} (h3 : rdText l i2 e2 = (d, i3, e3)) :
    Calls Try.prog 57 #[Pr g, .pointer (some ⟨gf, 0, none⟩)] w fun r w' => r = .returned (.tuple #[]) ∧ Rf B G w' g l i3 e3 gf (fr (k) (s) (t) (a) (q) ((x : Int)) ((y : Int)) 0 0 0 0 (d)) ∧ Below B w w' := by
  have L0 := Lib.hid hi
  have L1 := Lib.hid (le_of h1 L0.out)
  have H1 := Lib.hid h1
  have L2 := Lib.hid (le_of h2 L1.out)
  have H2 := Lib.hid h2
  have L3 := Lib.hid (leT_of h3 L2.out)
  have H3 := Lib.hid h3
  have HW := Lib.hid (h.alloc (Br g))
  have HB := Lib.hid (boxB h (Br g))
  clear h hi h1 h2 h3
  go_enter Try.func57, Try.ntmps57
  obtain ⟨w1, hw1⟩ : ∃ w1, w1 = w.alloc (Br g) := ⟨_, rfl⟩
  rw [← hw1] at HW HB
  go_wp2_with fail
  rw [← hw1]
  clear hw1
  have p0 := (Rf.boxAt HW.out (pb := w.heap.size) (.head _)).1
  have p1 := (Rf.boxAt HW.out (pb := w.heap.size) (.head _)).2
  refine wp_region_still_tail 4 (by kernel_rfl) (by kernel_rfl) ?_
  simp only [List.take_succ_cons, List.take_zero, List.drop_succ_cons, List.drop_zero]
  change wpStill _ _ (World.drew w1) (fun a' => wpList _ _ _ _ a' (World.drew w1)) _ _
  have s0 : (World.drew w1).cell? ⟨w.heap.size, 0, none⟩ = some (.pointer none) := p0
  have s1 : (World.drew w1).cell? ⟨w.heap.size, 1, none⟩ = some (.pointer (some ⟨g, 0, none⟩)) := p1
  have HWd := Lib.hid (Rf.drew HW.out)
  have HBd := Lib.hid (below_drew' HB.out)
  clear p0 p1 HW HB
  generalize World.drew w1 = wa0 at s0 s1 HWd HBd ⊢
  repeat still_step
  refine wpStill_nil ?_
  clear s0 s1
  go_wp2_with fail
  ((with_reducible refine (unsigned_e HWd.out hs L0.out 8 8 rfl (by omega) (by omega) H1.out (j := 5) rfl (fr (k) (s) (t) (a) (q) ((x : Int)) 0 0 0 0 0 []) rfl).mono ?_); rintro r wb0 ⟨rfl, h3, b3⟩)
  have HW := Lib.hid h3
  have HB := Lib.hid (HBd.out.trans b3)
  clear h3 b3 HWd HBd
  have p0 := (Rf.boxAt HW.out (pb := w.heap.size) (.head _)).1
  have p1 := (Rf.boxAt HW.out (pb := w.heap.size) (.head _)).2
  go_wp2_with fail
  refine wp_region_still_tail 4 (by kernel_rfl) (by kernel_rfl) ?_
  simp only [List.take_succ_cons, List.take_zero, List.drop_succ_cons, List.drop_zero]
  change wpStill _ _ (World.drew wb0) (fun a' => wpList _ _ _ _ a' (World.drew wb0)) _ _
  have s0 : (World.drew wb0).cell? ⟨w.heap.size, 0, none⟩ = some (.pointer none) := p0
  have s1 : (World.drew wb0).cell? ⟨w.heap.size, 1, none⟩ = some (.pointer (some ⟨g, 0, none⟩)) := p1
  have HWd := Lib.hid (Rf.drew HW.out)
  have HBd := Lib.hid (below_drew' HB.out)
  clear p0 p1 HW HB
  generalize World.drew wb0 = wa1 at s0 s1 HWd HBd ⊢
  repeat still_step
  refine wpStill_nil ?_
  clear s0 s1
  go_wp2_with fail
  ((with_reducible refine (unsigned_e HWd.out hs L1.out 16 16 rfl (by omega) (by omega) H2.out (j := 6) rfl (fr (k) (s) (t) (a) (q) ((x : Int)) ((y : Int)) 0 0 0 0 []) rfl).mono ?_); rintro r wb1 ⟨rfl, h3, b3⟩)
  have HW := Lib.hid h3
  have HB := Lib.hid (HBd.out.trans b3)
  clear h3 b3 HWd HBd
  have p0 := (Rf.boxAt HW.out (pb := w.heap.size) (.head _)).1
  have p1 := (Rf.boxAt HW.out (pb := w.heap.size) (.head _)).2
  go_wp2_with fail
  refine wp_region_still_tail 4 (by kernel_rfl) (by kernel_rfl) ?_
  simp only [List.take_succ_cons, List.take_zero, List.drop_succ_cons, List.drop_zero]
  change wpStill _ _ (World.drew wb1) (fun a' => wpList _ _ _ _ a' (World.drew wb1)) _ _
  have s0 : (World.drew wb1).cell? ⟨w.heap.size, 0, none⟩ = some (.pointer none) := p0
  have s1 : (World.drew wb1).cell? ⟨w.heap.size, 1, none⟩ = some (.pointer (some ⟨g, 0, none⟩)) := p1
  have HWd := Lib.hid (Rf.drew HW.out)
  have HBd := Lib.hid (below_drew' HB.out)
  clear p0 p1 HW HB
  generalize World.drew wb1 = wa2 at s0 s1 HWd HBd ⊢
  repeat still_step
  refine wpStill_nil ?_
  clear s0 s1
  go_wp2_with fail
  ((with_reducible refine (text_e HWd.out hs L2.out H3.out (j := 11) rfl (fr (k) (s) (t) (a) (q) ((x : Int)) ((y : Int)) 0 0 0 0 (d)) rfl).mono ?_); rintro r wb2 ⟨rfl, h3, b3⟩)
  have HW := Lib.hid h3
  have HB := Lib.hid (HBd.out.trans b3)
  clear h3 b3 HWd HBd
  go_wp2_with fail
  go_end0
  exact ⟨rfl, HW.out.drop, HB.out⟩
set_option maxRecDepth 100000 in
set_option maxHeartbeats 8000000 in
theorem beacon_r {k s t a q : Int} (h : Rf B G w g l i e gf (fr (k) (s) (t) (a) (q) 0 0 0 0 0 0 [])) (hs : l.length ≤ 65536) (hi : i ≤ 8 * l.length) {sl i1 : Nat} {e1 : Int} (h1 : rdf l 27 i e = (sl, i1, e1)) {rk i2 : Nat} {e2 : Int} (h2 : rdf l 16 i1 e1 = (rk, i2, e2)) {ep i3 : Nat} {e3 : Int} (h3 : rdf l 16 i2 e2 = (ep, i3, e3)) {d : List UInt8} {i4 : Nat} {e4 : Int} (h4 : rdText l i3 e3 = (d, i4, e4)) :
    Calls Try.prog 59 #[Pr g, .pointer (some ⟨gf, 0, none⟩)] w fun r w' => r = .returned (.tuple #[]) ∧ Rf B G w' g l i4 e4 gf (fr (k) (s) (t) (a) (q) 0 0 0 ((sl : Int)) ((rk : Int)) ((ep : Int)) (d)) ∧ Below B w w' := by
  have L0 := Lib.hid hi
  have L1 := Lib.hid (le_of h1 L0.out)
  have H1 := Lib.hid h1
  have L2 := Lib.hid (le_of h2 L1.out)
  have H2 := Lib.hid h2
  have L3 := Lib.hid (le_of h3 L2.out)
  have H3 := Lib.hid h3
  have L4 := Lib.hid (leT_of h4 L3.out)
  have H4 := Lib.hid h4
  have HW := Lib.hid (h.alloc (Br g))
  have HB := Lib.hid (boxB h (Br g))
  clear h hi h1 h2 h3 h4
  go_enter Try.func59, Try.ntmps59
  obtain ⟨w1, hw1⟩ : ∃ w1, w1 = w.alloc (Br g) := ⟨_, rfl⟩
  rw [← hw1] at HW HB
  go_wp2_with fail
  rw [← hw1]
  clear hw1
  have p0 := (Rf.boxAt HW.out (pb := w.heap.size) (.head _)).1
  have p1 := (Rf.boxAt HW.out (pb := w.heap.size) (.head _)).2
  refine wp_region_still_tail 4 (by kernel_rfl) (by kernel_rfl) ?_
  simp only [List.take_succ_cons, List.take_zero, List.drop_succ_cons, List.drop_zero]
  change wpStill _ _ (World.drew w1) (fun a' => wpList _ _ _ _ a' (World.drew w1)) _ _
  have s0 : (World.drew w1).cell? ⟨w.heap.size, 0, none⟩ = some (.pointer none) := p0
  have s1 : (World.drew w1).cell? ⟨w.heap.size, 1, none⟩ = some (.pointer (some ⟨g, 0, none⟩)) := p1
  have HWd := Lib.hid (Rf.drew HW.out)
  have HBd := Lib.hid (below_drew' HB.out)
  clear p0 p1 HW HB
  generalize World.drew w1 = wa0 at s0 s1 HWd HBd ⊢
  repeat still_step
  refine wpStill_nil ?_
  clear s0 s1
  go_wp2_with fail
  ((with_reducible refine (unsigned_e HWd.out hs L0.out 27 27 rfl (by omega) (by omega) H1.out (j := 8) rfl (fr (k) (s) (t) (a) (q) 0 0 0 ((sl : Int)) 0 0 []) rfl).mono ?_); rintro r wb0 ⟨rfl, h3, b3⟩)
  have HW := Lib.hid h3
  have HB := Lib.hid (HBd.out.trans b3)
  clear h3 b3 HWd HBd
  have p0 := (Rf.boxAt HW.out (pb := w.heap.size) (.head _)).1
  have p1 := (Rf.boxAt HW.out (pb := w.heap.size) (.head _)).2
  go_wp2_with fail
  refine wp_region_still_tail 4 (by kernel_rfl) (by kernel_rfl) ?_
  simp only [List.take_succ_cons, List.take_zero, List.drop_succ_cons, List.drop_zero]
  change wpStill _ _ (World.drew wb0) (fun a' => wpList _ _ _ _ a' (World.drew wb0)) _ _
  have s0 : (World.drew wb0).cell? ⟨w.heap.size, 0, none⟩ = some (.pointer none) := p0
  have s1 : (World.drew wb0).cell? ⟨w.heap.size, 1, none⟩ = some (.pointer (some ⟨g, 0, none⟩)) := p1
  have HWd := Lib.hid (Rf.drew HW.out)
  have HBd := Lib.hid (below_drew' HB.out)
  clear p0 p1 HW HB
  generalize World.drew wb0 = wa1 at s0 s1 HWd HBd ⊢
  repeat still_step
  refine wpStill_nil ?_
  clear s0 s1
  go_wp2_with fail
  ((with_reducible refine (unsigned_e HWd.out hs L1.out 16 16 rfl (by omega) (by omega) H2.out (j := 9) rfl (fr (k) (s) (t) (a) (q) 0 0 0 ((sl : Int)) ((rk : Int)) 0 []) rfl).mono ?_); rintro r wb1 ⟨rfl, h3, b3⟩)
  have HW := Lib.hid h3
  have HB := Lib.hid (HBd.out.trans b3)
  clear h3 b3 HWd HBd
  have p0 := (Rf.boxAt HW.out (pb := w.heap.size) (.head _)).1
  have p1 := (Rf.boxAt HW.out (pb := w.heap.size) (.head _)).2
  go_wp2_with fail
  refine wp_region_still_tail 4 (by kernel_rfl) (by kernel_rfl) ?_
  simp only [List.take_succ_cons, List.take_zero, List.drop_succ_cons, List.drop_zero]
  change wpStill _ _ (World.drew wb1) (fun a' => wpList _ _ _ _ a' (World.drew wb1)) _ _
  have s0 : (World.drew wb1).cell? ⟨w.heap.size, 0, none⟩ = some (.pointer none) := p0
  have s1 : (World.drew wb1).cell? ⟨w.heap.size, 1, none⟩ = some (.pointer (some ⟨g, 0, none⟩)) := p1
  have HWd := Lib.hid (Rf.drew HW.out)
  have HBd := Lib.hid (below_drew' HB.out)
  clear p0 p1 HW HB
  generalize World.drew wb1 = wa2 at s0 s1 HWd HBd ⊢
  repeat still_step
  refine wpStill_nil ?_
  clear s0 s1
  go_wp2_with fail
  ((with_reducible refine (unsigned_e HWd.out hs L2.out 16 16 rfl (by omega) (by omega) H3.out (j := 10) rfl (fr (k) (s) (t) (a) (q) 0 0 0 ((sl : Int)) ((rk : Int)) ((ep : Int)) []) rfl).mono ?_); rintro r wb2 ⟨rfl, h3, b3⟩)
  have HW := Lib.hid h3
  have HB := Lib.hid (HBd.out.trans b3)
  clear h3 b3 HWd HBd
  have p0 := (Rf.boxAt HW.out (pb := w.heap.size) (.head _)).1
  have p1 := (Rf.boxAt HW.out (pb := w.heap.size) (.head _)).2
  go_wp2_with fail
  refine wp_region_still_tail 4 (by kernel_rfl) (by kernel_rfl) ?_
  simp only [List.take_succ_cons, List.take_zero, List.drop_succ_cons, List.drop_zero]
  change wpStill _ _ (World.drew wb2) (fun a' => wpList _ _ _ _ a' (World.drew wb2)) _ _
  have s0 : (World.drew wb2).cell? ⟨w.heap.size, 0, none⟩ = some (.pointer none) := p0
  have s1 : (World.drew wb2).cell? ⟨w.heap.size, 1, none⟩ = some (.pointer (some ⟨g, 0, none⟩)) := p1
  have HWd := Lib.hid (Rf.drew HW.out)
  have HBd := Lib.hid (below_drew' HB.out)
  clear p0 p1 HW HB
  generalize World.drew wb2 = wa3 at s0 s1 HWd HBd ⊢
  repeat still_step
  refine wpStill_nil ?_
  clear s0 s1
  go_wp2_with fail
  ((with_reducible refine (text_e HWd.out hs L3.out H4.out (j := 11) rfl (fr (k) (s) (t) (a) (q) 0 0 0 ((sl : Int)) ((rk : Int)) ((ep : Int)) (d)) rfl).mono ?_); rintro r wb3 ⟨rfl, h3, b3⟩)
  have HW := Lib.hid h3
  have HB := Lib.hid (HBd.out.trans b3)
  clear h3 b3 HWd HBd
  go_wp2_with fail
  go_end0
  exact ⟨rfl, HW.out.drop, HB.out⟩
set_option maxRecDepth 100000 in
set_option maxHeartbeats 8000000 in
theorem message_r {k s t a q : Int} (h : Rf B G w g l i e gf (fr (k) (s) (t) (a) (q) 0 0 0 0 0 0 [])) (hs : l.length ≤ 65536) (hi : i ≤ 8 * l.length) {d : List UInt8} {i1 : Nat} {e1 : Int} (h1 : rdText l i e = (d, i1, e1)) :
    Calls Try.prog 60 #[Pr g, .pointer (some ⟨gf, 0, none⟩)] w fun r w' => r = .returned (.tuple #[]) ∧ Rf B G w' g l i1 e1 gf (fr (k) (s) (t) (a) (q) 0 0 0 0 0 0 (d)) ∧ Below B w w' := by
  have L0 := Lib.hid hi
  have L1 := Lib.hid (leT_of h1 L0.out)
  have H1 := Lib.hid h1
  have HW := Lib.hid (h.alloc (Br g))
  have HB := Lib.hid (boxB h (Br g))
  clear h hi h1
  go_enter Try.func60, Try.ntmps60
  obtain ⟨w1, hw1⟩ : ∃ w1, w1 = w.alloc (Br g) := ⟨_, rfl⟩
  rw [← hw1] at HW HB
  go_wp2_with fail
  rw [← hw1]
  clear hw1
  have p0 := (Rf.boxAt HW.out (pb := w.heap.size) (.head _)).1
  have p1 := (Rf.boxAt HW.out (pb := w.heap.size) (.head _)).2
  refine wp_region_still_tail 4 (by kernel_rfl) (by kernel_rfl) ?_
  simp only [List.take_succ_cons, List.take_zero, List.drop_succ_cons, List.drop_zero]
  change wpStill _ _ (World.drew w1) (fun a' => wpList _ _ _ _ a' (World.drew w1)) _ _
  have s0 : (World.drew w1).cell? ⟨w.heap.size, 0, none⟩ = some (.pointer none) := p0
  have s1 : (World.drew w1).cell? ⟨w.heap.size, 1, none⟩ = some (.pointer (some ⟨g, 0, none⟩)) := p1
  have HWd := Lib.hid (Rf.drew HW.out)
  have HBd := Lib.hid (below_drew' HB.out)
  clear p0 p1 HW HB
  generalize World.drew w1 = wa0 at s0 s1 HWd HBd ⊢
  repeat still_step
  refine wpStill_nil ?_
  clear s0 s1
  go_wp2_with fail
  ((with_reducible refine (text_e HWd.out hs L0.out H1.out (j := 11) rfl (fr (k) (s) (t) (a) (q) 0 0 0 0 0 0 (d)) rfl).mono ?_); rintro r wb0 ⟨rfl, h3, b3⟩)
  have HW := Lib.hid h3
  have HB := Lib.hid (HBd.out.trans b3)
  clear h3 b3 HWd HBd
  go_wp2_with fail
  go_end0
  exact ⟨rfl, HW.out.drop, HB.out⟩
set_option maxRecDepth 100000 in
set_option maxHeartbeats 8000000 in
theorem frame_data (h : Rf B G w g l 0 0 gf (fr 0 0 0 0 0 0 0 0 0 0 0 [])) (hs : l.length ≤ 65536) {i1 : Nat} {e1 : Int} (h1 : rdf l 3 0 0 = (1, i1, e1)) {s i2 : Nat} {e2 : Int} (h2 : rdf l 5 i1 e1 = (s, i2, e2)) {t : Int} {i3 : Nat} {e3 : Int} (h3 : rdTg l i2 e2 = (t, i3, e3)) {a i4 : Nat} {e4 : Int} (h4 : rdf l 8 i3 e3 = (a, i4, e4)) {q i5 : Nat} {e5 : Int} (h5 : rdf l 8 i4 e4 = (q, i5, e5)) {x i6 : Nat} {e6 : Int} (h6 : rdf l 8 i5 e5 = (x, i6, e6)) {y i7 : Nat} {e7 : Int} (h7 : rdf l 16 i6 e6 = (y, i7, e7)) {d : List UInt8} {i8 : Nat} {e8 : Int} (h8 : rdText l i7 e7 = (d, i8, e8)) :
    Calls Try.prog 27 #[Pr g, .pointer (some ⟨gf, 0, none⟩)] w fun r w' => r = .returned (.bool true) ∧ Rf B G w' g l i8 e8 gf (fr ((1 : Int)) ((s : Int)) (t) ((a : Int)) ((q : Int)) ((x : Int)) ((y : Int)) 0 0 0 0 (d)) ∧ Below B w w' := by
  have L0 : Hid (0 ≤ 8 * l.length) := Lib.hid (by omega)
  have L1 := Lib.hid (le_of h1 L0.out)
  have H1 := Lib.hid h1
  have L2 := Lib.hid (le_of h2 L1.out)
  have H2 := Lib.hid h2
  have L3 := Lib.hid (leG_of h3 L2.out)
  have H3 := Lib.hid h3
  have L4 := Lib.hid (le_of h4 L3.out)
  have H4 := Lib.hid h4
  have L5 := Lib.hid (le_of h5 L4.out)
  have H5 := Lib.hid h5
  have H6 := Lib.hid h6
  have H7 := Lib.hid h7
  have H8 := Lib.hid h8
  have hlt := h.1.lt
  have hltf := h.1.guest_lt (.head _)
  have hW0 := h.alloc (Br g)
  have hB0 := boxB h (Br g)
  obtain ⟨m1, m2, m3, m4, o, r1, r2, r3, r4, mb, ms, mo, m8, look⟩ := kinds_map (w.alloc (Br g))
  have es : (w.alloc (Br g)).heap.size = w.heap.size + 1 := by simp
  have HW := Lib.hid (Rf.addG (Rf.below hW0 mb) (mb := w.heap.size + 1) (by rw [← es]; exact mo) (by omega) (by omega))
  have HB := Lib.hid (hB0.trans (mb.mono (by rw [es]; have := h.1.1; omega)))
  rw [es] at r1 r2 r3 r4 look
  have HL := Lib.hid look
  have hmm := @run_makeMap Try.prog
  clear hlt hltf h hW0 hB0 mb ms mo m8 look es h1 h2 h3 h4 h5 h6 h7 h8
  go_enter Try.func27, Try.ntmps27
  go_wp2_with fail
  clear r1 r2 r3 r4 hmm
  have p0 := (Rf.boxAt HW.out (pb := w.heap.size) (.tail _ (.head _))).1
  have p1 := (Rf.boxAt HW.out (pb := w.heap.size) (.tail _ (.head _))).2
  refine wp_region_still_tail 4 (by kernel_rfl) (by kernel_rfl) ?_
  simp only [List.take_succ_cons, List.take_zero, List.drop_succ_cons, List.drop_zero]
  change wpStill _ _ (World.drew m4) (fun a' => wpList _ _ _ _ a' (World.drew m4)) _ _
  have s0 : (World.drew m4).cell? ⟨w.heap.size, 0, none⟩ = some (.pointer none) := p0
  have s1 : (World.drew m4).cell? ⟨w.heap.size, 1, none⟩ = some (.pointer (some ⟨g, 0, none⟩)) := p1
  have HWd := Lib.hid (Rf.drew HW.out)
  have HBd := Lib.hid (below_drew' HB.out)
  clear p0 p1 HW HB
  generalize World.drew m4 = wa0 at s0 s1 HWd HBd ⊢
  repeat still_step
  refine wpStill_nil ?_
  clear s0 s1
  go_wp2_with fail
  ((with_reducible refine (unsigned_e HWd.out hs L0.out 3 3 rfl (by omega) (by omega) H1.out (j := 0) rfl (fr ((1 : Int)) 0 0 0 0 0 0 0 0 0 0 []) rfl).mono ?_); rintro r wb0 ⟨rfl, h3, b3⟩)
  have HW := Lib.hid h3
  have HB := Lib.hid (HBd.out.trans b3)
  clear h3 b3 HWd HBd
  have p0 := (Rf.boxAt HW.out (pb := w.heap.size) (.tail _ (.head _))).1
  have p1 := (Rf.boxAt HW.out (pb := w.heap.size) (.tail _ (.head _))).2
  go_wp2_with fail
  refine wp_region_still_tail 4 (by kernel_rfl) (by kernel_rfl) ?_
  simp only [List.take_succ_cons, List.take_zero, List.drop_succ_cons, List.drop_zero]
  change wpStill _ _ (World.drew wb0) (fun a' => wpList _ _ _ _ a' (World.drew wb0)) _ _
  have s0 : (World.drew wb0).cell? ⟨w.heap.size, 0, none⟩ = some (.pointer none) := p0
  have s1 : (World.drew wb0).cell? ⟨w.heap.size, 1, none⟩ = some (.pointer (some ⟨g, 0, none⟩)) := p1
  have HWd := Lib.hid (Rf.drew HW.out)
  have HBd := Lib.hid (below_drew' HB.out)
  clear p0 p1 HW HB
  generalize World.drew wb0 = wa1 at s0 s1 HWd HBd ⊢
  repeat still_step
  refine wpStill_nil ?_
  clear s0 s1
  go_wp2_with fail
  ((with_reducible refine (unsigned_e HWd.out hs L1.out 5 5 rfl (by omega) (by omega) H2.out (j := 1) rfl (fr ((1 : Int)) ((s : Int)) 0 0 0 0 0 0 0 0 0 []) rfl).mono ?_); rintro r wb1 ⟨rfl, h3, b3⟩)
  have HW := Lib.hid h3
  have HB := Lib.hid (HBd.out.trans b3)
  clear h3 b3 HWd HBd
  have p0 := (Rf.boxAt HW.out (pb := w.heap.size) (.tail _ (.head _))).1
  have p1 := (Rf.boxAt HW.out (pb := w.heap.size) (.tail _ (.head _))).2
  go_wp2_with fail
  refine wp_region_still_tail 4 (by kernel_rfl) (by kernel_rfl) ?_
  simp only [List.take_succ_cons, List.take_zero, List.drop_succ_cons, List.drop_zero]
  change wpStill _ _ (World.drew wb1) (fun a' => wpList _ _ _ _ a' (World.drew wb1)) _ _
  have s0 : (World.drew wb1).cell? ⟨w.heap.size, 0, none⟩ = some (.pointer none) := p0
  have s1 : (World.drew wb1).cell? ⟨w.heap.size, 1, none⟩ = some (.pointer (some ⟨g, 0, none⟩)) := p1
  have HWd := Lib.hid (Rf.drew HW.out)
  have HBd := Lib.hid (below_drew' HB.out)
  clear p0 p1 HW HB
  generalize World.drew wb1 = wa2 at s0 s1 HWd HBd ⊢
  repeat still_step
  refine wpStill_nil ?_
  clear s0 s1
  go_wp2_with fail
  ((with_reducible refine (target_e HWd.out hs L2.out H3.out rfl (fr ((1 : Int)) ((s : Int)) (t) 0 0 0 0 0 0 0 0 []) rfl).mono ?_); rintro r wb2 ⟨rfl, h3, b3⟩)
  have HW := Lib.hid h3
  have HB := Lib.hid (HBd.out.trans b3)
  clear h3 b3 HWd HBd
  have p0 := (Rf.boxAt HW.out (pb := w.heap.size) (.tail _ (.head _))).1
  have p1 := (Rf.boxAt HW.out (pb := w.heap.size) (.tail _ (.head _))).2
  go_wp2_with fail
  refine wp_region_still_tail 4 (by kernel_rfl) (by kernel_rfl) ?_
  simp only [List.take_succ_cons, List.take_zero, List.drop_succ_cons, List.drop_zero]
  change wpStill _ _ (World.drew wb2) (fun a' => wpList _ _ _ _ a' (World.drew wb2)) _ _
  have s0 : (World.drew wb2).cell? ⟨w.heap.size, 0, none⟩ = some (.pointer none) := p0
  have s1 : (World.drew wb2).cell? ⟨w.heap.size, 1, none⟩ = some (.pointer (some ⟨g, 0, none⟩)) := p1
  have HWd := Lib.hid (Rf.drew HW.out)
  have HBd := Lib.hid (below_drew' HB.out)
  clear p0 p1 HW HB
  generalize World.drew wb2 = wa3 at s0 s1 HWd HBd ⊢
  repeat still_step
  refine wpStill_nil ?_
  clear s0 s1
  go_wp2_with fail
  ((with_reducible refine (unsigned_e HWd.out hs L3.out 8 8 rfl (by omega) (by omega) H4.out (j := 3) rfl (fr ((1 : Int)) ((s : Int)) (t) ((a : Int)) 0 0 0 0 0 0 0 []) rfl).mono ?_); rintro r wb3 ⟨rfl, h3, b3⟩)
  have HW := Lib.hid h3
  have HB := Lib.hid (HBd.out.trans b3)
  clear h3 b3 HWd HBd
  have p0 := (Rf.boxAt HW.out (pb := w.heap.size) (.tail _ (.head _))).1
  have p1 := (Rf.boxAt HW.out (pb := w.heap.size) (.tail _ (.head _))).2
  go_wp2_with fail
  refine wp_region_still_tail 4 (by kernel_rfl) (by kernel_rfl) ?_
  simp only [List.take_succ_cons, List.take_zero, List.drop_succ_cons, List.drop_zero]
  change wpStill _ _ (World.drew wb3) (fun a' => wpList _ _ _ _ a' (World.drew wb3)) _ _
  have s0 : (World.drew wb3).cell? ⟨w.heap.size, 0, none⟩ = some (.pointer none) := p0
  have s1 : (World.drew wb3).cell? ⟨w.heap.size, 1, none⟩ = some (.pointer (some ⟨g, 0, none⟩)) := p1
  have HWd := Lib.hid (Rf.drew HW.out)
  have HBd := Lib.hid (below_drew' HB.out)
  clear p0 p1 HW HB
  generalize World.drew wb3 = wa4 at s0 s1 HWd HBd ⊢
  repeat still_step
  refine wpStill_nil ?_
  clear s0 s1
  go_wp2_with fail
  ((with_reducible refine (unsigned_e HWd.out hs L4.out 8 8 rfl (by omega) (by omega) H5.out (j := 4) rfl (fr ((1 : Int)) ((s : Int)) (t) ((a : Int)) ((q : Int)) 0 0 0 0 0 0 []) rfl).mono ?_); rintro r wb4 ⟨rfl, h3, b3⟩)
  have HW := Lib.hid h3
  have HB := Lib.hid (HBd.out.trans b3)
  clear h3 b3 HWd HBd
  have p0 := (Rf.boxAt HW.out (pb := w.heap.size) (.tail _ (.head _))).1
  have p1 := (Rf.boxAt HW.out (pb := w.heap.size) (.tail _ (.head _))).2
  have k0 : wb4.cell? ⟨gf, 0, none⟩ = some (.int .i64 (1 : Int)) := (Rf.cell HW.out rfl).1
  have hl := (HL.out wb4 (HW.out.1.guest (.tail _ (.head _)))).1
  go_wp2_with fail
  ((with_reducible refine (data_r HW.out hs L5.out H6.out H7.out H8.out).mono ?_); rintro r wz ⟨rfl, h3, b3⟩)
  have HWz := Lib.hid h3
  have HBz := Lib.hid (HB.out.trans b3)
  clear h3 b3 p0 p1 k0 hl HW HB
  go_wp2_with fail
  go_ret
  exact ⟨rfl, HWz.out.drop.drop, HBz.out⟩
set_option maxRecDepth 100000 in
set_option maxHeartbeats 8000000 in
theorem frame_ack (h : Rf B G w g l 0 0 gf (fr 0 0 0 0 0 0 0 0 0 0 0 [])) (hs : l.length ≤ 65536) {i1 : Nat} {e1 : Int} (h1 : rdf l 3 0 0 = (2, i1, e1)) {s i2 : Nat} {e2 : Int} (h2 : rdf l 5 i1 e1 = (s, i2, e2)) {t : Int} {i3 : Nat} {e3 : Int} (h3 : rdTg l i2 e2 = (t, i3, e3)) {a i4 : Nat} {e4 : Int} (h4 : rdf l 8 i3 e3 = (a, i4, e4)) {q i5 : Nat} {e5 : Int} (h5 : rdf l 8 i4 e4 = (q, i5, e5)) {x i6 : Nat} {er e6 : Int} (h6 : rdf l 16 i5 e5 = (x, i6, e6)) (h7 : rdS l i5 e5 = er) :
    Calls Try.prog 27 #[Pr g, .pointer (some ⟨gf, 0, none⟩)] w fun r w' => r = .returned (.bool true) ∧ Rf B G w' g l i6 e6 gf (fr ((2 : Int)) ((s : Int)) (t) ((a : Int)) ((q : Int)) 0 0 (er) 0 0 0 []) ∧ Below B w w' := by
  have L0 : Hid (0 ≤ 8 * l.length) := Lib.hid (by omega)
  have L1 := Lib.hid (le_of h1 L0.out)
  have H1 := Lib.hid h1
  have L2 := Lib.hid (le_of h2 L1.out)
  have H2 := Lib.hid h2
  have L3 := Lib.hid (leG_of h3 L2.out)
  have H3 := Lib.hid h3
  have L4 := Lib.hid (le_of h4 L3.out)
  have H4 := Lib.hid h4
  have L5 := Lib.hid (le_of h5 L4.out)
  have H5 := Lib.hid h5
  have H6 := Lib.hid h6
  have H7 := Lib.hid h7
  have hlt := h.1.lt
  have hltf := h.1.guest_lt (.head _)
  have hW0 := h.alloc (Br g)
  have hB0 := boxB h (Br g)
  obtain ⟨m1, m2, m3, m4, o, r1, r2, r3, r4, mb, ms, mo, m8, look⟩ := kinds_map (w.alloc (Br g))
  have es : (w.alloc (Br g)).heap.size = w.heap.size + 1 := by simp
  have HW := Lib.hid (Rf.addG (Rf.below hW0 mb) (mb := w.heap.size + 1) (by rw [← es]; exact mo) (by omega) (by omega))
  have HB := Lib.hid (hB0.trans (mb.mono (by rw [es]; have := h.1.1; omega)))
  rw [es] at r1 r2 r3 r4 look
  have HL := Lib.hid look
  have hmm := @run_makeMap Try.prog
  clear hlt hltf h hW0 hB0 mb ms mo m8 look es h1 h2 h3 h4 h5 h6 h7
  go_enter Try.func27, Try.ntmps27
  go_wp2_with fail
  clear r1 r2 r3 r4 hmm
  have p0 := (Rf.boxAt HW.out (pb := w.heap.size) (.tail _ (.head _))).1
  have p1 := (Rf.boxAt HW.out (pb := w.heap.size) (.tail _ (.head _))).2
  refine wp_region_still_tail 4 (by kernel_rfl) (by kernel_rfl) ?_
  simp only [List.take_succ_cons, List.take_zero, List.drop_succ_cons, List.drop_zero]
  change wpStill _ _ (World.drew m4) (fun a' => wpList _ _ _ _ a' (World.drew m4)) _ _
  have s0 : (World.drew m4).cell? ⟨w.heap.size, 0, none⟩ = some (.pointer none) := p0
  have s1 : (World.drew m4).cell? ⟨w.heap.size, 1, none⟩ = some (.pointer (some ⟨g, 0, none⟩)) := p1
  have HWd := Lib.hid (Rf.drew HW.out)
  have HBd := Lib.hid (below_drew' HB.out)
  clear p0 p1 HW HB
  generalize World.drew m4 = wa0 at s0 s1 HWd HBd ⊢
  repeat still_step
  refine wpStill_nil ?_
  clear s0 s1
  go_wp2_with fail
  ((with_reducible refine (unsigned_e HWd.out hs L0.out 3 3 rfl (by omega) (by omega) H1.out (j := 0) rfl (fr ((2 : Int)) 0 0 0 0 0 0 0 0 0 0 []) rfl).mono ?_); rintro r wb0 ⟨rfl, h3, b3⟩)
  have HW := Lib.hid h3
  have HB := Lib.hid (HBd.out.trans b3)
  clear h3 b3 HWd HBd
  have p0 := (Rf.boxAt HW.out (pb := w.heap.size) (.tail _ (.head _))).1
  have p1 := (Rf.boxAt HW.out (pb := w.heap.size) (.tail _ (.head _))).2
  go_wp2_with fail
  refine wp_region_still_tail 4 (by kernel_rfl) (by kernel_rfl) ?_
  simp only [List.take_succ_cons, List.take_zero, List.drop_succ_cons, List.drop_zero]
  change wpStill _ _ (World.drew wb0) (fun a' => wpList _ _ _ _ a' (World.drew wb0)) _ _
  have s0 : (World.drew wb0).cell? ⟨w.heap.size, 0, none⟩ = some (.pointer none) := p0
  have s1 : (World.drew wb0).cell? ⟨w.heap.size, 1, none⟩ = some (.pointer (some ⟨g, 0, none⟩)) := p1
  have HWd := Lib.hid (Rf.drew HW.out)
  have HBd := Lib.hid (below_drew' HB.out)
  clear p0 p1 HW HB
  generalize World.drew wb0 = wa1 at s0 s1 HWd HBd ⊢
  repeat still_step
  refine wpStill_nil ?_
  clear s0 s1
  go_wp2_with fail
  ((with_reducible refine (unsigned_e HWd.out hs L1.out 5 5 rfl (by omega) (by omega) H2.out (j := 1) rfl (fr ((2 : Int)) ((s : Int)) 0 0 0 0 0 0 0 0 0 []) rfl).mono ?_); rintro r wb1 ⟨rfl, h3, b3⟩)
  have HW := Lib.hid h3
  have HB := Lib.hid (HBd.out.trans b3)
  clear h3 b3 HWd HBd
  have p0 := (Rf.boxAt HW.out (pb := w.heap.size) (.tail _ (.head _))).1
  have p1 := (Rf.boxAt HW.out (pb := w.heap.size) (.tail _ (.head _))).2
  go_wp2_with fail
  refine wp_region_still_tail 4 (by kernel_rfl) (by kernel_rfl) ?_
  simp only [List.take_succ_cons, List.take_zero, List.drop_succ_cons, List.drop_zero]
  change wpStill _ _ (World.drew wb1) (fun a' => wpList _ _ _ _ a' (World.drew wb1)) _ _
  have s0 : (World.drew wb1).cell? ⟨w.heap.size, 0, none⟩ = some (.pointer none) := p0
  have s1 : (World.drew wb1).cell? ⟨w.heap.size, 1, none⟩ = some (.pointer (some ⟨g, 0, none⟩)) := p1
  have HWd := Lib.hid (Rf.drew HW.out)
  have HBd := Lib.hid (below_drew' HB.out)
  clear p0 p1 HW HB
  generalize World.drew wb1 = wa2 at s0 s1 HWd HBd ⊢
  repeat still_step
  refine wpStill_nil ?_
  clear s0 s1
  go_wp2_with fail
  ((with_reducible refine (target_e HWd.out hs L2.out H3.out rfl (fr ((2 : Int)) ((s : Int)) (t) 0 0 0 0 0 0 0 0 []) rfl).mono ?_); rintro r wb2 ⟨rfl, h3, b3⟩)
  have HW := Lib.hid h3
  have HB := Lib.hid (HBd.out.trans b3)
  clear h3 b3 HWd HBd
  have p0 := (Rf.boxAt HW.out (pb := w.heap.size) (.tail _ (.head _))).1
  have p1 := (Rf.boxAt HW.out (pb := w.heap.size) (.tail _ (.head _))).2
  go_wp2_with fail
  refine wp_region_still_tail 4 (by kernel_rfl) (by kernel_rfl) ?_
  simp only [List.take_succ_cons, List.take_zero, List.drop_succ_cons, List.drop_zero]
  change wpStill _ _ (World.drew wb2) (fun a' => wpList _ _ _ _ a' (World.drew wb2)) _ _
  have s0 : (World.drew wb2).cell? ⟨w.heap.size, 0, none⟩ = some (.pointer none) := p0
  have s1 : (World.drew wb2).cell? ⟨w.heap.size, 1, none⟩ = some (.pointer (some ⟨g, 0, none⟩)) := p1
  have HWd := Lib.hid (Rf.drew HW.out)
  have HBd := Lib.hid (below_drew' HB.out)
  clear p0 p1 HW HB
  generalize World.drew wb2 = wa3 at s0 s1 HWd HBd ⊢
  repeat still_step
  refine wpStill_nil ?_
  clear s0 s1
  go_wp2_with fail
  ((with_reducible refine (unsigned_e HWd.out hs L3.out 8 8 rfl (by omega) (by omega) H4.out (j := 3) rfl (fr ((2 : Int)) ((s : Int)) (t) ((a : Int)) 0 0 0 0 0 0 0 []) rfl).mono ?_); rintro r wb3 ⟨rfl, h3, b3⟩)
  have HW := Lib.hid h3
  have HB := Lib.hid (HBd.out.trans b3)
  clear h3 b3 HWd HBd
  have p0 := (Rf.boxAt HW.out (pb := w.heap.size) (.tail _ (.head _))).1
  have p1 := (Rf.boxAt HW.out (pb := w.heap.size) (.tail _ (.head _))).2
  go_wp2_with fail
  refine wp_region_still_tail 4 (by kernel_rfl) (by kernel_rfl) ?_
  simp only [List.take_succ_cons, List.take_zero, List.drop_succ_cons, List.drop_zero]
  change wpStill _ _ (World.drew wb3) (fun a' => wpList _ _ _ _ a' (World.drew wb3)) _ _
  have s0 : (World.drew wb3).cell? ⟨w.heap.size, 0, none⟩ = some (.pointer none) := p0
  have s1 : (World.drew wb3).cell? ⟨w.heap.size, 1, none⟩ = some (.pointer (some ⟨g, 0, none⟩)) := p1
  have HWd := Lib.hid (Rf.drew HW.out)
  have HBd := Lib.hid (below_drew' HB.out)
  clear p0 p1 HW HB
  generalize World.drew wb3 = wa4 at s0 s1 HWd HBd ⊢
  repeat still_step
  refine wpStill_nil ?_
  clear s0 s1
  go_wp2_with fail
  ((with_reducible refine (unsigned_e HWd.out hs L4.out 8 8 rfl (by omega) (by omega) H5.out (j := 4) rfl (fr ((2 : Int)) ((s : Int)) (t) ((a : Int)) ((q : Int)) 0 0 0 0 0 0 []) rfl).mono ?_); rintro r wb4 ⟨rfl, h3, b3⟩)
  have HW := Lib.hid h3
  have HB := Lib.hid (HBd.out.trans b3)
  clear h3 b3 HWd HBd
  have p0 := (Rf.boxAt HW.out (pb := w.heap.size) (.tail _ (.head _))).1
  have p1 := (Rf.boxAt HW.out (pb := w.heap.size) (.tail _ (.head _))).2
  have k0 : wb4.cell? ⟨gf, 0, none⟩ = some (.int .i64 (2 : Int)) := (Rf.cell HW.out rfl).1
  have hl := (HL.out wb4 (HW.out.1.guest (.tail _ (.head _)))).2.1
  go_wp2_with fail
  ((with_reducible refine (ack_e HW.out hs L5.out H7.out H6.out rfl (fr ((2 : Int)) ((s : Int)) (t) ((a : Int)) ((q : Int)) 0 0 (er) 0 0 0 []) rfl).mono ?_); rintro r wz ⟨rfl, h3, b3⟩)
  have HWz := Lib.hid h3
  have HBz := Lib.hid (HB.out.trans b3)
  clear h3 b3 p0 p1 k0 hl HW HB
  go_wp2_with fail
  go_ret
  exact ⟨rfl, HWz.out.drop.drop, HBz.out⟩
set_option maxRecDepth 100000 in
set_option maxHeartbeats 8000000 in
theorem frame_beacon (h : Rf B G w g l 0 0 gf (fr 0 0 0 0 0 0 0 0 0 0 0 [])) (hs : l.length ≤ 65536) {i1 : Nat} {e1 : Int} (h1 : rdf l 3 0 0 = (3, i1, e1)) {s i2 : Nat} {e2 : Int} (h2 : rdf l 5 i1 e1 = (s, i2, e2)) {t : Int} {i3 : Nat} {e3 : Int} (h3 : rdTg l i2 e2 = (t, i3, e3)) {a i4 : Nat} {e4 : Int} (h4 : rdf l 8 i3 e3 = (a, i4, e4)) {q i5 : Nat} {e5 : Int} (h5 : rdf l 8 i4 e4 = (q, i5, e5)) {sl i6 : Nat} {e6 : Int} (h6 : rdf l 27 i5 e5 = (sl, i6, e6)) {rk i7 : Nat} {e7 : Int} (h7 : rdf l 16 i6 e6 = (rk, i7, e7)) {ep i8 : Nat} {e8 : Int} (h8 : rdf l 16 i7 e7 = (ep, i8, e8)) {d : List UInt8} {i9 : Nat} {e9 : Int} (h9 : rdText l i8 e8 = (d, i9, e9)) :
    Calls Try.prog 27 #[Pr g, .pointer (some ⟨gf, 0, none⟩)] w fun r w' => r = .returned (.bool true) ∧ Rf B G w' g l i9 e9 gf (fr ((3 : Int)) ((s : Int)) (t) ((a : Int)) ((q : Int)) 0 0 0 ((sl : Int)) ((rk : Int)) ((ep : Int)) (d)) ∧ Below B w w' := by
  have L0 : Hid (0 ≤ 8 * l.length) := Lib.hid (by omega)
  have L1 := Lib.hid (le_of h1 L0.out)
  have H1 := Lib.hid h1
  have L2 := Lib.hid (le_of h2 L1.out)
  have H2 := Lib.hid h2
  have L3 := Lib.hid (leG_of h3 L2.out)
  have H3 := Lib.hid h3
  have L4 := Lib.hid (le_of h4 L3.out)
  have H4 := Lib.hid h4
  have L5 := Lib.hid (le_of h5 L4.out)
  have H5 := Lib.hid h5
  have H6 := Lib.hid h6
  have H7 := Lib.hid h7
  have H8 := Lib.hid h8
  have H9 := Lib.hid h9
  have hlt := h.1.lt
  have hltf := h.1.guest_lt (.head _)
  have hW0 := h.alloc (Br g)
  have hB0 := boxB h (Br g)
  obtain ⟨m1, m2, m3, m4, o, r1, r2, r3, r4, mb, ms, mo, m8, look⟩ := kinds_map (w.alloc (Br g))
  have es : (w.alloc (Br g)).heap.size = w.heap.size + 1 := by simp
  have HW := Lib.hid (Rf.addG (Rf.below hW0 mb) (mb := w.heap.size + 1) (by rw [← es]; exact mo) (by omega) (by omega))
  have HB := Lib.hid (hB0.trans (mb.mono (by rw [es]; have := h.1.1; omega)))
  rw [es] at r1 r2 r3 r4 look
  have HL := Lib.hid look
  have hmm := @run_makeMap Try.prog
  clear hlt hltf h hW0 hB0 mb ms mo m8 look es h1 h2 h3 h4 h5 h6 h7 h8 h9
  go_enter Try.func27, Try.ntmps27
  go_wp2_with fail
  clear r1 r2 r3 r4 hmm
  have p0 := (Rf.boxAt HW.out (pb := w.heap.size) (.tail _ (.head _))).1
  have p1 := (Rf.boxAt HW.out (pb := w.heap.size) (.tail _ (.head _))).2
  refine wp_region_still_tail 4 (by kernel_rfl) (by kernel_rfl) ?_
  simp only [List.take_succ_cons, List.take_zero, List.drop_succ_cons, List.drop_zero]
  change wpStill _ _ (World.drew m4) (fun a' => wpList _ _ _ _ a' (World.drew m4)) _ _
  have s0 : (World.drew m4).cell? ⟨w.heap.size, 0, none⟩ = some (.pointer none) := p0
  have s1 : (World.drew m4).cell? ⟨w.heap.size, 1, none⟩ = some (.pointer (some ⟨g, 0, none⟩)) := p1
  have HWd := Lib.hid (Rf.drew HW.out)
  have HBd := Lib.hid (below_drew' HB.out)
  clear p0 p1 HW HB
  generalize World.drew m4 = wa0 at s0 s1 HWd HBd ⊢
  repeat still_step
  refine wpStill_nil ?_
  clear s0 s1
  go_wp2_with fail
  ((with_reducible refine (unsigned_e HWd.out hs L0.out 3 3 rfl (by omega) (by omega) H1.out (j := 0) rfl (fr ((3 : Int)) 0 0 0 0 0 0 0 0 0 0 []) rfl).mono ?_); rintro r wb0 ⟨rfl, h3, b3⟩)
  have HW := Lib.hid h3
  have HB := Lib.hid (HBd.out.trans b3)
  clear h3 b3 HWd HBd
  have p0 := (Rf.boxAt HW.out (pb := w.heap.size) (.tail _ (.head _))).1
  have p1 := (Rf.boxAt HW.out (pb := w.heap.size) (.tail _ (.head _))).2
  go_wp2_with fail
  refine wp_region_still_tail 4 (by kernel_rfl) (by kernel_rfl) ?_
  simp only [List.take_succ_cons, List.take_zero, List.drop_succ_cons, List.drop_zero]
  change wpStill _ _ (World.drew wb0) (fun a' => wpList _ _ _ _ a' (World.drew wb0)) _ _
  have s0 : (World.drew wb0).cell? ⟨w.heap.size, 0, none⟩ = some (.pointer none) := p0
  have s1 : (World.drew wb0).cell? ⟨w.heap.size, 1, none⟩ = some (.pointer (some ⟨g, 0, none⟩)) := p1
  have HWd := Lib.hid (Rf.drew HW.out)
  have HBd := Lib.hid (below_drew' HB.out)
  clear p0 p1 HW HB
  generalize World.drew wb0 = wa1 at s0 s1 HWd HBd ⊢
  repeat still_step
  refine wpStill_nil ?_
  clear s0 s1
  go_wp2_with fail
  ((with_reducible refine (unsigned_e HWd.out hs L1.out 5 5 rfl (by omega) (by omega) H2.out (j := 1) rfl (fr ((3 : Int)) ((s : Int)) 0 0 0 0 0 0 0 0 0 []) rfl).mono ?_); rintro r wb1 ⟨rfl, h3, b3⟩)
  have HW := Lib.hid h3
  have HB := Lib.hid (HBd.out.trans b3)
  clear h3 b3 HWd HBd
  have p0 := (Rf.boxAt HW.out (pb := w.heap.size) (.tail _ (.head _))).1
  have p1 := (Rf.boxAt HW.out (pb := w.heap.size) (.tail _ (.head _))).2
  go_wp2_with fail
  refine wp_region_still_tail 4 (by kernel_rfl) (by kernel_rfl) ?_
  simp only [List.take_succ_cons, List.take_zero, List.drop_succ_cons, List.drop_zero]
  change wpStill _ _ (World.drew wb1) (fun a' => wpList _ _ _ _ a' (World.drew wb1)) _ _
  have s0 : (World.drew wb1).cell? ⟨w.heap.size, 0, none⟩ = some (.pointer none) := p0
  have s1 : (World.drew wb1).cell? ⟨w.heap.size, 1, none⟩ = some (.pointer (some ⟨g, 0, none⟩)) := p1
  have HWd := Lib.hid (Rf.drew HW.out)
  have HBd := Lib.hid (below_drew' HB.out)
  clear p0 p1 HW HB
  generalize World.drew wb1 = wa2 at s0 s1 HWd HBd ⊢
  repeat still_step
  refine wpStill_nil ?_
  clear s0 s1
  go_wp2_with fail
  ((with_reducible refine (target_e HWd.out hs L2.out H3.out rfl (fr ((3 : Int)) ((s : Int)) (t) 0 0 0 0 0 0 0 0 []) rfl).mono ?_); rintro r wb2 ⟨rfl, h3, b3⟩)
  have HW := Lib.hid h3
  have HB := Lib.hid (HBd.out.trans b3)
  clear h3 b3 HWd HBd
  have p0 := (Rf.boxAt HW.out (pb := w.heap.size) (.tail _ (.head _))).1
  have p1 := (Rf.boxAt HW.out (pb := w.heap.size) (.tail _ (.head _))).2
  go_wp2_with fail
  refine wp_region_still_tail 4 (by kernel_rfl) (by kernel_rfl) ?_
  simp only [List.take_succ_cons, List.take_zero, List.drop_succ_cons, List.drop_zero]
  change wpStill _ _ (World.drew wb2) (fun a' => wpList _ _ _ _ a' (World.drew wb2)) _ _
  have s0 : (World.drew wb2).cell? ⟨w.heap.size, 0, none⟩ = some (.pointer none) := p0
  have s1 : (World.drew wb2).cell? ⟨w.heap.size, 1, none⟩ = some (.pointer (some ⟨g, 0, none⟩)) := p1
  have HWd := Lib.hid (Rf.drew HW.out)
  have HBd := Lib.hid (below_drew' HB.out)
  clear p0 p1 HW HB
  generalize World.drew wb2 = wa3 at s0 s1 HWd HBd ⊢
  repeat still_step
  refine wpStill_nil ?_
  clear s0 s1
  go_wp2_with fail
  ((with_reducible refine (unsigned_e HWd.out hs L3.out 8 8 rfl (by omega) (by omega) H4.out (j := 3) rfl (fr ((3 : Int)) ((s : Int)) (t) ((a : Int)) 0 0 0 0 0 0 0 []) rfl).mono ?_); rintro r wb3 ⟨rfl, h3, b3⟩)
  have HW := Lib.hid h3
  have HB := Lib.hid (HBd.out.trans b3)
  clear h3 b3 HWd HBd
  have p0 := (Rf.boxAt HW.out (pb := w.heap.size) (.tail _ (.head _))).1
  have p1 := (Rf.boxAt HW.out (pb := w.heap.size) (.tail _ (.head _))).2
  go_wp2_with fail
  refine wp_region_still_tail 4 (by kernel_rfl) (by kernel_rfl) ?_
  simp only [List.take_succ_cons, List.take_zero, List.drop_succ_cons, List.drop_zero]
  change wpStill _ _ (World.drew wb3) (fun a' => wpList _ _ _ _ a' (World.drew wb3)) _ _
  have s0 : (World.drew wb3).cell? ⟨w.heap.size, 0, none⟩ = some (.pointer none) := p0
  have s1 : (World.drew wb3).cell? ⟨w.heap.size, 1, none⟩ = some (.pointer (some ⟨g, 0, none⟩)) := p1
  have HWd := Lib.hid (Rf.drew HW.out)
  have HBd := Lib.hid (below_drew' HB.out)
  clear p0 p1 HW HB
  generalize World.drew wb3 = wa4 at s0 s1 HWd HBd ⊢
  repeat still_step
  refine wpStill_nil ?_
  clear s0 s1
  go_wp2_with fail
  ((with_reducible refine (unsigned_e HWd.out hs L4.out 8 8 rfl (by omega) (by omega) H5.out (j := 4) rfl (fr ((3 : Int)) ((s : Int)) (t) ((a : Int)) ((q : Int)) 0 0 0 0 0 0 []) rfl).mono ?_); rintro r wb4 ⟨rfl, h3, b3⟩)
  have HW := Lib.hid h3
  have HB := Lib.hid (HBd.out.trans b3)
  clear h3 b3 HWd HBd
  have p0 := (Rf.boxAt HW.out (pb := w.heap.size) (.tail _ (.head _))).1
  have p1 := (Rf.boxAt HW.out (pb := w.heap.size) (.tail _ (.head _))).2
  have k0 : wb4.cell? ⟨gf, 0, none⟩ = some (.int .i64 (3 : Int)) := (Rf.cell HW.out rfl).1
  have hl := (HL.out wb4 (HW.out.1.guest (.tail _ (.head _)))).2.2.1
  go_wp2_with fail
  ((with_reducible refine (beacon_r HW.out hs L5.out H6.out H7.out H8.out H9.out).mono ?_); rintro r wz ⟨rfl, h3, b3⟩)
  have HWz := Lib.hid h3
  have HBz := Lib.hid (HB.out.trans b3)
  clear h3 b3 p0 p1 k0 hl HW HB
  go_wp2_with fail
  go_ret
  exact ⟨rfl, HWz.out.drop.drop, HBz.out⟩
set_option maxRecDepth 100000 in
set_option maxHeartbeats 8000000 in
theorem frame_message (h : Rf B G w g l 0 0 gf (fr 0 0 0 0 0 0 0 0 0 0 0 [])) (hs : l.length ≤ 65536) {i1 : Nat} {e1 : Int} (h1 : rdf l 3 0 0 = (4, i1, e1)) {s i2 : Nat} {e2 : Int} (h2 : rdf l 5 i1 e1 = (s, i2, e2)) {t : Int} {i3 : Nat} {e3 : Int} (h3 : rdTg l i2 e2 = (t, i3, e3)) {a i4 : Nat} {e4 : Int} (h4 : rdf l 8 i3 e3 = (a, i4, e4)) {q i5 : Nat} {e5 : Int} (h5 : rdf l 8 i4 e4 = (q, i5, e5)) {d : List UInt8} {i6 : Nat} {e6 : Int} (h6 : rdText l i5 e5 = (d, i6, e6)) :
    Calls Try.prog 27 #[Pr g, .pointer (some ⟨gf, 0, none⟩)] w fun r w' => r = .returned (.bool true) ∧ Rf B G w' g l i6 e6 gf (fr ((4 : Int)) ((s : Int)) (t) ((a : Int)) ((q : Int)) 0 0 0 0 0 0 (d)) ∧ Below B w w' := by
  have L0 : Hid (0 ≤ 8 * l.length) := Lib.hid (by omega)
  have L1 := Lib.hid (le_of h1 L0.out)
  have H1 := Lib.hid h1
  have L2 := Lib.hid (le_of h2 L1.out)
  have H2 := Lib.hid h2
  have L3 := Lib.hid (leG_of h3 L2.out)
  have H3 := Lib.hid h3
  have L4 := Lib.hid (le_of h4 L3.out)
  have H4 := Lib.hid h4
  have L5 := Lib.hid (le_of h5 L4.out)
  have H5 := Lib.hid h5
  have H6 := Lib.hid h6
  have hlt := h.1.lt
  have hltf := h.1.guest_lt (.head _)
  have hW0 := h.alloc (Br g)
  have hB0 := boxB h (Br g)
  obtain ⟨m1, m2, m3, m4, o, r1, r2, r3, r4, mb, ms, mo, m8, look⟩ := kinds_map (w.alloc (Br g))
  have es : (w.alloc (Br g)).heap.size = w.heap.size + 1 := by simp
  have HW := Lib.hid (Rf.addG (Rf.below hW0 mb) (mb := w.heap.size + 1) (by rw [← es]; exact mo) (by omega) (by omega))
  have HB := Lib.hid (hB0.trans (mb.mono (by rw [es]; have := h.1.1; omega)))
  rw [es] at r1 r2 r3 r4 look
  have HL := Lib.hid look
  have hmm := @run_makeMap Try.prog
  clear hlt hltf h hW0 hB0 mb ms mo m8 look es h1 h2 h3 h4 h5 h6
  go_enter Try.func27, Try.ntmps27
  go_wp2_with fail
  clear r1 r2 r3 r4 hmm
  have p0 := (Rf.boxAt HW.out (pb := w.heap.size) (.tail _ (.head _))).1
  have p1 := (Rf.boxAt HW.out (pb := w.heap.size) (.tail _ (.head _))).2
  refine wp_region_still_tail 4 (by kernel_rfl) (by kernel_rfl) ?_
  simp only [List.take_succ_cons, List.take_zero, List.drop_succ_cons, List.drop_zero]
  change wpStill _ _ (World.drew m4) (fun a' => wpList _ _ _ _ a' (World.drew m4)) _ _
  have s0 : (World.drew m4).cell? ⟨w.heap.size, 0, none⟩ = some (.pointer none) := p0
  have s1 : (World.drew m4).cell? ⟨w.heap.size, 1, none⟩ = some (.pointer (some ⟨g, 0, none⟩)) := p1
  have HWd := Lib.hid (Rf.drew HW.out)
  have HBd := Lib.hid (below_drew' HB.out)
  clear p0 p1 HW HB
  generalize World.drew m4 = wa0 at s0 s1 HWd HBd ⊢
  repeat still_step
  refine wpStill_nil ?_
  clear s0 s1
  go_wp2_with fail
  ((with_reducible refine (unsigned_e HWd.out hs L0.out 3 3 rfl (by omega) (by omega) H1.out (j := 0) rfl (fr ((4 : Int)) 0 0 0 0 0 0 0 0 0 0 []) rfl).mono ?_); rintro r wb0 ⟨rfl, h3, b3⟩)
  have HW := Lib.hid h3
  have HB := Lib.hid (HBd.out.trans b3)
  clear h3 b3 HWd HBd
  have p0 := (Rf.boxAt HW.out (pb := w.heap.size) (.tail _ (.head _))).1
  have p1 := (Rf.boxAt HW.out (pb := w.heap.size) (.tail _ (.head _))).2
  go_wp2_with fail
  refine wp_region_still_tail 4 (by kernel_rfl) (by kernel_rfl) ?_
  simp only [List.take_succ_cons, List.take_zero, List.drop_succ_cons, List.drop_zero]
  change wpStill _ _ (World.drew wb0) (fun a' => wpList _ _ _ _ a' (World.drew wb0)) _ _
  have s0 : (World.drew wb0).cell? ⟨w.heap.size, 0, none⟩ = some (.pointer none) := p0
  have s1 : (World.drew wb0).cell? ⟨w.heap.size, 1, none⟩ = some (.pointer (some ⟨g, 0, none⟩)) := p1
  have HWd := Lib.hid (Rf.drew HW.out)
  have HBd := Lib.hid (below_drew' HB.out)
  clear p0 p1 HW HB
  generalize World.drew wb0 = wa1 at s0 s1 HWd HBd ⊢
  repeat still_step
  refine wpStill_nil ?_
  clear s0 s1
  go_wp2_with fail
  ((with_reducible refine (unsigned_e HWd.out hs L1.out 5 5 rfl (by omega) (by omega) H2.out (j := 1) rfl (fr ((4 : Int)) ((s : Int)) 0 0 0 0 0 0 0 0 0 []) rfl).mono ?_); rintro r wb1 ⟨rfl, h3, b3⟩)
  have HW := Lib.hid h3
  have HB := Lib.hid (HBd.out.trans b3)
  clear h3 b3 HWd HBd
  have p0 := (Rf.boxAt HW.out (pb := w.heap.size) (.tail _ (.head _))).1
  have p1 := (Rf.boxAt HW.out (pb := w.heap.size) (.tail _ (.head _))).2
  go_wp2_with fail
  refine wp_region_still_tail 4 (by kernel_rfl) (by kernel_rfl) ?_
  simp only [List.take_succ_cons, List.take_zero, List.drop_succ_cons, List.drop_zero]
  change wpStill _ _ (World.drew wb1) (fun a' => wpList _ _ _ _ a' (World.drew wb1)) _ _
  have s0 : (World.drew wb1).cell? ⟨w.heap.size, 0, none⟩ = some (.pointer none) := p0
  have s1 : (World.drew wb1).cell? ⟨w.heap.size, 1, none⟩ = some (.pointer (some ⟨g, 0, none⟩)) := p1
  have HWd := Lib.hid (Rf.drew HW.out)
  have HBd := Lib.hid (below_drew' HB.out)
  clear p0 p1 HW HB
  generalize World.drew wb1 = wa2 at s0 s1 HWd HBd ⊢
  repeat still_step
  refine wpStill_nil ?_
  clear s0 s1
  go_wp2_with fail
  ((with_reducible refine (target_e HWd.out hs L2.out H3.out rfl (fr ((4 : Int)) ((s : Int)) (t) 0 0 0 0 0 0 0 0 []) rfl).mono ?_); rintro r wb2 ⟨rfl, h3, b3⟩)
  have HW := Lib.hid h3
  have HB := Lib.hid (HBd.out.trans b3)
  clear h3 b3 HWd HBd
  have p0 := (Rf.boxAt HW.out (pb := w.heap.size) (.tail _ (.head _))).1
  have p1 := (Rf.boxAt HW.out (pb := w.heap.size) (.tail _ (.head _))).2
  go_wp2_with fail
  refine wp_region_still_tail 4 (by kernel_rfl) (by kernel_rfl) ?_
  simp only [List.take_succ_cons, List.take_zero, List.drop_succ_cons, List.drop_zero]
  change wpStill _ _ (World.drew wb2) (fun a' => wpList _ _ _ _ a' (World.drew wb2)) _ _
  have s0 : (World.drew wb2).cell? ⟨w.heap.size, 0, none⟩ = some (.pointer none) := p0
  have s1 : (World.drew wb2).cell? ⟨w.heap.size, 1, none⟩ = some (.pointer (some ⟨g, 0, none⟩)) := p1
  have HWd := Lib.hid (Rf.drew HW.out)
  have HBd := Lib.hid (below_drew' HB.out)
  clear p0 p1 HW HB
  generalize World.drew wb2 = wa3 at s0 s1 HWd HBd ⊢
  repeat still_step
  refine wpStill_nil ?_
  clear s0 s1
  go_wp2_with fail
  ((with_reducible refine (unsigned_e HWd.out hs L3.out 8 8 rfl (by omega) (by omega) H4.out (j := 3) rfl (fr ((4 : Int)) ((s : Int)) (t) ((a : Int)) 0 0 0 0 0 0 0 []) rfl).mono ?_); rintro r wb3 ⟨rfl, h3, b3⟩)
  have HW := Lib.hid h3
  have HB := Lib.hid (HBd.out.trans b3)
  clear h3 b3 HWd HBd
  have p0 := (Rf.boxAt HW.out (pb := w.heap.size) (.tail _ (.head _))).1
  have p1 := (Rf.boxAt HW.out (pb := w.heap.size) (.tail _ (.head _))).2
  go_wp2_with fail
  refine wp_region_still_tail 4 (by kernel_rfl) (by kernel_rfl) ?_
  simp only [List.take_succ_cons, List.take_zero, List.drop_succ_cons, List.drop_zero]
  change wpStill _ _ (World.drew wb3) (fun a' => wpList _ _ _ _ a' (World.drew wb3)) _ _
  have s0 : (World.drew wb3).cell? ⟨w.heap.size, 0, none⟩ = some (.pointer none) := p0
  have s1 : (World.drew wb3).cell? ⟨w.heap.size, 1, none⟩ = some (.pointer (some ⟨g, 0, none⟩)) := p1
  have HWd := Lib.hid (Rf.drew HW.out)
  have HBd := Lib.hid (below_drew' HB.out)
  clear p0 p1 HW HB
  generalize World.drew wb3 = wa4 at s0 s1 HWd HBd ⊢
  repeat still_step
  refine wpStill_nil ?_
  clear s0 s1
  go_wp2_with fail
  ((with_reducible refine (unsigned_e HWd.out hs L4.out 8 8 rfl (by omega) (by omega) H5.out (j := 4) rfl (fr ((4 : Int)) ((s : Int)) (t) ((a : Int)) ((q : Int)) 0 0 0 0 0 0 []) rfl).mono ?_); rintro r wb4 ⟨rfl, h3, b3⟩)
  have HW := Lib.hid h3
  have HB := Lib.hid (HBd.out.trans b3)
  clear h3 b3 HWd HBd
  have p0 := (Rf.boxAt HW.out (pb := w.heap.size) (.tail _ (.head _))).1
  have p1 := (Rf.boxAt HW.out (pb := w.heap.size) (.tail _ (.head _))).2
  have k0 : wb4.cell? ⟨gf, 0, none⟩ = some (.int .i64 (4 : Int)) := (Rf.cell HW.out rfl).1
  have hl := (HL.out wb4 (HW.out.1.guest (.tail _ (.head _)))).2.2.2.1
  go_wp2_with fail
  ((with_reducible refine (message_r HW.out hs L5.out H6.out).mono ?_); rintro r wz ⟨rfl, h3, b3⟩)
  have HWz := Lib.hid h3
  have HBz := Lib.hid (HB.out.trans b3)
  clear h3 b3 p0 p1 k0 hl HW HB
  go_wp2_with fail
  go_ret
  exact ⟨rfl, HWz.out.drop.drop, HBz.out⟩
set_option maxRecDepth 100000 in
set_option maxHeartbeats 8000000 in
theorem frame_none (h : Rf B G w g l 0 0 gf (fr 0 0 0 0 0 0 0 0 0 0 0 [])) (hs : l.length ≤ 65536) {k : Nat} (n1 : k ≠ 1) (n2 : k ≠ 2) (n3 : k ≠ 3) (n4 : k ≠ 4) {i1 : Nat} {e1 : Int} (h1 : rdf l 3 0 0 = (k, i1, e1)) {s i2 : Nat} {e2 : Int} (h2 : rdf l 5 i1 e1 = (s, i2, e2)) {t : Int} {i3 : Nat} {e3 : Int} (h3 : rdTg l i2 e2 = (t, i3, e3)) {a i4 : Nat} {e4 : Int} (h4 : rdf l 8 i3 e3 = (a, i4, e4)) {q i5 : Nat} {e5 : Int} (h5 : rdf l 8 i4 e4 = (q, i5, e5)) :
    Calls Try.prog 27 #[Pr g, .pointer (some ⟨gf, 0, none⟩)] w fun r w' => r = .returned (.bool false) ∧ Rf B G w' g l i5 e5 gf (fr ((k : Int)) ((s : Int)) (t) ((a : Int)) ((q : Int)) 0 0 0 0 0 0 []) ∧ Below B w w' := by
  have L0 : Hid (0 ≤ 8 * l.length) := Lib.hid (by omega)
  have L1 := Lib.hid (le_of h1 L0.out)
  have H1 := Lib.hid h1
  have L2 := Lib.hid (le_of h2 L1.out)
  have H2 := Lib.hid h2
  have L3 := Lib.hid (leG_of h3 L2.out)
  have H3 := Lib.hid h3
  have L4 := Lib.hid (le_of h4 L3.out)
  have H4 := Lib.hid h4
  have L5 := Lib.hid (le_of h5 L4.out)
  have H5 := Lib.hid h5
  have hk8 : k < 8 := by have := rdf_lt l 3 0 0; rw [h1] at this; exact this
  have hlt := h.1.lt
  have hltf := h.1.guest_lt (.head _)
  have hW0 := h.alloc (Br g)
  have hB0 := boxB h (Br g)
  obtain ⟨m1, m2, m3, m4, o, r1, r2, r3, r4, mb, ms, mo, m8, look⟩ := kinds_map (w.alloc (Br g))
  have es : (w.alloc (Br g)).heap.size = w.heap.size + 1 := by simp
  have HW := Lib.hid (Rf.addG (Rf.below hW0 mb) (mb := w.heap.size + 1) (by rw [← es]; exact mo) (by omega) (by omega))
  have HB := Lib.hid (hB0.trans (mb.mono (by rw [es]; have := h.1.1; omega)))
  rw [es] at r1 r2 r3 r4 look
  have HL := Lib.hid look
  have hmm := @run_makeMap Try.prog
  clear hlt hltf h hW0 hB0 mb ms mo m8 look es h1 h2 h3 h4 h5
  go_enter Try.func27, Try.ntmps27
  go_wp2_with fail
  clear r1 r2 r3 r4 hmm
  have p0 := (Rf.boxAt HW.out (pb := w.heap.size) (.tail _ (.head _))).1
  have p1 := (Rf.boxAt HW.out (pb := w.heap.size) (.tail _ (.head _))).2
  refine wp_region_still_tail 4 (by kernel_rfl) (by kernel_rfl) ?_
  simp only [List.take_succ_cons, List.take_zero, List.drop_succ_cons, List.drop_zero]
  change wpStill _ _ (World.drew m4) (fun a' => wpList _ _ _ _ a' (World.drew m4)) _ _
  have s0 : (World.drew m4).cell? ⟨w.heap.size, 0, none⟩ = some (.pointer none) := p0
  have s1 : (World.drew m4).cell? ⟨w.heap.size, 1, none⟩ = some (.pointer (some ⟨g, 0, none⟩)) := p1
  have HWd := Lib.hid (Rf.drew HW.out)
  have HBd := Lib.hid (below_drew' HB.out)
  clear p0 p1 HW HB
  generalize World.drew m4 = wa0 at s0 s1 HWd HBd ⊢
  repeat still_step
  refine wpStill_nil ?_
  clear s0 s1
  go_wp2_with fail
  ((with_reducible refine (unsigned_e HWd.out hs L0.out 3 3 rfl (by omega) (by omega) H1.out (j := 0) rfl (fr ((k : Int)) 0 0 0 0 0 0 0 0 0 0 []) rfl).mono ?_); rintro r wb0 ⟨rfl, h3, b3⟩)
  have HW := Lib.hid h3
  have HB := Lib.hid (HBd.out.trans b3)
  clear h3 b3 HWd HBd
  have p0 := (Rf.boxAt HW.out (pb := w.heap.size) (.tail _ (.head _))).1
  have p1 := (Rf.boxAt HW.out (pb := w.heap.size) (.tail _ (.head _))).2
  go_wp2_with fail
  refine wp_region_still_tail 4 (by kernel_rfl) (by kernel_rfl) ?_
  simp only [List.take_succ_cons, List.take_zero, List.drop_succ_cons, List.drop_zero]
  change wpStill _ _ (World.drew wb0) (fun a' => wpList _ _ _ _ a' (World.drew wb0)) _ _
  have s0 : (World.drew wb0).cell? ⟨w.heap.size, 0, none⟩ = some (.pointer none) := p0
  have s1 : (World.drew wb0).cell? ⟨w.heap.size, 1, none⟩ = some (.pointer (some ⟨g, 0, none⟩)) := p1
  have HWd := Lib.hid (Rf.drew HW.out)
  have HBd := Lib.hid (below_drew' HB.out)
  clear p0 p1 HW HB
  generalize World.drew wb0 = wa1 at s0 s1 HWd HBd ⊢
  repeat still_step
  refine wpStill_nil ?_
  clear s0 s1
  go_wp2_with fail
  ((with_reducible refine (unsigned_e HWd.out hs L1.out 5 5 rfl (by omega) (by omega) H2.out (j := 1) rfl (fr ((k : Int)) ((s : Int)) 0 0 0 0 0 0 0 0 0 []) rfl).mono ?_); rintro r wb1 ⟨rfl, h3, b3⟩)
  have HW := Lib.hid h3
  have HB := Lib.hid (HBd.out.trans b3)
  clear h3 b3 HWd HBd
  have p0 := (Rf.boxAt HW.out (pb := w.heap.size) (.tail _ (.head _))).1
  have p1 := (Rf.boxAt HW.out (pb := w.heap.size) (.tail _ (.head _))).2
  go_wp2_with fail
  refine wp_region_still_tail 4 (by kernel_rfl) (by kernel_rfl) ?_
  simp only [List.take_succ_cons, List.take_zero, List.drop_succ_cons, List.drop_zero]
  change wpStill _ _ (World.drew wb1) (fun a' => wpList _ _ _ _ a' (World.drew wb1)) _ _
  have s0 : (World.drew wb1).cell? ⟨w.heap.size, 0, none⟩ = some (.pointer none) := p0
  have s1 : (World.drew wb1).cell? ⟨w.heap.size, 1, none⟩ = some (.pointer (some ⟨g, 0, none⟩)) := p1
  have HWd := Lib.hid (Rf.drew HW.out)
  have HBd := Lib.hid (below_drew' HB.out)
  clear p0 p1 HW HB
  generalize World.drew wb1 = wa2 at s0 s1 HWd HBd ⊢
  repeat still_step
  refine wpStill_nil ?_
  clear s0 s1
  go_wp2_with fail
  ((with_reducible refine (target_e HWd.out hs L2.out H3.out rfl (fr ((k : Int)) ((s : Int)) (t) 0 0 0 0 0 0 0 0 []) rfl).mono ?_); rintro r wb2 ⟨rfl, h3, b3⟩)
  have HW := Lib.hid h3
  have HB := Lib.hid (HBd.out.trans b3)
  clear h3 b3 HWd HBd
  have p0 := (Rf.boxAt HW.out (pb := w.heap.size) (.tail _ (.head _))).1
  have p1 := (Rf.boxAt HW.out (pb := w.heap.size) (.tail _ (.head _))).2
  go_wp2_with fail
  refine wp_region_still_tail 4 (by kernel_rfl) (by kernel_rfl) ?_
  simp only [List.take_succ_cons, List.take_zero, List.drop_succ_cons, List.drop_zero]
  change wpStill _ _ (World.drew wb2) (fun a' => wpList _ _ _ _ a' (World.drew wb2)) _ _
  have s0 : (World.drew wb2).cell? ⟨w.heap.size, 0, none⟩ = some (.pointer none) := p0
  have s1 : (World.drew wb2).cell? ⟨w.heap.size, 1, none⟩ = some (.pointer (some ⟨g, 0, none⟩)) := p1
  have HWd := Lib.hid (Rf.drew HW.out)
  have HBd := Lib.hid (below_drew' HB.out)
  clear p0 p1 HW HB
  generalize World.drew wb2 = wa3 at s0 s1 HWd HBd ⊢
  repeat still_step
  refine wpStill_nil ?_
  clear s0 s1
  go_wp2_with fail
  ((with_reducible refine (unsigned_e HWd.out hs L3.out 8 8 rfl (by omega) (by omega) H4.out (j := 3) rfl (fr ((k : Int)) ((s : Int)) (t) ((a : Int)) 0 0 0 0 0 0 0 []) rfl).mono ?_); rintro r wb3 ⟨rfl, h3, b3⟩)
  have HW := Lib.hid h3
  have HB := Lib.hid (HBd.out.trans b3)
  clear h3 b3 HWd HBd
  have p0 := (Rf.boxAt HW.out (pb := w.heap.size) (.tail _ (.head _))).1
  have p1 := (Rf.boxAt HW.out (pb := w.heap.size) (.tail _ (.head _))).2
  go_wp2_with fail
  refine wp_region_still_tail 4 (by kernel_rfl) (by kernel_rfl) ?_
  simp only [List.take_succ_cons, List.take_zero, List.drop_succ_cons, List.drop_zero]
  change wpStill _ _ (World.drew wb3) (fun a' => wpList _ _ _ _ a' (World.drew wb3)) _ _
  have s0 : (World.drew wb3).cell? ⟨w.heap.size, 0, none⟩ = some (.pointer none) := p0
  have s1 : (World.drew wb3).cell? ⟨w.heap.size, 1, none⟩ = some (.pointer (some ⟨g, 0, none⟩)) := p1
  have HWd := Lib.hid (Rf.drew HW.out)
  have HBd := Lib.hid (below_drew' HB.out)
  clear p0 p1 HW HB
  generalize World.drew wb3 = wa4 at s0 s1 HWd HBd ⊢
  repeat still_step
  refine wpStill_nil ?_
  clear s0 s1
  go_wp2_with fail
  ((with_reducible refine (unsigned_e HWd.out hs L4.out 8 8 rfl (by omega) (by omega) H5.out (j := 4) rfl (fr ((k : Int)) ((s : Int)) (t) ((a : Int)) ((q : Int)) 0 0 0 0 0 0 []) rfl).mono ?_); rintro r wb4 ⟨rfl, h3, b3⟩)
  have HW := Lib.hid h3
  have HB := Lib.hid (HBd.out.trans b3)
  clear h3 b3 HWd HBd
  have p0 := (Rf.boxAt HW.out (pb := w.heap.size) (.tail _ (.head _))).1
  have p1 := (Rf.boxAt HW.out (pb := w.heap.size) (.tail _ (.head _))).2
  have k0 : wb4.cell? ⟨gf, 0, none⟩ = some (.int .i64 (k : Int)) := (Rf.cell HW.out rfl).1
  have hl := (HL.out wb4 (HW.out.1.guest (.tail _ (.head _)))).2.2.2.2 (k : Int) (by omega) (by omega) (by omega) (by omega) (by omega) (by omega)
  go_wp2_with fail
  go_ret
  exact ⟨rfl, HW.out.drop.drop, HB.out⟩
end Go.Proofs.Ytbgnkjaikbhdoaa.PenRd

-- Alg
namespace Go.Proofs.Ytbgnkjaikbhdoaa.Alg

/-- A residue times x. -/
def T (a : BitVec 16) : BitVec 16 := if a.msb then (a <<< 1) ^^^ 0x1021#16 else a <<< 1

/-- A residue times x^n. -/
def Tn : Nat → BitVec 16 → BitVec 16
  | 0, a => a
  | n + 1, a => T (Tn n a)

theorem T_xor (a b : BitVec 16) : T (a ^^^ b) = T a ^^^ T b := by
  unfold T
  rw [BitVec.msb_xor, BitVec.shiftLeft_xor_distrib]
  cases a.msb <;> cases b.msb <;> simp [BitVec.xor_assoc]
  · rw [BitVec.xor_comm (b <<< 1)]
  · rw [← BitVec.xor_assoc 4129#16, BitVec.xor_comm 4129#16, BitVec.xor_assoc (b <<< 1), BitVec.xor_self]; simp

theorem T_zero : T 0#16 = 0#16 := by decide
theorem Tn_zero (n : Nat) : Tn n 0#16 = 0#16 := by
  induction n with
  | zero => rfl
  | succ n ih => simp only [Tn, ih, T_zero]
theorem Tn_xor (n : Nat) (a b : BitVec 16) : Tn n (a ^^^ b) = Tn n a ^^^ Tn n b := by
  induction n with
  | zero => rfl
  | succ n ih => simp only [Tn, ih, T_xor]
theorem Tn_add (m n : Nat) (a : BitVec 16) : Tn (m + n) a = Tn m (Tn n a) := by
  induction m with
  | zero => simp [Tn]
  | succ m ih => rw [Nat.succ_add]; simp only [Tn, ih]
theorem Tn_T (n : Nat) (a : BitVec 16) : Tn n (T a) = T (Tn n a) := by
  rw [show T a = Tn 1 a from rfl, ← Tn_add]; rfl
theorem Tn_succ' (n : Nat) (a : BitVec 16) : Tn (n + 1) a = Tn n (T a) := by rw [Tn_T]; rfl
theorem Tn_comm (m n : Nat) (a : BitVec 16) : Tn m (Tn n a) = Tn n (Tn m a) := by
  rw [← Tn_add, ← Tn_add, Nat.add_comm]

/-- The sum of x^i a over the set bits i < n of b. -/
def S : Nat → BitVec 16 → BitVec 16 → BitVec 16
  | 0, _, _ => 0#16
  | n + 1, b, a => S n b a ^^^ (if b.getLsbD n then Tn n a else 0#16)

theorem xor4 (a b c d : BitVec 16) : (a ^^^ b) ^^^ (c ^^^ d) = (a ^^^ c) ^^^ (b ^^^ d) := by
  rw [BitVec.xor_assoc, BitVec.xor_assoc, ← BitVec.xor_assoc b, BitVec.xor_comm b c, BitVec.xor_assoc c]

theorem S_xor (n : Nat) (b a c : BitVec 16) : S n b (a ^^^ c) = S n b a ^^^ S n b c := by
  induction n with
  | zero => simp [S]
  | succ n ih => simp only [S, ih]; rw [xor4]; split <;> simp [Tn_xor]
theorem S_xor_left (n : Nat) (b c a : BitVec 16) : S n (b ^^^ c) a = S n b a ^^^ S n c a := by
  induction n with
  | zero => simp [S]
  | succ n ih =>
    simp only [S, ih]; rw [xor4]; congr 1
    rw [BitVec.getLsbD_xor]; cases b.getLsbD n <;> cases c.getLsbD n <;> simp
theorem S_zero (n : Nat) (b : BitVec 16) : S n b 0#16 = 0#16 := by
  induction n with
  | zero => rfl
  | succ n ih => simp [S, ih, Tn_zero]
theorem S_zero_left (n : Nat) (a : BitVec 16) : S n 0#16 a = 0#16 := by
  induction n with
  | zero => rfl
  | succ n ih => simp [S, ih]
theorem S_Tn (n k : Nat) (b a : BitVec 16) : S n b (Tn k a) = Tn k (S n b a) := by
  induction n with
  | zero => simp [S, Tn_zero]
  | succ n ih => simp only [S, ih, Tn_xor]; congr 1; split <;> simp [Tn_zero, Tn_comm]
theorem S_comm (m n : Nat) (b c a : BitVec 16) : S m b (S n c a) = S n c (S m b a) := by
  induction m with
  | zero => simp [S, S_zero]
  | succ m ih => simp only [S, ih, S_xor]; congr 1; split <;> simp [S_zero, S_Tn]

theorem pow_bit : ∀ n, n < 16 → Tn n 1#16 = BitVec.twoPow 16 n := by decide
theorem S_one_bits (n : Nat) (hn : n ≤ 16) (b : BitVec 16) (j : Nat) (hj : j < 16) : (S n b 1#16).getLsbD j = (decide (j < n) && b.getLsbD j) := by
  induction n with
  | zero => simp [S]
  | succ n ih =>
    simp only [S, BitVec.getLsbD_xor, ih (by omega)]
    rw [pow_bit n (by omega)]
    by_cases e : j = n
    · subst e
      cases h : b.getLsbD j <;> simp [hj]
    · have e' : ¬ n = j := fun h => e h.symm
      by_cases l : j < n
      · have l2 : j < n + 1 := by omega
        cases h : b.getLsbD n <;> simp [BitVec.getLsbD_twoPow, l, l2, e']
      · have l2 : ¬ j < n + 1 := by omega
        cases h : b.getLsbD n <;> simp [BitVec.getLsbD_twoPow, l, l2, e']
theorem S_one (b : BitVec 16) : S 16 b 1#16 = b := by
  apply BitVec.eq_of_getLsbD_eq
  intro j hj
  rw [S_one_bits 16 (Nat.le_refl _) b j hj]; simp [hj]

/-- The product of two residues. -/
def mul (a b : BitVec 16) : BitVec 16 := S 16 b a
theorem mul_comm (a b : BitVec 16) : mul a b = mul b a := by
  have h : S 16 b (S 16 a 1#16) = S 16 a (S 16 b 1#16) := S_comm _ _ _ _ _
  rw [S_one, S_one] at h; exact h
theorem mul_assoc (a b c : BitVec 16) : mul (mul a b) c = mul a (mul b c) := by
  rw [mul_comm a (mul b c)]; unfold mul
  have h1 : S 16 b a = S 16 b (S 16 a 1#16) := by rw [S_one]
  have h2 : S 16 c b = S 16 c (S 16 b 1#16) := by rw [S_one]
  rw [h1, h2, S_comm 16 16 b a, S_comm 16 16 c a]
theorem mul_xor (a b c : BitVec 16) : mul a (b ^^^ c) = mul a b ^^^ mul a c := S_xor_left _ _ _ _
theorem mul_one (a : BitVec 16) : mul a 1#16 = a := by rw [mul_comm]; exact S_one a
theorem one_mul (a : BitVec 16) : mul 1#16 a = a := S_one a
theorem mul_Tn (a b : BitVec 16) (n : Nat) : mul a (Tn n b) = Tn n (mul a b) := by
  rw [mul_comm, mul_comm a b]; exact S_Tn _ _ _ _
theorem Tn_mul (a b : BitVec 16) (n : Nat) : mul (Tn n a) b = Tn n (mul a b) := S_Tn _ _ _ _

/-- x^n. -/
def pow (n : Nat) : BitVec 16 := Tn n 1#16
theorem pow_mul (m n : Nat) : mul (pow m) (pow n) = pow (m + n) := by
  unfold pow; rw [mul_Tn, mul_one, Nat.add_comm, Tn_add]
theorem mul_pow (a : BitVec 16) (n : Nat) : mul a (pow n) = Tn n a := by unfold pow; rw [mul_Tn, mul_one]

/-- Horner's rule, from the highest bit on: k steps. -/
def horner (a b : BitVec 16) : Nat → BitVec 16
  | 0 => 0#16
  | k + 1 => if b.getLsbD (15 - k) then T (horner a b k) ^^^ a else T (horner a b k)
theorem horner_eq (a b : BitVec 16) (k : Nat) (hk : k ≤ 16) : Tn (16 - k) (horner a b k) ^^^ S (16 - k) b a = S 16 b a := by
  induction k with
  | zero => simp [horner, Tn_zero]
  | succ k ih =>
    rw [← ih (by omega)]
    have e : 16 - k = (16 - (k + 1)) + 1 := by omega
    have e2 : 15 - k = 16 - (k + 1) := by omega
    rw [e]; simp only [horner, S, Tn, e2]
    rw [← Tn_T]
    split
    · rw [Tn_xor, BitVec.xor_assoc, BitVec.xor_comm (Tn _ a)]
    · simp
theorem horner_mul (a b : BitVec 16) : horner a b 16 = mul a b := by
  have h := horner_eq a b 16 (Nat.le_refl _); simpa [S, Tn, mul] using h

/-! ### T has no kernel; the order of x -/
theorem T_eq_zero {a : BitVec 16} (h : T a = 0#16) : a = 0#16 := by
  unfold T at h
  apply BitVec.eq_of_getLsbD_eq
  intro j hj
  simp only [BitVec.getLsbD_zero]
  cases hm : a.msb with
  | true =>
    rw [hm, if_pos rfl] at h
    have := congrArg (fun x => x.getLsbD 0) h
    simp at this
  | false =>
    rw [hm] at h
    simp only [Bool.false_eq_true, if_false] at h
    by_cases e : j = 15
    · subst e; rw [BitVec.msb_eq_getLsbD_last] at hm; exact hm
    · have := congrArg (fun x => x.getLsbD (j + 1)) h
      simp only [BitVec.getLsbD_shiftLeft, BitVec.getLsbD_zero] at this
      have l1 : j + 1 < 16 := by omega
      have l2 : ¬ (j + 1 < 1) := by omega
      simpa [l1, l2] using this
theorem Tn_eq_zero {n : Nat} {a : BitVec 16} (h : Tn n a = 0#16) : a = 0#16 := by
  induction n with
  | zero => exact h
  | succ n ih => exact ih (T_eq_zero h)
theorem Tn_inj {n : Nat} {a b : BitVec 16} (h : Tn n a = Tn n b) : a = b := by
  have : Tn n (a ^^^ b) = 0#16 := by rw [Tn_xor, h, BitVec.xor_self]
  have := Tn_eq_zero this
  have e : a ^^^ b ^^^ b = 0#16 ^^^ b := by rw [this]
  simpa [BitVec.xor_assoc] using e
theorem pow_ne_zero (n : Nat) : pow n ≠ 0#16 := fun h => absurd (Tn_eq_zero h) (by decide)

/-- x^n by squarings: for reckoning alone. -/
def powF : Nat → Nat → BitVec 16
  | 0, _ => 1#16
  | f + 1, n => if n = 0 then 1#16 else let h := powF f (n / 2); let q := mul h h; if n % 2 = 1 then T q else q
theorem powF_eq (f n : Nat) (h : n < 2 ^ f) : powF f n = pow n := by
  induction f generalizing n with
  | zero => have : n = 0 := by simpa using h
            subst this; rfl
  | succ f ih =>
    unfold powF
    by_cases e : n = 0
    · subst e; rfl
    · rw [if_neg e]
      have h2 : n / 2 < 2 ^ f := by rw [Nat.pow_succ] at h; omega
      simp only [ih _ h2, pow_mul]
      split
      · have e2 : n = (n / 2 + n / 2) + 1 := by omega
        conv => rhs; rw [e2]
        rfl
      · have e2 : n = n / 2 + n / 2 := by omega
        conv => rhs; rw [e2]
theorem pow_32767 : pow 32767 = 1#16 := by rw [← powF_eq 15 32767 (by decide)]; decide +kernel
theorem pow_4681 : pow 4681 ≠ 1#16 := by rw [← powF_eq 15 4681 (by decide)]; decide +kernel
theorem pow_1057 : pow 1057 ≠ 1#16 := by rw [← powF_eq 15 1057 (by decide)]; decide +kernel
theorem pow_217 : pow 217 ≠ 1#16 := by rw [← powF_eq 15 217 (by decide)]; decide +kernel
theorem pow_add (m n : Nat) : pow (m + n) = Tn m (pow n) := Tn_add _ _ _
theorem pow_sub {a b : Nat} (ha : pow a = 1#16) (hb : pow (a + b) = 1#16) : pow b = 1#16 := by
  rw [Nat.add_comm, pow_add, ha] at hb; exact hb
theorem pow_times {g : Nat} (h : pow g = 1#16) (k : Nat) : pow (g * k) = 1#16 := by
  induction k with
  | zero => rfl
  | succ k ih => rw [Nat.mul_succ, Nat.add_comm, pow_add, ih]; exact h
theorem pow_mod {g n : Nat} (h : pow g = 1#16) : pow (n % g) = pow n := by
  conv => rhs; rw [← Nat.div_add_mod n g]
  rw [Nat.add_comm, pow_add, pow_times h]; rfl
theorem pow_gcd {a b : Nat} (ha : pow a = 1#16) (hb : pow b = 1#16) : pow (Nat.gcd a b) = 1#16 := by
  induction a, b using Nat.gcd.induction with
  | H0 n => simpa using hb
  | H1 m n hm ih =>
    rw [Nat.gcd_rec]
    exact ih (by rw [pow_mod ha]; exact hb) ha
theorem parts_of {g k : Nat} (h : g * k = 32767) (hg : g ≠ 32767) : (g ∣ 4681) ∨ (g ∣ 1057) ∨ (g ∣ 217) := by
  have hp : ∀ p, p ∣ 7 → p = 1 ∨ p = 7 := by intro p hp; have := Nat.le_of_dvd (by decide) hp; revert hp; revert p; decide
  have hp2 : ∀ p, p ∣ 31 → p = 1 ∨ p = 31 := by intro p hp; have := Nat.le_of_dvd (by decide) hp; revert hp; revert p; decide
  have hp3 : ∀ p, p ∣ 151 → p = 1 ∨ p = 151 := by
    intro p hp; have hle := Nat.le_of_dvd (by decide) hp
    have : ∀ q, q ≤ 151 → q ∣ 151 → q = 1 ∨ q = 151 := by decide +kernel
    exact this p hle hp
  rcases hp _ (Nat.gcd_dvd_right k 7) with h7 | h7
  · rcases hp2 _ (Nat.gcd_dvd_right k 31) with h31 | h31
    · rcases hp3 _ (Nat.gcd_dvd_right k 151) with h151 | h151
      · exfalso
        have d : k ∣ 7 * (31 * 151) := ⟨g, by rw [Nat.mul_comm k g]; exact h.symm⟩
        have d1 := Nat.Coprime.dvd_of_dvd_mul_left (show Nat.Coprime k 7 from h7) d
        have d2 := Nat.Coprime.dvd_of_dvd_mul_left (show Nat.Coprime k 31 from h31) d1
        have d3 : k ∣ Nat.gcd k 151 := Nat.dvd_gcd (Nat.dvd_refl _) d2
        rw [h151] at d3
        have : k = 1 := Nat.dvd_one.1 d3
        subst this; exact hg (by simpa using h)
      · have d : 151 ∣ k := by rw [← h151]; exact Nat.gcd_dvd_left _ _
        obtain ⟨m, rfl⟩ := d
        exact .inr (.inr ⟨m, by have : 151 * (g * m) = 151 * 217 := by rw [Nat.mul_left_comm, h]
                                exact (Nat.eq_of_mul_eq_mul_left (by decide) this).symm⟩)
    · have d : 31 ∣ k := by rw [← h31]; exact Nat.gcd_dvd_left _ _
      obtain ⟨m, rfl⟩ := d
      exact .inr (.inl ⟨m, by have : 31 * (g * m) = 31 * 1057 := by rw [Nat.mul_left_comm, h]
                              exact (Nat.eq_of_mul_eq_mul_left (by decide) this).symm⟩)
  · have d : 7 ∣ k := by rw [← h7]; exact Nat.gcd_dvd_left _ _
    obtain ⟨m, rfl⟩ := d
    exact .inl ⟨m, by have : 7 * (g * m) = 7 * 4681 := by rw [Nat.mul_left_comm, h]
                      exact (Nat.eq_of_mul_eq_mul_left (by decide) this).symm⟩
theorem pow_ne_one {d : Nat} (h0 : 0 < d) (h : d < 32767) : pow d ≠ 1#16 := by
  intro e
  have g1 := pow_gcd e pow_32767
  obtain ⟨k, hk⟩ := Nat.gcd_dvd_right d 32767
  have hlt : Nat.gcd d 32767 ≠ 32767 := by
    have := Nat.le_of_dvd h0 (Nat.gcd_dvd_left d 32767); omega
  rcases parts_of hk.symm hlt with ⟨m, hm⟩ | ⟨m, hm⟩ | ⟨m, hm⟩
  · exact pow_4681 (by rw [hm]; exact pow_times g1 m)
  · exact pow_1057 (by rw [hm]; exact pow_times g1 m)
  · exact pow_217 (by rw [hm]; exact pow_times g1 m)
theorem pow_inj {i j : Nat} (hi : i < 32767) (hj : j < 32767) (h : pow i = pow j) : i = j := by
  rcases Nat.lt_trichotomy i j with l | l | l
  · exfalso
    have e : j = i + (j - i) := by omega
    rw [e, pow_add] at h
    have : Tn i 1#16 = Tn i (pow (j - i)) := h
    exact pow_ne_one (d := j - i) (by omega) (by omega) (Tn_inj this).symm
  · exact l
  · exfalso
    have e : i = j + (i - j) := by omega
    rw [e, pow_add] at h
    have : Tn j (pow (i - j)) = Tn j 1#16 := h
    exact pow_ne_one (d := i - j) (by omega) (by omega) (Tn_inj this)

/-! ### parity: the generator has an even number of terms -/
def par : Nat → BitVec 16 → Bool
  | 0, _ => false
  | n + 1, a => par n a ^^ a.getLsbD n
theorem par_xor (n : Nat) (a b : BitVec 16) : par n (a ^^^ b) = (par n a ^^ par n b) := by
  induction n with
  | zero => rfl
  | succ n ih => simp only [par, ih, BitVec.getLsbD_xor]; cases par n a <;> cases par n b <;> cases a.getLsbD n <;> cases b.getLsbD n <;> rfl
theorem par_zero (n : Nat) : par n 0#16 = false := by induction n with
  | zero => rfl
  | succ n ih => simp [par, ih]
theorem par_shift (n : Nat) (hn : n < 16) (a : BitVec 16) : par (n + 1) (a <<< 1) = par n a := by
  induction n with
  | zero => simp [par]
  | succ n ih =>
    rw [par, ih (by omega)]
    simp only [par, BitVec.getLsbD_shiftLeft]
    have l : n + 1 < 16 := hn
    simp [l]
theorem par_T (a : BitVec 16) : par 16 (T a) = par 16 a := by
  have h : par 16 (a <<< 1) = par 15 a := par_shift 15 (by omega) a
  have h2 : par 16 a = (par 15 a ^^ a.msb) := by rw [BitVec.msb_eq_getLsbD_last]; rfl
  unfold T
  rw [h2]
  cases a.msb
  · simpa using h
  · rw [if_pos rfl, par_xor, h]; rfl
theorem par_Tn (n : Nat) (a : BitVec 16) : par 16 (Tn n a) = par 16 a := by
  induction n with
  | zero => rfl
  | succ n ih => rw [Tn, par_T, ih]
theorem par_pow (n : Nat) : par 16 (pow n) = true := by unfold pow; rw [par_Tn]; rfl

/-! ### strings of bytes -/
/-- A byte as a residue. -/
def b16 (c : UInt8) : BitVec 16 := BitVec.ofNat 16 c.toNat
/-- The remainder of a string's polynomial. -/
def rem (l : List UInt8) : BitVec 16 := l.foldl (fun s c => Tn 8 s ^^^ b16 c) 0#16
/-- The check sum of a string that follows one of the sum s. -/
def crcU (s : BitVec 16) (l : List UInt8) : BitVec 16 := l.foldl (fun s c => Tn 8 (s ^^^ (b16 c <<< 8))) s

/-- A residue below x^n, for n + m ≤ 16: m times x is a shift. -/
theorem Tn_small (m n : Nat) (hmn : m + n ≤ 16) (a : BitVec 16) (h : a.toNat < 2 ^ n) : Tn m a = a <<< m := by
  induction m generalizing n with
  | zero => simp [Tn]
  | succ m ih =>
    rw [Tn, ih n (by omega) h]
    have hm : (a <<< m).msb = false := by
      rw [BitVec.msb_eq_getLsbD_last, BitVec.getLsbD_shiftLeft]
      have : a.getLsbD (16 - 1 - m) = false := by
        exact Nat.testBit_lt_two_pow (Nat.lt_of_lt_of_le h (Nat.pow_le_pow_right (by decide) (by omega)))
      simp [this]
    unfold T
    rw [hm, ← BitVec.shiftLeft_add]
    simp
theorem b16_shift (c : UInt8) : b16 c <<< 8 = Tn 8 (b16 c) := by
  rw [Tn_small 8 8 (by omega)]
  have := c.toNat_lt
  simp [b16]; omega
theorem rem_append (l m : List UInt8) : rem (l ++ m) = m.foldl (fun s c => Tn 8 s ^^^ b16 c) (rem l) := by
  simp [rem]
theorem rem_snoc (l : List UInt8) (c : UInt8) : rem (l ++ [c]) = Tn 8 (rem l) ^^^ b16 c := by simp [rem]
theorem crcU_snoc (s : BitVec 16) (l : List UInt8) (c : UInt8) : crcU s (l ++ [c]) = Tn 8 (crcU s l ^^^ (b16 c <<< 8)) := by simp [crcU]
theorem crcU_append (s : BitVec 16) (l m : List UInt8) : crcU s (l ++ m) = crcU (crcU s l) m := by simp [crcU]
theorem snoc_ind {α : Type} {P : List α → Prop} (h0 : P []) (h1 : ∀ l a, P l → P (l ++ [a])) (l : List α) : P l := by
  rw [← List.reverse_reverse l]
  induction l.reverse with
  | nil => exact h0
  | cons a l ih => rw [List.reverse_cons]; exact h1 _ _ ih
theorem crcU_eq (s : BitVec 16) (l : List UInt8) : crcU s l = Tn (8 * l.length) s ^^^ Tn 16 (rem l) := by
  induction l using snoc_ind with
  | h0 => simp [crcU, rem, Tn_zero]; rfl
  | h1 l c ih =>
    rw [crcU_snoc, ih, rem_snoc, b16_shift, Tn_xor, Tn_xor, Tn_xor, ← Tn_add, ← Tn_add 8 16, ← Tn_add 8 8, ← Tn_add 16 8, List.length_append]
    rw [show 8 + 8 * l.length = 8 * (l.length + [c].length) by simp; omega, BitVec.xor_assoc]
/-- The check sum. -/
def crc (l : List UInt8) : BitVec 16 := crcU 0#16 l
theorem crc_rem (l : List UInt8) : crc l = Tn 16 (rem l) := by unfold crc; rw [crcU_eq, Tn_zero]; simp
/-- The two bytes of a sum. -/
def hi (s : BitVec 16) : UInt8 := UInt8.ofNat (s.toNat / 256)
def lo (s : BitVec 16) : UInt8 := UInt8.ofNat (s.toNat % 256)
theorem hilo (s : BitVec 16) : (b16 (hi s) <<< 8) ^^^ b16 (lo s) = s := by
  have hs := s.isLt
  have e : b16 (hi s) = s >>> 8 := by
    apply BitVec.eq_of_toNat_eq
    simp [b16, hi, BitVec.toNat_ushiftRight, Nat.shiftRight_eq_div_pow]
    omega
  have e2 : b16 (lo s) = s &&& 0xff#16 := by
    apply BitVec.eq_of_toNat_eq
    simp [b16, lo]
    rw [show 255 = 2 ^ 8 - 1 from rfl, Nat.and_two_pow_sub_one_eq_mod]; omega
  rw [e, e2]
  apply BitVec.eq_of_getLsbD_eq
  intro j hj
  have : ∀ j, j < 16 → (s >>> 8 <<< 8 ^^^ s &&& 0xff#16).getLsbD j = s.getLsbD j := by
    intro j hj
    simp only [BitVec.getLsbD_xor, BitVec.getLsbD_shiftLeft, BitVec.getLsbD_ushiftRight, BitVec.getLsbD_and]
    have hm : ∀ j, j < 16 → (0xff#16).getLsbD j = decide (j < 8) := by decide
    rw [hm j hj]
    by_cases l : j < 8
    · simp [l]
    · have e : 8 + (j - 8) = j := by omega
      simp [l, hj, e]
  exact this j hj
theorem lohi_of (a b : UInt8) : hi ((b16 a <<< 8) ^^^ b16 b) = a ∧ lo ((b16 a <<< 8) ^^^ b16 b) = b := by
  have ha := a.toNat_lt; have hb := b.toNat_lt
  have e : ((b16 a <<< 8) ^^^ b16 b).toNat = a.toNat * 256 + b.toNat := by
    simp only [b16, BitVec.toNat_xor, BitVec.toNat_shiftLeft, BitVec.toNat_ofNat]
    rw [Nat.mod_eq_of_lt (show a.toNat < 2 ^ 16 by omega), Nat.mod_eq_of_lt (show b.toNat < 2 ^ 16 by omega), Nat.shiftLeft_eq, Nat.mod_eq_of_lt (by omega)]
    have h := Nat.two_pow_add_eq_or_of_lt (i := 8) (b := b.toNat) (by omega) a.toNat
    rw [show a.toNat * 2 ^ 8 = 2 ^ 8 * a.toNat from Nat.mul_comm _ _]
    apply Nat.eq_of_testBit_eq
    intro i
    rw [show 2 ^ 8 * a.toNat + b.toNat = 2 ^ 8 * a.toNat ||| b.toNat from h, Nat.testBit_xor, Nat.testBit_or]
    by_cases l : i < 8
    · have hz : (2 ^ 8 * a.toNat).testBit i = false := by rw [Nat.testBit_two_pow_mul, decide_eq_false (by omega)]; rfl
      rw [hz]; simp
    · have : b.toNat.testBit i = false := Nat.testBit_lt_two_pow (Nat.lt_of_lt_of_le (show b.toNat < 2 ^ 8 by omega) (Nat.pow_le_pow_right (by decide) (by omega)))
      simp [this]
  constructor
  · unfold hi; rw [e]; rw [show (a.toNat * 256 + b.toNat) / 256 = a.toNat by omega]; simp
  · unfold lo; rw [e]; rw [show (a.toNat * 256 + b.toNat) % 256 = b.toNat by omega]; simp
/-- A string's syndrome is the remainder of its polynomial. -/
theorem syndrome_eq (l : List UInt8) (a b : UInt8) : crc l ^^^ ((b16 a <<< 8) ^^^ b16 b) = rem (l ++ [a, b]) := by
  rw [show l ++ [a, b] = (l ++ [a]) ++ [b] by simp, rem_snoc, rem_snoc, crc_rem, b16_shift, Tn_xor, ← Tn_add, BitVec.xor_assoc]
/-- The protected string. -/
def protect (l : List UInt8) : List UInt8 := l ++ [hi (crc l), lo (crc l)]
theorem rem_protect (l : List UInt8) : rem (protect l) = 0#16 := by
  unfold protect; rw [← syndrome_eq, hilo, BitVec.xor_self]
theorem protect_of {l : List UInt8} {a b : UInt8} (h : rem (l ++ [a, b]) = 0#16) : l ++ [a, b] = protect l := by
  rw [← syndrome_eq] at h
  have e : (b16 a <<< 8) ^^^ b16 b = crc l := by
    have : crc l ^^^ (crc l ^^^ ((b16 a <<< 8) ^^^ b16 b)) = crc l ^^^ 0#16 := by rw [h]
    rw [← BitVec.xor_assoc, BitVec.xor_self] at this; simpa using this
  unfold protect
  rw [← e, (lohi_of a b).1, (lohi_of a b).2]
theorem rem_zero_iff {l : List UInt8} {a b : UInt8} : rem (l ++ [a, b]) = 0#16 ↔ l ++ [a, b] = protect l :=
  ⟨protect_of, fun h => by rw [h]; exact rem_protect l⟩

/-! ### exclusive or of strings, and a turned bit -/
def xors (l m : List UInt8) : List UInt8 := List.zipWith (· ^^^ ·) l m
theorem b16_xor (a b : UInt8) : b16 (a ^^^ b) = b16 a ^^^ b16 b := by
  apply BitVec.eq_of_toNat_eq
  simp [b16]
theorem fold_xors (l m : List UInt8) (h : l.length = m.length) (s t : BitVec 16) :
    (xors l m).foldl (fun s c => Tn 8 s ^^^ b16 c) (s ^^^ t) = l.foldl (fun s c => Tn 8 s ^^^ b16 c) s ^^^ m.foldl (fun s c => Tn 8 s ^^^ b16 c) t := by
  induction l generalizing m s t with
  | nil => cases m with
    | nil => rfl
    | cons _ _ => simp at h
  | cons a l ih => cases m with
    | nil => simp at h
    | cons b m =>
      simp only [xors, List.zipWith_cons_cons, List.foldl_cons]
      rw [Tn_xor, b16_xor, xor4]
      exact ih m (by simpa using h) _ _
theorem rem_xors (l m : List UInt8) (h : l.length = m.length) : rem (xors l m) = rem l ^^^ rem m := by
  have := fold_xors l m h 0#16 0#16
  simpa [rem] using this
theorem xors_length (l m : List UInt8) (h : l.length = m.length) : (xors l m).length = l.length := by simp [xors, h]
theorem crc_xors (l m : List UInt8) (h : l.length = m.length) : crc (xors l m) = crc l ^^^ crc m := by
  rw [crc_rem, crc_rem, crc_rem, rem_xors l m h, Tn_xor]
/-- A string in which bit i, counted from the last one, is turned. -/
def flip (l : List UInt8) (i : Nat) : List UInt8 := l.set (l.length - 1 - i / 8) (l.getD (l.length - 1 - i / 8) 0 ^^^ (1 <<< UInt8.ofNat (i % 8)))
theorem flip_length (l : List UInt8) (i : Nat) : (flip l i).length = l.length := by simp [flip]
theorem b16_bit : ∀ k, k < 8 → b16 (1 <<< UInt8.ofNat k) = Tn k 1#16 := by decide
theorem rem_set (l : List UInt8) (j : Nat) (hj : j < l.length) (c : UInt8) : rem (l.set j (l.getD j 0 ^^^ c)) = rem l ^^^ Tn (8 * (l.length - 1 - j)) (b16 c) := by
  induction l using snoc_ind with
  | h0 => simp at hj
  | h1 l a ih =>
    simp only [List.length_append, List.length_singleton] at hj ⊢
    by_cases e : j = l.length
    · subst e
      have e1 : (l ++ [a]).getD l.length 0 = a := by simp
      rw [e1, List.set_append_right _ _ (Nat.le_refl _)]
      simp only [Nat.sub_self, List.set_cons_zero, rem_snoc, b16_xor]
      simp [Tn, BitVec.xor_assoc]
    · have hl : j < l.length := by omega
      have e1 : (l ++ [a]).getD j 0 = l.getD j 0 := by simp [List.getD_eq_getElem?_getD, List.getElem?_append_left hl]
      rw [e1, List.set_append_left _ _ hl, rem_snoc, ih hl, rem_snoc, Tn_xor, ← Tn_add]
      rw [show 8 + 8 * (l.length - 1 - j) = 8 * (l.length + 1 - 1 - j) by omega]
      rw [BitVec.xor_assoc, BitVec.xor_assoc, BitVec.xor_comm (b16 a)]
theorem rem_flip (l : List UInt8) (i : Nat) (hi : i < 8 * l.length) : rem (flip l i) = rem l ^^^ pow i := by
  unfold flip
  rw [rem_set l _ (by omega), b16_bit _ (by omega), ← Tn_add]
  rw [show 8 * (l.length - 1 - (l.length - 1 - i / 8)) + i % 8 = i by omega]; rfl
end Go.Proofs.Ytbgnkjaikbhdoaa.Alg

-- CrcA
namespace Go.Proofs.Ytbgnkjaikbhdoaa.CrcA
open Go.RowKit Go.Proofs.Ytbgnkjaikbhdoaa.Alg

/-- A residue as a value. -/
abbrev U (a : BitVec 16) : Value := .int .u16 (a.toNat : Int)

theorem shl1_int (a : BitVec 16) : IntKind.u16.wrap ((a.toNat : Int) * 2) = ((a <<< 1).toNat : Int) := by
  rw [IntKind.wrap_u16, BitVec.toNat_shiftLeft, Nat.shiftLeft_eq]; omega
theorem xor_int (a b : BitVec 16) : Go.bits .xor .u16 (a.toNat : Int) (b.toNat : Int) = ((a ^^^ b).toNat : Int) := by
  rw [u16_xor_nat _ _ a.isLt b.isLt, BitVec.toNat_xor]
theorem top_int (a : BitVec 16) : Go.bits .and .u16 (a.toNat : Int) 32768 = if a.msb then 32768 else 0 := by
  rw [show (32768 : Int) = ((32768 : Nat) : Int) from rfl, u16_and_nat _ _ a.isLt (by decide), show (32768 : Nat) = 2 ^ 15 from rfl, nat_bit, BitVec.msb_eq_decide]
  have := a.isLt
  by_cases h : 2 ^ (16 - 1) ≤ a.toNat
  · rw [decide_eq_true h, if_pos rfl, show a.toNat / 2 ^ 15 % 2 = 1 by omega]
  · rw [decide_eq_false h, if_neg (by decide), show a.toNat / 2 ^ 15 % 2 = 0 by omega]; rfl

/-- times: a residue times x. -/
theorem times_any (a : BitVec 16) (w : World) :
    Calls Try.prog 100 #[U a] w fun e w' => e = .returned (U (T a)) ∧ w = w' := by
  have ht := top_int a
  cases hm : a.msb with
  | true =>
    rw [hm, if_pos rfl] at ht
    have hr : Go.bits .xor .u16 (IntKind.u16.wrap ((a.toNat : Int) * 2)) 4129 = ((T a).toNat : Int) := by
      rw [shl1_int, show (4129 : Int) = ((4129#16).toNat : Int) from rfl, xor_int]; unfold T; rw [hm, if_pos rfl]
    have HR := Lib.hid hr
    clear hr
    have c0 : (Go.bits .and .u16 (a.toNat : Int) 32768 == 0) = false := by rw [ht]; rfl
    have c1 : (Go.bits .and .u16 (a.toNat : Int) 32768 != 0) = true := by rw [ht]; rfl
    clear ht
    go_enter Try.func100, Try.ntmps100
    go_wp2
    go_ret
    exact ⟨by rw [HR.out]; rfl, rfl⟩
  | false =>
    rw [hm] at ht
    simp only [Bool.false_eq_true, if_false] at ht
    have hr : IntKind.u16.wrap ((a.toNat : Int) * 2) = ((T a).toNat : Int) := by
      rw [shl1_int]; unfold T; rw [hm]; rfl
    have HR := Lib.hid hr
    clear hr
    have c0 : (Go.bits .and .u16 (a.toNat : Int) 32768 == 0) = true := by rw [ht]; rfl
    have c1 : (Go.bits .and .u16 (a.toNat : Int) 32768 != 0) = false := by rw [ht]; rfl
    clear ht
    go_enter Try.func100, Try.ntmps100
    go_wp2
    go_ret
    exact ⟨by rw [HR.out]; rfl, rfl⟩

/-- A row of the table. -/
def tab (k : Nat) : BitVec 16 := Tn 4 (BitVec.ofNat 16 k <<< 12)

theorem fill_head (k : Nat) (hk : k < 16) : (k : Int) * (4096 : Int) = ((Tn 0 (BitVec.ofNat 16 k <<< 12)).toNat : Int) := by
  rw [Tn, BitVec.toNat_shiftLeft, Nat.shiftLeft_eq, BitVec.toNat_ofNat, Nat.mod_eq_of_lt (show k < 2 ^ 16 by omega)]; omega

set_option maxHeartbeats 1000000 in
/-- The closure in remainders: it writes one row of the table. -/
theorem fill_any (k : Nat) (hk : k < 16) (b : Nat) (old : Value) (w : World) (hc : w.cell? ⟨b, k, none⟩ = some old) (hf : w.frozen? ⟨b, k, none⟩ = false) :
    Calls Try.prog 99 #[.int .i64 (k : Int), .pointer (some ⟨b, 0, none⟩)] w fun e w' => e = .returned (.tuple #[]) ∧ w' = w.setCell ⟨b, k, none⟩ (U (tab k)) := by
  have HH := Lib.hid (fill_head k hk)
  go_enter Try.func99, Try.ntmps99
  go_wp2
  go_loop [3, 7] (fun v i => ∃ j : Nat, j ≤ 4 ∧ i = .int .i64 j ∧ v = U (Tn j (BitVec.ofNat 16 k <<< 12))) (fun _ i => 4 - (intOf i).toNat)
  case atStart => exact ⟨0, by omega, rfl, by rw [HH.out]⟩
  case round =>
    obtain ⟨j, hj, rfl, rfl⟩ := hrel
    by_cases hlt : j < 4
    · go_wp2_with (go_at_call 100; refine (times_any _ _).mono ?_; rintro e w' ⟨rfl, rfl⟩)
      go_round
      case rel => exact ⟨j + 1, by omega, by go_num, rfl⟩
      case measure => simp [intOf]; omega
    · obtain rfl : j = 4 := by omega
      go_wp2
      go_end0
      exact ⟨rfl, rfl⟩

/-- The table as it stands behind k rounds. -/
def tabA (k : Nat) : Array Value := ((List.range 16).map fun i => if i < k then U (tab i) else U 0#16).toArray
theorem tabA_size (k : Nat) : (tabA k).size = 16 := by simp [tabA]
theorem tabA_get (k i : Nat) (hi : i < 16) : (tabA k)[i]? = some (if i < k then U (tab i) else U 0#16) := by
  simp [tabA, hi]
theorem tabA_set (k : Nat) (hk : k < 16) : (tabA k).setIfInBounds k (U (tab k)) = tabA (k + 1) := by
  apply Array.ext_getElem?
  intro i
  rw [Array.getElem?_setIfInBounds]
  by_cases e : k = i
  · subst e
    rw [if_pos rfl, tabA_size, if_pos hk, tabA_get _ _ hk, if_pos (by omega)]
  · rw [if_neg e]
    by_cases hi : i < 16
    · rw [tabA_get _ _ hi, tabA_get _ _ hi]
      by_cases l : i < k
      · rw [if_pos l, if_pos (by omega)]
      · rw [if_neg l, if_neg (by omega)]
    · rw [Array.getElem?_eq_none (by rw [tabA_size]; omega), Array.getElem?_eq_none (by rw [tabA_size]; omega)]
theorem tabA_one (k : Nat) : (tabA k).all (·.oneCell') = true := by
  rw [Array.all_eq_true_iff_forall_mem]
  intro x hx
  simp only [tabA, List.mem_toArray, List.mem_map] at hx
  obtain ⟨i, _, rfl⟩ := hx
  split <;> rfl
theorem tabA_same (j k : Nat) : (tabA j).size = (tabA k).size := by rw [tabA_size, tabA_size]
theorem tabA_zero : tabA 0 = #[U 0#16, U 0#16, U 0#16, U 0#16, U 0#16, U 0#16, U 0#16, U 0#16, U 0#16, U 0#16, U 0#16, U 0#16, U 0#16, U 0#16, U 0#16, U 0#16] := rfl

set_option maxHeartbeats 1000000 in
theorem remainders_any (w : World) :
    Calls Try.prog 92 #[] w fun e w' => e = .returned (.agg (tabA 16)) ∧ Below w.heap.size w w' := by
  have hmf : ∀ (fn : Fn) (first cap : Array Value) (w : World), (Instr.makeFunc fn first cap).run Try.prog w = .ok (.func fn first cap) w := fun _ _ _ _ => rfl
  go_enter Try.func92, Try.ntmps92
  go_wp2
  go_loopw [5] (fun i wr => ∃ k : Nat, k ≤ 16 ∧ i = .int .i64 k ∧ wr = (w.alloc (.cells (tabA 0) 115)).alloc (.cells (tabA k) 115)) (fun i _ => 16 - (intOf i).toNat)
  case atStart => exact ⟨0, by omega, rfl, rfl⟩
  case round =>
    obtain ⟨k, hk, rfl, hwr⟩ := hrel
    by_cases hlt : k < 16
    · have hc : wr.cell? ⟨w.heap.size + 1, k, none⟩ = some (U 0#16) := by
        rw [hwr, World.cell?_alloc_at _ _ _ _ (by simp), tabA_get _ _ hlt, if_neg (by omega)]
      have hf : wr.frozen? ⟨w.heap.size + 1, k, none⟩ = false := by
        rw [hwr, World.frozen?_alloc_at _ _ _ _ (by simp)]
      have hs : wr.setCell ⟨w.heap.size + 1, k, none⟩ (U (tab k)) = (w.alloc (.cells (tabA 0) 115)).alloc (.cells (tabA (k + 1)) 115) := by
        rw [hwr, World.setCell_alloc_at _ _ _ _ _ (by simp), tabA_set k hlt]
      have HS := Lib.hid hs
      clear hs hwr
      go_wp2_with (go_at_call 99; refine (fill_any k hlt (w.heap.size + 1) _ wr hc hf).mono ?_; rintro e w' ⟨rfl, rfl⟩)
      go_roundw
      case rel => exact ⟨k + 1, by omega, by go_num, HS.out⟩
      case measure => simp [intOf]; omega
    · obtain rfl : k = 16 := by omega
      subst hwr
      go_wp2_with (first | (refine wpList_load_row rfl 115 _ rfl (w.heap.size + 1) rfl 115 (tabA 16) (0, 0) _ (heap_alloc2_new _ _ _) Try.underlying115 rfl (by kernel_rfl) ?_) | (refine wpList_store_row rfl 115 _ _ rfl w.heap.size (tabA 16) rfl rfl 115 (tabA 0) (heap_alloc2_old _ _ _) (by kernel_rfl) (tabA_same _ _) (tabA_one _) ?_))
      refine bodyPost_ret (v := .agg (tabA 16)) (results_cell_row rfl _ _ w.heap.size 115 (tabA 16) (0, 0) _ rfl (setRow_heap _ _ _ _ _ _ (heap_alloc2_old _ _ _)) Try.underlying115 rfl (by kernel_rfl)) rfl ⟨rfl, ?_⟩
      exact below_setRow (((Below.refl _ _).alloc (Nat.le_refl _) _).alloc (by simp) _) (Nat.le_refl _) _

theorem cell_tab {w2 : World} {g : Nat} (h : w2.heap[g]? = some (.cells (tabA 16) 115 (0, 0))) (j : Nat) (hj : j < 16) : w2.cell? ⟨g, j, none⟩ = some (U (tab j)) := by
  rw [cell_of_row _ _ _ _ _ _ h, tabA_get _ _ hj, if_pos hj]

/-! ### the plain step of the table -/
theorem xor_sh (a b : Nat) (n : Nat) : (BitVec.ofNat 16 (a ^^^ b)) <<< n = (BitVec.ofNat 16 a <<< n) ^^^ (BitVec.ofNat 16 b <<< n) := by
  rw [← BitVec.shiftLeft_xor_distrib]; congr 1
  apply BitVec.eq_of_toNat_eq
  rw [BitVec.toNat_xor, BitVec.toNat_ofNat, BitVec.toNat_ofNat, BitVec.toNat_ofNat, Nat.xor_mod_two_pow]
theorem parts (x : BitVec 16) : (x &&& 0xfff#16) ^^^ (BitVec.ofNat 16 (x.toNat / 4096) <<< 12) = x := by
  have e : BitVec.ofNat 16 (x.toNat / 4096) = x >>> 12 := by
    have := x.isLt
    apply BitVec.eq_of_toNat_eq
    rw [BitVec.toNat_ofNat, BitVec.toNat_ushiftRight, Nat.shiftRight_eq_div_pow, Nat.mod_eq_of_lt (by omega)]
  rw [e]
  apply BitVec.eq_of_getLsbD_eq
  intro j hj
  have hm : ∀ j, j < 16 → (0xfff#16).getLsbD j = decide (j < 12) := by decide
  simp only [BitVec.getLsbD_xor, BitVec.getLsbD_and, BitVec.getLsbD_shiftLeft, BitVec.getLsbD_ushiftRight, hm j hj]
  by_cases l : j < 12
  · simp [l]
  · have e : 12 + (j - 12) = j := by omega
    simp [l, hj, e]
theorem low_shift (x : BitVec 16) : Tn 4 (x &&& 0xfff#16) = x <<< 4 := by
  rw [Tn_small 4 12 (by omega)]
  · apply BitVec.eq_of_getLsbD_eq
    intro j hj
    have hm : ∀ j, j < 16 → (0xfff#16).getLsbD j = decide (j < 12) := by decide
    simp only [BitVec.getLsbD_and, BitVec.getLsbD_shiftLeft, hm (j - 4) (by omega)]
    have : j - 4 < 12 := by omega
    simp [this]
  · rw [BitVec.toNat_and]
    exact Nat.lt_of_le_of_lt Nat.and_le_right (by decide)
theorem nib (x : BitVec 16) (h : Nat) : (x <<< 4) ^^^ tab (x.toNat / 4096 ^^^ h) = Tn 4 (x ^^^ (BitVec.ofNat 16 h <<< 12)) := by
  conv => rhs; rw [← parts x]
  rw [Tn_xor, Tn_xor, low_shift, tab, xor_sh, Tn_xor, BitVec.xor_assoc]
theorem small12 (l : Nat) (hl : l < 16) : Tn 4 (BitVec.ofNat 16 l <<< 8) = BitVec.ofNat 16 l <<< 12 := by
  revert l; decide
theorem byte_parts (c : UInt8) : (BitVec.ofNat 16 (c.toNat / 16) <<< 12) ^^^ (BitVec.ofNat 16 (c.toNat % 16) <<< 8) = b16 c <<< 8 := by
  have h : ∀ n, n < 256 → (BitVec.ofNat 16 (n / 16) <<< 12) ^^^ (BitVec.ofNat 16 (n % 16) <<< 8) = BitVec.ofNat 16 n <<< 8 := by decide +kernel
  exact h _ c.toNat_lt
theorem two_nibs (x : BitVec 16) (c : UInt8) : Tn 4 (Tn 4 (x ^^^ (BitVec.ofNat 16 (c.toNat / 16) <<< 12)) ^^^ (BitVec.ofNat 16 (c.toNat % 16) <<< 12)) = Tn 8 (x ^^^ (b16 c <<< 8)) := by
  rw [← small12 (c.toNat % 16) (by omega), ← Tn_xor, ← Tn_add, BitVec.xor_assoc, byte_parts]
theorem shl4_int (a : BitVec 16) : IntKind.u16.wrap ((a.toNat : Int) * 16) = ((a <<< 4).toNat : Int) := by
  rw [IntKind.wrap_u16, BitVec.toNat_shiftLeft, Nat.shiftLeft_eq]; omega
theorem idx_lt (x : BitVec 16) (h : Nat) (hh : h < 16) : x.toNat / 4096 ^^^ h < 16 := Nat.xor_lt_two_pow (n := 4) (by have := x.isLt; omega) (by omega)
theorem idx_int (x : BitVec 16) (h : Nat) (hh : h < 16) : Go.bits .xor .u16 ((x.toNat : Int) / 4096) (h : Int) = ((x.toNat / 4096 ^^^ h : Nat) : Int) := by
  have := x.isLt
  rw [show ((x.toNat : Int) / 4096) = ((x.toNat / 4096 : Nat) : Int) by omega, u16_xor_nat _ _ (by omega) (by omega)]
theorem hi_int (c : UInt8) : IntKind.u16.wrap ((c.toNat : Int) / 16) = ((c.toNat / 16 : Nat) : Int) := by
  have := c.toNat_lt; rw [IntKind.wrap_u16]; omega
theorem lo_int (c : UInt8) : IntKind.u16.wrap (Go.bits .and .u8 (c.toNat : Int) 15) = ((c.toNat % 16 : Nat) : Int) := by
  rw [show (15 : Int) = ((15 : Nat) : Int) from rfl, u8_and_nat _ _ c.toNat_lt (by decide), nat_mask4, IntKind.wrap_u16]
  have := c.toNat_lt; omega
theorem step_one (x : BitVec 16) (h : Nat) : Go.bits .xor .u16 (IntKind.u16.wrap ((x.toNat : Int) * 16)) ((tab (x.toNat / 4096 ^^^ h)).toNat : Int) = ((Tn 4 (x ^^^ (BitVec.ofNat 16 h <<< 12))).toNat : Int) := by
  rw [shl4_int, xor_int, nib]

theorem take_snoc (s : ByteArray) (k : Nat) (h : k < s.size) : s.data.toList.take (k + 1) = s.data.toList.take k ++ [s[k]] := by
  rw [List.take_succ_eq_append_getElem (by simpa using h)]; rfl

set_option maxHeartbeats 2000000 in
theorem update_any (s : BitVec 16) (d : ByteArray) (w : World) (hs : d.size ≤ 140737488351232) :
    Calls Try.prog 81 #[U s, .string d] w fun e w' => e = .returned (U (crcU s d.data.toList)) ∧ Below w.heap.size w w' := by
  go_enter Try.func81, Try.ntmps81
  go_wp2_with (first | (go_at_call 92; refine (remainders_any _).mono ?_; rintro e w1 ⟨rfl, hb⟩; have HT := Lib.hid (setRow_heap _ _ _ (tabA 16) _ _ (heap_alloc_new w1 (.cells (tabA 0) 115))); have HB := Lib.hid (below_setRow (hb.trans ((Below.refl w1.heap.size w1).alloc (Nat.le_refl _) (.cells (tabA 0) 115) |>.mono hb.size)) hb.size (tabA 16))) | (refine wpList_store_row rfl 115 _ _ rfl w1.heap.size (tabA 16) rfl rfl 115 (tabA 0) (heap_alloc_new _ _) (by kernel_rfl) (tabA_same _ _) (tabA_one _) ?_))
  go_loopw [0, 10] (fun v i wr => ∃ k : Nat, k ≤ d.size ∧ i = .int .i64 k ∧ v = U (crcU s (d.data.toList.take k)) ∧ Hid (wr.heap[w1.heap.size]? = some (.cells (tabA 16) 115 (0, 0))) ∧ Hid (Below w.heap.size w wr)) (fun _ i _ => d.size - (intOf i).toNat)
  case atStart => exact ⟨0, Nat.zero_le _, rfl, rfl, HT, HB⟩
  case round =>
    clear HT HB
    obtain ⟨k, hk, rfl, rfl, HT, HB⟩ := hrel
    by_cases hlt : k < d.size
    · have HN : Hid (crcU s (d.data.toList.take (k + 1)) = Tn 8 (crcU s (d.data.toList.take k) ^^^ (b16 d[k] <<< 8))) := Lib.hid (by rw [take_snoc d k hlt, crcU_snoc])
      generalize crcU s (d.data.toList.take k) = x at *
      have hc1 := cell_tab HT.out _ (idx_lt x (d[k].toNat / 16) (by have := d[k].toNat_lt; omega))
      have e1 := idx_int x (d[k].toNat / 16) (by have := d[k].toNat_lt; omega)
      rw [← hi_int] at e1
      have l1 := idx_lt x (d[k].toNat / 16) (by have := d[k].toNat_lt; omega)
      have m1 := step_one x (d[k].toNat / 16)
      have n2 := two_nibs x d[k]
      generalize x.toNat / 4096 ^^^ d[k].toNat / 16 = j1 at *
      generalize Tn 4 (x ^^^ (BitVec.ofNat 16 (d[k].toNat / 16) <<< 12)) = y at *
      have hc2 := cell_tab HT.out _ (idx_lt y (d[k].toNat % 16) (by omega))
      have e2 := idx_int y (d[k].toNat % 16) (by omega)
      rw [← lo_int] at e2
      have l2 := idx_lt y (d[k].toNat % 16) (by omega)
      have m2 := step_one y (d[k].toNat % 16)
      rw [n2, ← HN.out] at m2
      generalize y.toNat / 4096 ^^^ d[k].toNat % 16 = j2 at *
      clear n2
      go_wp2
      go_roundw
      case rel => exact ⟨k + 1, by omega, by go_num, rfl, HT, HB⟩
      case measure => simp [intOf]; omega
    · obtain rfl : k = d.size := by omega
      go_wp2
      go_ret
      exact ⟨by rw [List.take_of_length_le (by simp)]; rfl, HB.out⟩
end Go.Proofs.Ytbgnkjaikbhdoaa.CrcA

-- Q0
namespace Go.Proofs.Ytbgnkjaikbhdoaa.Q
open Go.RowKit Go.Proofs.YtbgnkjaikbhdoaaW.PrintWords Go.Proofs.YtbgnkjaikbhdoaaW.PrintLast Go.Proofs.YtbgnkjaikbhdoaaW.PrintMore
attribute [local go_sem] max2_int min2_int max_two min_two max_three min_three max_four min_four   -- for this text's walks alone
set_option linter.unusedVariables false
set_option linter.unusedSimpArgs false



def errW : Option Int → Value
  | none => .nilIface
  | some c => .iface 0 (.int .i64 c)
theorem errW_none : errW none = .nilIface := rfl
theorem errW_some (c : Int) : errW (some c) = .iface 0 (.int .i64 c) := rfl

theorem info5 : (Try.prog.info? 5).map (fun i => (i.zero, i.size, i.bytes)) = some (some (.int .u8 0), 1, 1) := by kernel_rfl
-- the values' own types

end Go.Proofs.Ytbgnkjaikbhdoaa.Q

-- Q1
namespace Go.Proofs.Ytbgnkjaikbhdoaa.Q
open Go.RowKit Go.Proofs.YtbgnkjaikbhdoaaW.PrintWords Go.Proofs.YtbgnkjaikbhdoaaW.PrintLast Go.Proofs.YtbgnkjaikbhdoaaW.PrintMore
attribute [local go_sem] max2_int min2_int max_two min_two max_three min_three max_four min_four   -- for this text's walks alone
set_option linter.unusedVariables false
set_option linter.unusedSimpArgs false

/-! ### crc_Update: function 81 -/
def crc_Update.f (a0 : Int) (a1 : ByteArray) : Option (Int) := if 0 ≤ a0 ∧ a0 < 65536 ∧ a1.size ≤ 140737488351232 then some ((Go.Proofs.Ytbgnkjaikbhdoaa.Alg.crcU (BitVec.ofNat 16 a0.toNat) a1.data.toList).toNat : Int) else none
theorem crc_Update.calls (a0 : Int) (a1 : ByteArray) (r : Int) (w : World) (h : crc_Update.f a0 a1 = some r) :
    Calls Try.prog 81 #[.int .u16 a0, .string a1] w fun e w' => e = .returned (.int .u16 r) ∧ Below w.heap.size w w' := by
  unfold crc_Update.f at h
  split at h
  · rename_i hc
    obtain rfl := Option.some.inj h
    have e : Value.int .u16 a0 = Go.Proofs.Ytbgnkjaikbhdoaa.CrcA.U (BitVec.ofNat 16 a0.toNat) := by
      unfold Go.Proofs.Ytbgnkjaikbhdoaa.CrcA.U
      rw [BitVec.toNat_ofNat, Nat.mod_eq_of_lt (by omega), Int.toNat_of_nonneg hc.1]
    rw [e]
    exact Go.Proofs.Ytbgnkjaikbhdoaa.CrcA.update_any _ _ _ hc.2.2
  · cases h

/-! ### crc_Sum: function 56 -/
def crc_Sum.f (a0 : ByteArray) : Option (Int) := (crc_Update.f 0 a0).bind fun t101 => (some t101)
set_option maxHeartbeats 8000000 in
set_option maxRecDepth 100000 in
theorem crc_Sum.calls (a0 : ByteArray) (r : Int) (w : World) (h : crc_Sum.f a0 = some r) :
    Calls Try.prog 56 #[.string a0] w fun e w' => e = .returned (.int .u16 r) ∧ Below w.heap.size w w' := by
  have HB := Aside0.mk (Below.refl w.heap.size w)
  have H : ((crc_Update.f 0 a0).bind fun t101 => (some t101)) = some r := h
  clear h
  replace H := Option.bind_eq_some_iff.mp H
  obtain ⟨t101, A20, H⟩ := H
  replace H : (some t101) = some r := H
  have A2 := Aside0.mk A20
  clear A20
  obtain rfl := Option.some.inj H
  go_enter Try.func56, Try.ntmps56
  go_wp2_with (first | ((with_reducible refine gate_callee (f := 81) rfl ?_); refine goesL_ (some 4) rfl rfl Try.func81 (by kernel_rfl) rfl #[.int .u16 0, .string a0] rfl (by (try simp only [List.map_toArray, List.map_cons, List.map_nil]); first | done | rfl | (simp only [List.length_drop, List.length_take]; rfl)) ?_; (with_reducible refine (crc_Update.calls 0 a0 t101 _ A2.out).mono ?_); rintro e w3 ⟨rfl, hb⟩; refine ⟨_, rfl, ?_⟩; have n0_ := Aside0.mk (below_step (by repeat (first | (with_reducible first | exact HB.out | apply below_alloc | apply pw_below_drewN | apply below_drew1) | exact HB.out)) hb); clear HB; have HB := n0_; clear n0_; (try clear hb); (try clear hb2); (try clear hk); (try clear hi)))
  go_ret
  exact ⟨by first | rfl | (simp [errW_none, errW_some] <;> rfl) | (simp [*, errW_none, errW_some] <;> rfl), by repeat (first | (with_reducible first | exact HB.out | apply below_alloc | apply pw_below_drewN | apply below_drew1) | exact HB.out)⟩

/-! ### crc_Protect: function 25 -/
def crc_Protect.f (a0 : ByteArray) : Option (ByteArray) := (crc_Sum.f a0).bind fun t102 => ((some (([(t102 / 256) % 256, (t102) % 256] : List Int) : List Int)).bind fun y103 => (if a0.size + (strOfNums y103).size ≤ 9223372036854775807 then (some (a0 ++ (strOfNums y103))) else (none)))
set_option maxHeartbeats 8000000 in
set_option maxRecDepth 100000 in
theorem crc_Protect.calls (a0 : ByteArray) (r : ByteArray) (w : World) (h : crc_Protect.f a0 = some r) :
    Calls Try.prog 25 #[.string a0] w fun e w' => e = .returned (.string r) ∧ Below w.heap.size w w' := by
  have HB := Aside0.mk (Below.refl w.heap.size w)
  have H : ((crc_Sum.f a0).bind fun t102 => ((some (([(t102 / 256) % 256, (t102) % 256] : List Int) : List Int)).bind fun y103 => (if a0.size + (strOfNums y103).size ≤ 9223372036854775807 then (some (a0 ++ (strOfNums y103))) else (none)))) = some r := h
  clear h
  replace H := Option.bind_eq_some_iff.mp H
  obtain ⟨t102, A20, H⟩ := H
  replace H : ((some (([(t102 / 256) % 256, (t102) % 256] : List Int) : List Int)).bind fun y103 => (if a0.size + (strOfNums y103).size ≤ 9223372036854775807 then (some (a0 ++ (strOfNums y103))) else (none))) = some r := H
  have A2 := Aside0.mk A20
  clear A20
  obtain ⟨y103, hy103⟩ : ∃ y_ : List Int, y_ = (([(t102 / 256) % 256, (t102) % 256] : List Int)) := ⟨_, rfl⟩
  replace H : (if a0.size + (strOfNums y103).size ≤ 9223372036854775807 then (some (a0 ++ (strOfNums y103))) else (none)) = some r := by first | (rw [hy103]; with_reducible exact H) | (have H2_ := (Option.bind_some _ _).symm.trans H; rw [hy103]; with_reducible exact H2_) | (have H2_ := (Option.bind_some _ _).symm.trans H; with_reducible exact H2_) | with_reducible exact H | (rw [hy103]; exact H) | exact H
  have Ny103 := Aside0.mk hy103
  clear hy103
  by_cases c3 : a0.size + (strOfNums y103).size ≤ 9223372036854775807
  · rw [if_pos c3] at H
    have c3b0 := eq_true c3
    have c3b1 : decide (a0.size + (strOfNums y103).size ≤ 9223372036854775807) = true := decide_eq_true c3
    try have c3b2 : (9223372036854775807 < a0.size + (strOfNums y103).size) = False := eq_false (Nat.not_lt.2 c3)
    obtain rfl := Option.some.inj H
    go_enter Try.func25, Try.ntmps25
    go_wp2_with (first | ((with_reducible refine gate_callee (f := 56) rfl ?_); refine goesL_ (some 5) rfl rfl Try.func56 (by kernel_rfl) rfl #[.string a0] rfl (by (try simp only [List.map_toArray, List.map_cons, List.map_nil]); first | done | rfl | (simp only [List.length_drop, List.length_take]; rfl)) ?_; (with_reducible refine (crc_Sum.calls a0 t102 _ A2.out).mono ?_); rintro e w4 ⟨rfl, hb⟩; refine ⟨_, rfl, ?_⟩; have n0_ := Aside0.mk (below_step (by repeat (first | (with_reducible first | exact HB.out | apply below_alloc | apply pw_below_drewN | apply below_drew1) | exact HB.out)) hb); clear HB; have HB := n0_; clear n0_; (try clear hb); (try clear hb2); (try clear hk); (try clear hi)) | ((with_reducible refine gate_dst (N := 12) rfl ?_); refine Kd.R_lit (Kd.int .u8) _ 5 ?hg (N := 12) ?hd (xs := ([(t102 / 256) % 256, (t102) % 256] : List Int)) (inner := [.int .u8 ((t102 / 256) % 256), .int .u8 ((t102) % 256)]) (ok := fun _ => True) (okp := fun _ => True) ?hr ?hp (fun _ hk => hk) trivial (Below.refl _ _) (Nat.le_refl _) (by simp) ?_; (case hd => rfl); (case hg => rfl); (case hr => first | (go_simp; done) | (go_simp; rfl)); (case hp => exact (Reps.one (show Kd.M (Kd.int .u8) _ _ _ ((t102 / 256) % 256) [.int .u8 ((t102 / 256) % 256)] from rfl) (Reps.one (show Kd.M (Kd.int .u8) _ _ _ ((t102) % 256) [.int .u8 ((t102) % 256)] from rfl) (Reps.none _ _)))); intro v104 w5 ho6 hb hg_ hnew_; clear hg_ hnew_; (first | rw [← Ny103.out] at ho6 | (simp only [Int.reduceToNat] at ho6; rw [← Ny103.out] at ho6)); have n0_ := Aside0.mk (Kd.R_lower ho6 (below_size (by repeat (first | (with_reducible first | exact HB.out | apply below_alloc | apply pw_below_drewN | apply below_drew1) | exact HB.out)))); have n1_ := Aside0.mk (below_step (by repeat (first | (with_reducible first | exact HB.out | apply below_alloc | apply pw_below_drewN | apply below_drew1) | exact HB.out)) hb); clear HB; have HO105 := n0_; have HB := n1_; clear n0_ n1_; clear hb ho6; have hcv7 := own_string (P := Try.prog) Try.underlying40 Try.underlying5 Try.underlying9 (Kd.own_of_R HO105.out)))
    go_ret
    exact ⟨by first | rfl | (simp [errW_none, errW_some] <;> rfl) | (simp [*, errW_none, errW_some] <;> rfl), by repeat (first | (with_reducible first | exact HB.out | apply below_alloc | apply pw_below_drewN | apply below_drew1) | exact HB.out)⟩
  · rw [if_neg c3] at H
    exact absurd H (by simp)

/-! ### crc_Syndrome: function 68 -/
def crc_Syndrome.f (a0 : ByteArray) : Option (Int × Int) := if (wrap64 ((a0.size : Int) - 2)) < 0 then (some (0, 9)) else (if 0 ≤ (wrap64 ((a0.size : Int) - 2)) then (if (wrap64 ((a0.size : Int) - 2)) ≤ (a0.size : Int) then ((crc_Sum.f (a0.extract 0 ((wrap64 ((a0.size : Int) - 2)) : Int).toNat)).bind fun t106 => (if (wrap64 ((a0.size : Int) - 2)) < (a0.size : Int) then (if 0 ≤ (wrap64 ((wrap64 ((a0.size : Int) - 2)) + 1)) then (if (wrap64 ((wrap64 ((a0.size : Int) - 2)) + 1)) < (a0.size : Int) then (some (Go.bits .xor .u16 t106 (Go.bits .or .u16 (IntKind.u16.wrap ((IntKind.u16.wrap (bt a0 (wrap64 ((a0.size : Int) - 2)))) * 256)) (IntKind.u16.wrap (bt a0 (wrap64 ((wrap64 ((a0.size : Int) - 2)) + 1))))), 0)) else (none)) else (none)) else (none))) else (none)) else (none))
def crc_Syndrome.T4 : Bool × List (List Nat × List Nat) := (true, [([], []), ([], []), ([0, 1], [0, 1]), ([2], [2]), ([], []), ([], []), ([4, 5], [4, 5]), ([6], [6]), ([7], [7]), ([], []), ([], []), ([10], [10]), ([9, 11], [9, 11]), ([12], [12]), ([8, 13], [8, 13]), ([3, 14], [3, 14]), ([15, 3, 0, 1, 2, 3, 4, 5, 6, 7, 8, 9, 10, 11, 12, 13, 14, 15], [15]), ([16, 0, 1, 2, 3, 4, 5, 6, 7, 8, 9, 10, 11, 12, 13, 14, 15, 16], [])])
def crc_Syndrome.B4 : List Nat := [0, 0, 3, 7, 0, 0, 48, 112, 240, 0, 0, 1024, 3584, 7680, 16368, 32767, 65535, 131071]
theorem crc_Syndrome.tab4 : rtab .any (opsOf Try.f68 4) = crc_Syndrome.T4 := by kernel_rfl
theorem crc_Syndrome.bits4 : waitsOk crc_Syndrome.T4.2 crc_Syndrome.B4 = true := by kernel_rfl
set_option maxHeartbeats 8000000 in
set_option maxRecDepth 100000 in
theorem crc_Syndrome.calls (a0 : ByteArray) (r1 : Int) (r2 : Int) (w : World) (h : crc_Syndrome.f a0 = some (r1, r2)) :
    Calls Try.prog 68 #[.string a0] w fun e w' => e = .returned (.tuple #[.int .u16 r1, .int .i64 r2]) ∧ Below w.heap.size w w' := by
  have HB := Aside0.mk (Below.refl w.heap.size w)
  have H : (if (wrap64 ((a0.size : Int) - 2)) < 0 then (some (0, 9)) else (if 0 ≤ (wrap64 ((a0.size : Int) - 2)) then (if (wrap64 ((a0.size : Int) - 2)) ≤ (a0.size : Int) then ((crc_Sum.f (a0.extract 0 ((wrap64 ((a0.size : Int) - 2)) : Int).toNat)).bind fun t106 => (if (wrap64 ((a0.size : Int) - 2)) < (a0.size : Int) then (if 0 ≤ (wrap64 ((wrap64 ((a0.size : Int) - 2)) + 1)) then (if (wrap64 ((wrap64 ((a0.size : Int) - 2)) + 1)) < (a0.size : Int) then (some (Go.bits .xor .u16 t106 (Go.bits .or .u16 (IntKind.u16.wrap ((IntKind.u16.wrap (bt a0 (wrap64 ((a0.size : Int) - 2)))) * 256)) (IntKind.u16.wrap (bt a0 (wrap64 ((wrap64 ((a0.size : Int) - 2)) + 1))))), 0)) else (none)) else (none)) else (none))) else (none)) else (none))) = some (r1, r2) := h
  clear h
  by_cases c2 : (wrap64 ((a0.size : Int) - 2)) < 0
  · rw [if_pos c2] at H
    have c2b0 : decide ((wrap64 ((a0.size : Int) - 2)) < 0) = true := decide_eq_true c2
    clear c2
    simp only [Option.some.injEq, Prod.mk.injEq] at H
    obtain ⟨rfl, rfl⟩ := H
    go_enter Try.func68, Try.ntmps68
    go_wp2
    go_ret2
    exact ⟨by first | rfl | (simp [errW_none, errW_some] <;> rfl) | (simp [*, errW_none, errW_some] <;> rfl), by repeat (first | (with_reducible first | exact HB.out | apply below_alloc | apply pw_below_drewN | apply below_drew1) | exact HB.out)⟩
  · rw [if_neg c2] at H
    have c2b0 : decide ((wrap64 ((a0.size : Int) - 2)) < 0) = false := decide_eq_false c2
    clear c2
    obtain ⟨ji3, hji3⟩ : ∃ j_ : Int, (wrap64 ((a0.size : Int) - 2)) = j_ := ⟨_, rfl⟩
    replace H : (if 0 ≤ (ji3) then (if (ji3) ≤ (a0.size : Int) then ((crc_Sum.f (a0.extract 0 ((ji3) : Int).toNat)).bind fun t106 => (if (ji3) < (a0.size : Int) then (if 0 ≤ (wrap64 ((ji3) + 1)) then (if (wrap64 ((ji3) + 1)) < (a0.size : Int) then (some (Go.bits .xor .u16 t106 (Go.bits .or .u16 (IntKind.u16.wrap ((IntKind.u16.wrap (bt a0 (ji3))) * 256)) (IntKind.u16.wrap (bt a0 (wrap64 ((ji3) + 1))))), 0)) else (none)) else (none)) else (none))) else (none)) else (none)) = some (r1, r2) := by first | (rw [hji3] at H; exact H) | (simp only [hji3] at H ⊢; exact H)
    (try rw [hji3] at c2b0)
    have hji3w : (IntKind.i64.wrap ((a0.size : Int) - 2)) = ji3 := (i64_w _).trans hji3
    by_cases c4 : 0 ≤ (ji3)
    · rw [if_pos c4] at H
      have c4b0 := eq_true c4
      have c4b1 : decide (0 ≤ (ji3)) = true := decide_eq_true c4
      clear c4
      by_cases c5 : (ji3) ≤ (a0.size : Int)
      · rw [if_pos c5] at H
        have c5b0 := eq_true c5
        have c5b1 : decide ((ji3) ≤ (a0.size : Int)) = true := decide_eq_true c5
        clear c5
        replace H := Option.bind_eq_some_iff.mp H
        obtain ⟨t106, A60, H⟩ := H
        replace H : (if (ji3) < (a0.size : Int) then (if 0 ≤ (wrap64 ((ji3) + 1)) then (if (wrap64 ((ji3) + 1)) < (a0.size : Int) then (some (Go.bits .xor .u16 t106 (Go.bits .or .u16 (IntKind.u16.wrap ((IntKind.u16.wrap (bt a0 (ji3))) * 256)) (IntKind.u16.wrap (bt a0 (wrap64 ((ji3) + 1))))), 0)) else (none)) else (none)) else (none)) = some (r1, r2) := H
        have A6 := Aside0.mk A60
        clear A60
        by_cases c7 : (ji3) < (a0.size : Int)
        · rw [if_pos c7] at H
          have c7b0 : decide ((ji3) < (a0.size : Int)) = true := decide_eq_true c7
          clear c7
          obtain ⟨ji9, hji9⟩ : ∃ j_ : Int, (wrap64 ((ji3) + 1)) = j_ := ⟨_, rfl⟩
          replace H : (if 0 ≤ (ji9) then (if (ji9) < (a0.size : Int) then (some (Go.bits .xor .u16 t106 (Go.bits .or .u16 (IntKind.u16.wrap ((IntKind.u16.wrap (bt a0 (ji3))) * 256)) (IntKind.u16.wrap (bt a0 (ji9)))), 0)) else (none)) else (none)) = some (r1, r2) := by first | (rw [hji9] at H; exact H) | (simp only [hji9] at H ⊢; exact H)
          (try rw [hji9] at A6)
          have hji9w : (IntKind.i64.wrap ((ji3) + 1)) = ji9 := (i64_w _).trans hji9
          by_cases c10 : 0 ≤ (ji9)
          · rw [if_pos c10] at H
            have c10b0 : decide (0 ≤ (ji9)) = true := decide_eq_true c10
            clear c10
            by_cases c11 : (ji9) < (a0.size : Int)
            · rw [if_pos c11] at H
              have c11b0 : decide ((ji9) < (a0.size : Int)) = true := decide_eq_true c11
              clear c11
              simp only [Option.some.injEq, Prod.mk.injEq] at H
              obtain ⟨rfl, rfl⟩ := H
              go_enter Try.func68, Try.ntmps68
              try go_wp2
              have n0_ := Aside0.mk (below_drew1 HB.out)
              clear HB
              have HB := n0_
              clear n0_
              have p8 : 0 ≤ ((ji3) : Int) := of_decide_eq_true (by first | (with_reducible assumption) | assumption)
              have q8 : (ji3) < (a0.size : Int) := of_decide_eq_true (by first | (with_reducible assumption) | assumption)
              have hx8 := bt_at a0 (ji3)
              replace p8 := eq_true p8
              replace q8 := eq_true q8
              have p12 : 0 ≤ ((ji9) : Int) := of_decide_eq_true (by first | (with_reducible assumption) | assumption)
              have q12 : (ji9) < (a0.size : Int) := of_decide_eq_true (by first | (with_reducible assumption) | assumption)
              have hx12 := bt_at a0 (ji9)
              replace p12 := eq_true p12
              replace q12 := eq_true q12
              refine start_ (n := 18) (S := fun w' => True) (ds := []) #[false, false, false, false, false, false, false, false, false, false, false, false, false, false, false, false, false, false] (by kernel_rfl) rfl rfl trivial (fun hHeld => ?_); refine with_tabW crc_Syndrome.tab4 crc_Syndrome.bits4 (fun HT_ HW_ => ?_)
              generalize w.drew = w13 at HB hHeld ⊢
              refine pure_ (i := 0) (N := some 10) (v := ?_) (a' := ?_) #[true, false, false, false, false, false, false, false, false, false, false, false, false, false, false, false, false, false] rfl rfl (any_of HT_.out (by kernel_rfl)) (fun _ _ _ h => h) (Or.inl ⟨by rfl, ?_⟩) ?_ ?_
              rotate_left
              · intro w'
                go_simp
                with_reducible rfl
              rotate_left
              · simp only [Act.put, List.setIfInBounds_toArray, List.set_cons_zero, List.set_cons_succ, i64_w, i32_w]
                rfl
              refine pure_ (i := 1) (N := some 11) (v := ?_) (a' := ?_) #[true, true, false, false, false, false, false, false, false, false, false, false, false, false, false, false, false, false] rfl rfl (any_of HT_.out (by kernel_rfl)) (fun _ _ _ h => h) (Or.inl ⟨by rfl, ?_⟩) ?_ ?_
              rotate_left
              · intro w'
                go_simp
                with_reducible rfl
              rotate_left
              · simp only [Act.put, List.setIfInBounds_toArray, List.set_cons_zero, List.set_cons_succ, i64_w, i32_w]
                rfl
              refine pure_ (i := 2) (N := some 12) (v := ?_) (a' := ?_) #[true, true, true, false, false, false, false, false, false, false, false, false, false, false, false, false, false, false] rfl rfl (any_of HT_.out (by kernel_rfl)) (fun _ _ _ h => h) (Or.inl ⟨by rfl, ?_⟩) ?_ ?_
              rotate_left
              · intro w'
                go_simp
                with_reducible rfl
              rotate_left
              · simp only [Act.put, List.setIfInBounds_toArray, List.set_cons_zero, List.set_cons_succ, i64_w, i32_w]
                rfl
              refine pure_ (i := 4) (N := some 14) (v := ?_) (a' := ?_) #[true, true, true, false, true, false, false, false, false, false, false, false, false, false, false, false, false, false] rfl rfl (any_of HT_.out (by kernel_rfl)) (fun _ _ _ h => h) (Or.inl ⟨by rfl, ?_⟩) ?_ ?_
              rotate_left
              · intro w'
                go_simp
                with_reducible rfl
              rotate_left
              · simp only [Act.put, List.setIfInBounds_toArray, List.set_cons_zero, List.set_cons_succ, i64_w, i32_w]
                rfl
              refine pure_ (i := 5) (N := some 15) (v := ?_) (a' := ?_) #[true, true, true, false, true, true, false, false, false, false, false, false, false, false, false, false, false, false] rfl rfl (any_of HT_.out (by kernel_rfl)) (fun _ _ _ h => h) (Or.inl ⟨by rfl, ?_⟩) ?_ ?_
              rotate_left
              · intro w'
                go_simp
                with_reducible rfl
              rotate_left
              · simp only [Act.put, List.setIfInBounds_toArray, List.set_cons_zero, List.set_cons_succ, i64_w, i32_w]
                rfl
              refine pure_ (i := 9) (N := some 19) (v := ?_) (a' := ?_) #[true, true, true, false, true, true, false, false, false, true, false, false, false, false, false, false, false, false] rfl rfl (any_of HT_.out (by kernel_rfl)) (fun _ _ _ h => h) (Or.inl ⟨by rfl, ?_⟩) ?_ ?_
              rotate_left
              · intro w'
                go_simp
                with_reducible rfl
              rotate_left
              · simp only [Act.put, List.setIfInBounds_toArray, List.set_cons_zero, List.set_cons_succ, i64_w, i32_w]
                rfl
              refine pure_ (i := 10) (N := some 20) (v := ?_) (a' := ?_) #[true, true, true, false, true, true, false, false, false, true, true, false, false, false, false, false, false, false] rfl rfl (any_of HT_.out (by kernel_rfl)) (fun _ _ _ h => h) (Or.inl ⟨by rfl, ?_⟩) ?_ ?_
              rotate_left
              · intro w'
                go_simp
                with_reducible rfl
              rotate_left
              · simp only [Act.put, List.setIfInBounds_toArray, List.set_cons_zero, List.set_cons_succ, i64_w, i32_w]
                rfl
              refine pure_ (i := 11) (N := some 21) (v := ?_) (a' := ?_) #[true, true, true, false, true, true, false, false, false, true, true, true, false, false, false, false, false, false] rfl rfl (any_of HT_.out (by kernel_rfl)) (fun _ _ _ h => h) (Or.inl ⟨by rfl, ?_⟩) ?_ ?_
              rotate_left
              · intro w'
                go_simp
                with_reducible rfl
              rotate_left
              · simp only [Act.put, List.setIfInBounds_toArray, List.set_cons_zero, List.set_cons_succ, i64_w, i32_w]
                rfl
              refine take_ (i := 6) (N := some 16) (v := ?_) (a' := ?_) #[true, true, true, false, true, true, true, false, false, true, true, true, false, false, false, false, false, false] rfl rfl (take_ofW HT_.out HW_.out (by kernel_rfl)) (fun _ _ _ h => h) (Or.inl ⟨by rfl, ?_⟩) hHeld ?_ ?_
              rotate_left
              · intro w' _
                go_simp
                with_reducible rfl
              rotate_left
              · simp only [Act.put, List.setIfInBounds_toArray, List.set_cons_zero, List.set_cons_succ, i64_w, i32_w]
                rfl
              refine pure_ (i := 7) (N := some 17) (v := ?_) (a' := ?_) #[true, true, true, false, true, true, true, true, false, true, true, true, false, false, false, false, false, false] rfl rfl (any_of HT_.out (by kernel_rfl)) (fun _ _ _ h => h) (Or.inl ⟨by rfl, ?_⟩) ?_ ?_
              rotate_left
              · intro w'
                go_simp
                with_reducible rfl
              rotate_left
              · simp only [Act.put, List.setIfInBounds_toArray, List.set_cons_zero, List.set_cons_succ, i64_w, i32_w]
                rfl
              refine pure_ (i := 8) (N := some 18) (v := ?_) (a' := ?_) #[true, true, true, false, true, true, true, true, true, true, true, true, false, false, false, false, false, false] rfl rfl (any_of HT_.out (by kernel_rfl)) (fun _ _ _ h => h) (Or.inl ⟨by rfl, ?_⟩) ?_ ?_
              rotate_left
              · intro w'
                go_simp
                with_reducible rfl
              rotate_left
              · simp only [Act.put, List.setIfInBounds_toArray, List.set_cons_zero, List.set_cons_succ, i64_w, i32_w]
                rfl
              refine take_ (i := 12) (N := some 22) (v := ?_) (a' := ?_) #[true, true, true, false, true, true, true, true, true, true, true, true, true, false, false, false, false, false] rfl rfl (take_ofW HT_.out HW_.out (by kernel_rfl)) (fun _ _ _ h => h) (Or.inl ⟨by rfl, ?_⟩) hHeld ?_ ?_
              rotate_left
              · intro w' _
                go_simp
                with_reducible rfl
              rotate_left
              · simp only [Act.put, List.setIfInBounds_toArray, List.set_cons_zero, List.set_cons_succ, i64_w, i32_w]
                rfl
              refine pure_ (i := 13) (N := some 23) (v := ?_) (a' := ?_) #[true, true, true, false, true, true, true, true, true, true, true, true, true, true, false, false, false, false] rfl rfl (any_of HT_.out (by kernel_rfl)) (fun _ _ _ h => h) (Or.inl ⟨by rfl, ?_⟩) ?_ ?_
              rotate_left
              · intro w'
                go_simp
                with_reducible rfl
              rotate_left
              · simp only [Act.put, List.setIfInBounds_toArray, List.set_cons_zero, List.set_cons_succ, i64_w, i32_w]
                rfl
              refine pure_ (i := 14) (N := some 24) (v := ?_) (a' := ?_) #[true, true, true, false, true, true, true, true, true, true, true, true, true, true, true, false, false, false] rfl rfl (any_of HT_.out (by kernel_rfl)) (fun _ _ _ h => h) (Or.inl ⟨by rfl, ?_⟩) ?_ ?_
              rotate_left
              · intro w'
                go_simp
                with_reducible rfl
              rotate_left
              · simp only [Act.put, List.setIfInBounds_toArray, List.set_cons_zero, List.set_cons_succ, i64_w, i32_w]
                rfl
              refine one_ (i := 3) (N := some 13) #[true, true, true, true, true, true, true, true, true, true, true, true, true, true, true, false, false, false] rfl rfl (one_of HT_.out (by kernel_rfl)) (by decide) (fun K hK => ?_)
              refine goes_ Try.func56 (by kernel_rfl) rfl #[.string (a0.extract 0 ((ji3) : Int).toNat)] (by rfl) rfl rfl (by (try simp only [List.map_toArray, List.map_cons, List.map_nil]); first | done | (simp only [hji3]; rfl) | rfl | (simp only [List.length_drop, List.length_take]; rfl)) ?_
              with_reducible refine (crc_Sum.calls (a0.extract 0 ((ji3) : Int).toNat) t106 _ A6.out).mono ?_
              rintro e w14 ⟨rfl, hb⟩
              refine ⟨_, rfl, ?_⟩
              have n0_ := Aside0.mk (below_step (by repeat (first | (with_reducible first | exact HB.out | apply below_alloc | apply pw_below_drewN | apply below_drew1) | exact HB.out)) hb)
              clear HB
              have HB := n0_
              clear n0_
              (try clear hb)
              (try clear hb2)
              (try clear hk)
              (try clear hi)
              refine hK.out _ _ trivial (fun hHeld => ?_)
              clear hK K
              refine norm_ (a' := ?_) ?_ ?_
              rotate_left
              · show Act.put _ (some 13) _ = _
                simp only [Act.put, List.setIfInBounds_toArray, List.set_cons_zero, List.set_cons_succ, i64_w, i32_w]
                rfl
              refine pure_ (i := 15) (N := some 25) (v := ?_) (a' := ?_) #[true, true, true, true, true, true, true, true, true, true, true, true, true, true, true, true, false, false] rfl rfl (any_of HT_.out (by kernel_rfl)) (fun _ _ _ h => h) (Or.inl ⟨by rfl, ?_⟩) ?_ ?_
              rotate_left
              · intro w'
                go_simp
                with_reducible rfl
              rotate_left
              · simp only [Act.put, List.setIfInBounds_toArray, List.set_cons_zero, List.set_cons_succ, i64_w, i32_w]
                rfl
              refine pure_ (i := 16) (N := some 2) (v := ?_) (a' := ?_) #[true, true, true, true, true, true, true, true, true, true, true, true, true, true, true, true, true, false] rfl rfl (any_of HT_.out (by kernel_rfl)) (fun _ _ _ h => h) (Or.inl ⟨by rfl, ?_⟩) ?_ ?_
              rotate_left
              · intro w'
                go_simp
                with_reducible rfl
              rotate_left
              · simp only [Act.put, List.setIfInBounds_toArray, List.set_cons_zero, List.set_cons_succ, i64_w, i32_w]
                rfl
              refine pure_ (i := 17) (N := some 3) (v := ?_) (a' := ?_) #[true, true, true, true, true, true, true, true, true, true, true, true, true, true, true, true, true, true] rfl rfl (any_of HT_.out (by kernel_rfl)) (fun _ _ _ h => h) (Or.inl ⟨by rfl, ?_⟩) ?_ ?_
              rotate_left
              · intro w'
                go_simp
                with_reducible rfl
              rotate_left
              · simp only [Act.put, List.setIfInBounds_toArray, List.set_cons_zero, List.set_cons_succ, i64_w, i32_w]
                rfl
              refine done_ (done_of HT_.out (by kernel_rfl)) ?_
              try go_wp2
              go_ret2
              exact ⟨by first | rfl | (simp [errW_none, errW_some] <;> rfl) | (simp only [← hji3, ← hji9]; first | rfl | (simp [errW_none, errW_some] <;> rfl)) | (simp [*, errW_none, errW_some] <;> rfl), by repeat (first | (with_reducible first | exact HB.out | apply below_alloc | apply pw_below_drewN | apply below_drew1) | exact HB.out)⟩
            · rw [if_neg c11] at H
              exact absurd H (by simp)
          · rw [if_neg c10] at H
            exact absurd H (by simp)
        · rw [if_neg c7] at H
          exact absurd H (by simp)
      · rw [if_neg c5] at H
        exact absurd H (by simp)
    · rw [if_neg c4] at H
      exact absurd H (by simp)

/-! ### crc_Check: function 40 -/
def crc_Check.f (a0 : ByteArray) : Option (ByteArray × Int) := (crc_Syndrome.f a0).bind fun bt107 => (if bt107.2 = 0 then (if bt107.1 = 0 then (if 0 ≤ (wrap64 ((a0.size : Int) - 2)) then (if (wrap64 ((a0.size : Int) - 2)) ≤ (a0.size : Int) then (some (a0.extract 0 ((wrap64 ((a0.size : Int) - 2)) : Int).toNat, 0)) else (none)) else (none)) else (some ((⟨#[]⟩ : ByteArray), 10))) else (some ((⟨#[]⟩ : ByteArray), bt107.2)))
set_option maxHeartbeats 8000000 in
set_option maxRecDepth 100000 in
theorem crc_Check.calls (a0 : ByteArray) (r1 : ByteArray) (r2 : Int) (w : World) (h : crc_Check.f a0 = some (r1, r2)) :
    Calls Try.prog 40 #[.string a0] w fun e w' => e = .returned (.tuple #[.string r1, .int .i64 r2]) ∧ Below w.heap.size w w' := by
  have HB := Aside0.mk (Below.refl w.heap.size w)
  have H : ((crc_Syndrome.f a0).bind fun bt107 => (if bt107.2 = 0 then (if bt107.1 = 0 then (if 0 ≤ (wrap64 ((a0.size : Int) - 2)) then (if (wrap64 ((a0.size : Int) - 2)) ≤ (a0.size : Int) then (some (a0.extract 0 ((wrap64 ((a0.size : Int) - 2)) : Int).toNat, 0)) else (none)) else (none)) else (some ((⟨#[]⟩ : ByteArray), 10))) else (some ((⟨#[]⟩ : ByteArray), bt107.2)))) = some (r1, r2) := h
  clear h
  replace H := Option.bind_eq_some_iff.mp H
  obtain ⟨⟨t107, t108⟩, A20, H⟩ := H
  replace H : (if t108 = 0 then (if t107 = 0 then (if 0 ≤ (wrap64 ((a0.size : Int) - 2)) then (if (wrap64 ((a0.size : Int) - 2)) ≤ (a0.size : Int) then (some (a0.extract 0 ((wrap64 ((a0.size : Int) - 2)) : Int).toNat, 0)) else (none)) else (none)) else (some ((⟨#[]⟩ : ByteArray), 10))) else (some ((⟨#[]⟩ : ByteArray), t108))) = some (r1, r2) := H
  have A2 := Aside0.mk A20
  clear A20
  by_cases c3 : t108 = 0
  · rw [if_pos c3] at H
    have c3b0 : (t108 == 0) = true := beq_iff_eq.mpr c3
    have c3b1 : (t108 != 0) = false := bne_eq_false_iff_eq.mpr c3
    clear c3
    by_cases c4 : t107 = 0
    · rw [if_pos c4] at H
      have c4b0 : (t107 == 0) = true := beq_iff_eq.mpr c4
      have c4b1 : (t107 != 0) = false := bne_eq_false_iff_eq.mpr c4
      clear c4
      obtain ⟨ji5, hji5⟩ : ∃ j_ : Int, (wrap64 ((a0.size : Int) - 2)) = j_ := ⟨_, rfl⟩
      replace H : (if 0 ≤ (ji5) then (if (ji5) ≤ (a0.size : Int) then (some (a0.extract 0 ((ji5) : Int).toNat, 0)) else (none)) else (none)) = some (r1, r2) := by first | (rw [hji5] at H; exact H) | (simp only [hji5] at H ⊢; exact H)
      (try rw [hji5] at A2)
      have hji5w : (IntKind.i64.wrap ((a0.size : Int) - 2)) = ji5 := (i64_w _).trans hji5
      by_cases c6 : 0 ≤ (ji5)
      · rw [if_pos c6] at H
        have c6b0 := eq_true c6
        have c6b1 : decide (0 ≤ (ji5)) = true := decide_eq_true c6
        clear c6
        by_cases c7 : (ji5) ≤ (a0.size : Int)
        · rw [if_pos c7] at H
          have c7b0 := eq_true c7
          have c7b1 : decide ((ji5) ≤ (a0.size : Int)) = true := decide_eq_true c7
          clear c7
          simp only [Option.some.injEq, Prod.mk.injEq] at H
          obtain ⟨rfl, rfl⟩ := H
          go_enter Try.func40, Try.ntmps40
          go_wp2_with (first | ((with_reducible refine gate_callee (f := 68) rfl ?_); refine goesL_ (some 8) rfl rfl Try.func68 (by kernel_rfl) rfl #[.string a0] rfl (by (try simp only [List.map_toArray, List.map_cons, List.map_nil]); first | done | rfl | (simp only [List.length_drop, List.length_take]; rfl)) ?_; (with_reducible refine (crc_Syndrome.calls a0 t107 t108 _ A2.out).mono ?_); rintro e w8 ⟨rfl, hb⟩; refine ⟨_, rfl, ?_⟩; have n0_ := Aside0.mk (below_step (by repeat (first | (with_reducible first | exact HB.out | apply below_alloc | apply pw_below_drewN | apply below_drew1) | exact HB.out)) hb); clear HB; have HB := n0_; clear n0_; (try clear hb); (try clear hb2); (try clear hk); (try clear hi)))
          go_ret2
          exact ⟨by first | rfl | (simp [errW_none, errW_some] <;> rfl) | (simp only [← hji5]; first | rfl | (simp [errW_none, errW_some] <;> rfl)) | (simp [*, errW_none, errW_some] <;> rfl), by repeat (first | (with_reducible first | exact HB.out | apply below_alloc | apply pw_below_drewN | apply below_drew1) | exact HB.out)⟩
        · rw [if_neg c7] at H
          exact absurd H (by simp)
      · rw [if_neg c6] at H
        exact absurd H (by simp)
    · rw [if_neg c4] at H
      have c4b0 : (t107 == 0) = false := beq_eq_false_iff_ne.mpr c4
      have c4b1 : (t107 != 0) = true := bne_iff_ne.mpr c4
      simp only [Option.some.injEq, Prod.mk.injEq] at H
      obtain ⟨rfl, rfl⟩ := H
      go_enter Try.func40, Try.ntmps40
      go_wp2_with (first | ((with_reducible refine gate_callee (f := 68) rfl ?_); refine goesL_ (some 8) rfl rfl Try.func68 (by kernel_rfl) rfl #[.string a0] rfl (by (try simp only [List.map_toArray, List.map_cons, List.map_nil]); first | done | rfl | (simp only [List.length_drop, List.length_take]; rfl)) ?_; (with_reducible refine (crc_Syndrome.calls a0 t107 t108 _ A2.out).mono ?_); rintro e w9 ⟨rfl, hb⟩; refine ⟨_, rfl, ?_⟩; have n0_ := Aside0.mk (below_step (by repeat (first | (with_reducible first | exact HB.out | apply below_alloc | apply pw_below_drewN | apply below_drew1) | exact HB.out)) hb); clear HB; have HB := n0_; clear n0_; (try clear hb); (try clear hb2); (try clear hk); (try clear hi)))
      go_ret2
      exact ⟨by first | rfl | (simp [errW_none, errW_some] <;> rfl) | (simp [*, errW_none, errW_some] <;> rfl), by repeat (first | (with_reducible first | exact HB.out | apply below_alloc | apply pw_below_drewN | apply below_drew1) | exact HB.out)⟩
  · rw [if_neg c3] at H
    have c3b0 : (t108 == 0) = false := beq_eq_false_iff_ne.mpr c3
    have c3b1 : (t108 != 0) = true := bne_iff_ne.mpr c3
    simp only [Option.some.injEq, Prod.mk.injEq] at H
    obtain ⟨rfl, rfl⟩ := H
    go_enter Try.func40, Try.ntmps40
    go_wp2_with (first | ((with_reducible refine gate_callee (f := 68) rfl ?_); refine goesL_ (some 8) rfl rfl Try.func68 (by kernel_rfl) rfl #[.string a0] rfl (by (try simp only [List.map_toArray, List.map_cons, List.map_nil]); first | done | rfl | (simp only [List.length_drop, List.length_take]; rfl)) ?_; (with_reducible refine (crc_Syndrome.calls a0 t107 t108 _ A2.out).mono ?_); rintro e w10 ⟨rfl, hb⟩; refine ⟨_, rfl, ?_⟩; have n0_ := Aside0.mk (below_step (by repeat (first | (with_reducible first | exact HB.out | apply below_alloc | apply pw_below_drewN | apply below_drew1) | exact HB.out)) hb); clear HB; have HB := n0_; clear n0_; (try clear hb); (try clear hb2); (try clear hk); (try clear hi)))
    go_ret2
    exact ⟨by first | rfl | (simp [errW_none, errW_some] <;> rfl) | (simp [*, errW_none, errW_some] <;> rfl), by repeat (first | (with_reducible first | exact HB.out | apply below_alloc | apply pw_below_drewN | apply below_drew1) | exact HB.out)⟩

/-! ### hopmeshref03_Times: function 98 -/
def hopmeshref03_Times.f (a0 : Int) : Option (Int) := if a0 ≥ 32768 then (some (Go.bits .xor .u16 (IntKind.u16.wrap (a0 * 2)) 4129)) else (some (IntKind.u16.wrap (a0 * 2)))
set_option maxHeartbeats 8000000 in
set_option maxRecDepth 100000 in
theorem hopmeshref03_Times.calls (a0 : Int) (r : Int) (w : World) (h : hopmeshref03_Times.f a0 = some r) :
    Calls Try.prog 98 #[.int .u16 a0] w fun e w' => e = .returned (.int .u16 r) ∧ Drawn0 w w' := by
  have H : (if a0 ≥ 32768 then (some (Go.bits .xor .u16 (IntKind.u16.wrap (a0 * 2)) 4129)) else (some (IntKind.u16.wrap (a0 * 2)))) = some r := h
  clear h
  by_cases c2 : a0 ≥ 32768
  · rw [if_pos c2] at H
    have c2b0 : decide (32768 ≤ a0) = true := decide_eq_true c2
    clear c2
    obtain rfl := Option.some.inj H
    go_enter Try.func98, Try.ntmps98
    go_wp2
    go_ret
    exact ⟨by first | rfl | (simp; done) | (simp [*]; done), by repeat (first | exact Drawn0.refl _ | apply Drawn0.step)⟩
  · rw [if_neg c2] at H
    have c2b0 : decide (32768 ≤ a0) = false := decide_eq_false c2
    clear c2
    obtain rfl := Option.some.inj H
    go_enter Try.func98, Try.ntmps98
    go_wp2
    go_ret
    exact ⟨by first | rfl | (simp; done) | (simp [*]; done), by repeat (first | exact Drawn0.refl _ | apply Drawn0.step)⟩

/-! ### hopmeshref03_Update: function 89 -/
mutual
def hopmeshref03_Update.l0 : Nat → Int → ByteArray → Int → Option (Int)
  | 0, _, _, _ => none
  | k + 1, x0, x1, x5 => if x5 < (x1.size : Int) then (if 0 ≤ x5 then (hopmeshref03_Update.l1 k (Go.bits .xor .u16 x0 (IntKind.u16.wrap ((IntKind.u16.wrap (bt x1 x5)) * 256))) x1 x5 0) else (none)) else (some x0)
def hopmeshref03_Update.l1 : Nat → Int → ByteArray → Int → Int → Option (Int)
  | 0, _, _, _, _ => none
  | k + 1, x0, x1, x5, x6 => if x6 < 8 then ((hopmeshref03_Times.f x0).bind fun t109 => (hopmeshref03_Update.l1 k t109 x1 x5 (wrap64 (x6 + 1)))) else (hopmeshref03_Update.l0 k x0 x1 (wrap64 (x5 + 1)))
end
def hopmeshref03_Update.f (k : Nat) (a0 : Int) (a1 : ByteArray) : Option (Int) := hopmeshref03_Update.l0 k a0 a1 0
theorem hopmeshref03_Update.mono_l : ∀ k, (∀ y0 y1 y2, LeO (hopmeshref03_Update.l0 k y0 y1 y2) (hopmeshref03_Update.l0 (k + 1) y0 y1 y2)) ∧ (∀ y0 y1 y2 y3, LeO (hopmeshref03_Update.l1 k y0 y1 y2 y3) (hopmeshref03_Update.l1 (k + 1) y0 y1 y2 y3))
  | 0 => ⟨fun _ _ _ r h => by simp [hopmeshref03_Update.l0] at h, fun _ _ _ _ r h => by simp [hopmeshref03_Update.l1] at h⟩
  | k + 1 => by
    obtain ⟨ih0, ih1⟩ := hopmeshref03_Update.mono_l k
    refine ⟨?_, ?_⟩
    · intro y0 y1 y2
      unfold hopmeshref03_Update.l0
      repeat' first
      | (with_reducible exact ih0 _ _ _)
      | (with_reducible exact ih1 _ _ _ _)
      | (with_reducible exact LeO.refl _)
      | (with_reducible exact LeO.none _)
      | (with_reducible refine LeO.ite ?_ ?_)
      | (with_reducible refine LeO.bind ?_ (fun _ => ?_))
      | exact ih0 _ _ _
      | exact ih1 _ _ _ _
      | exact LeO.none _
      | refine LeO.ite ?_ ?_
      | refine LeO.bind ?_ (fun _ => ?_)
    · intro y0 y1 y2 y3
      unfold hopmeshref03_Update.l1
      repeat' first
      | (with_reducible exact ih0 _ _ _)
      | (with_reducible exact ih1 _ _ _ _)
      | (with_reducible exact LeO.refl _)
      | (with_reducible exact LeO.none _)
      | (with_reducible refine LeO.ite ?_ ?_)
      | (with_reducible refine LeO.bind ?_ (fun _ => ?_))
      | exact ih0 _ _ _
      | exact ih1 _ _ _ _
      | exact LeO.none _
      | refine LeO.ite ?_ ?_
      | refine LeO.bind ?_ (fun _ => ?_)
theorem hopmeshref03_Update.mono : ∀ a0 a1 k, LeO (hopmeshref03_Update.f k a0 a1) (hopmeshref03_Update.f (k + 1) a0 a1) := by
  intro a0 a1 k
  obtain ⟨ih0, ih1⟩ := hopmeshref03_Update.mono_l k
  unfold hopmeshref03_Update.f
  repeat' first
      | (with_reducible exact ih0 _ _ _)
      | (with_reducible exact ih1 _ _ _ _)
      | (with_reducible exact LeO.refl _)
      | (with_reducible exact LeO.none _)
      | (with_reducible refine LeO.ite ?_ ?_)
      | (with_reducible refine LeO.bind ?_ (fun _ => ?_))
      | exact ih0 _ _ _
      | exact ih1 _ _ _ _
      | exact LeO.none _
      | refine LeO.ite ?_ ?_
      | refine LeO.bind ?_ (fun _ => ?_)
set_option maxHeartbeats 8000000 in
set_option maxRecDepth 100000 in
theorem hopmeshref03_Update.calls (k : Nat) (a0 : Int) (a1 : ByteArray) (r : Int) (w : World) (h : hopmeshref03_Update.f k a0 a1 = some r) :
    Calls Try.prog 89 #[.int .u16 a0, .string a1] w fun e w' => e = .returned (.int .u16 r) ∧ Drawn0 w w' := by
  have H : (hopmeshref03_Update.l0 k a0 a1 0) = some r := h
  clear h
  have H' := Aside0.mk H
  clear H
  go_enter Try.func89, Try.ntmps89
  go_wp2
  go_loopg [0, 5] k (fun kq v0 v5 w' => ∃ (x0_1 : Int) (x5_1 : Int), v0 = .int .u16 x0_1 ∧ v5 = .int .i64 x5_1 ∧ Aside0 (hopmeshref03_Update.l0 kq x0_1 a1 x5_1 = some r) ∧ Aside0 (kq ≤ k) ∧ Drawn0 w w')
  case atStart => exact ⟨(a0), (0), (by first | rfl | (simp; done) | (simp [*]; done)), (by first | rfl | (simp; done) | (simp [*]; done)), H', ⟨Nat.le_refl _⟩, by repeat (first | exact Drawn0.refl _ | apply Drawn0.step)⟩
  case round =>
    clear H'
    try clear p2
    obtain ⟨x0_1, x5_1, rfl, rfl, HA, HK1, ⟨m1, rfl⟩⟩ := hrel
    cases gk with
    | zero => exact absurd HA.out (by simp [hopmeshref03_Update.l0])
    | succ k1 =>
      have H := HA.out
      clear HA
      simp only [hopmeshref03_Update.l0] at H
      by_cases c3 : x5_1 < (a1.size : Int)
      · rw [if_pos c3] at H
        have c3b0 : decide (x5_1 < (a1.size : Int)) = true := decide_eq_true c3
        clear c3
        by_cases c4 : 0 ≤ x5_1
        · rw [if_pos c4] at H
          have c4b0 : decide (0 ≤ x5_1) = true := decide_eq_true c4
          clear c4
          have H' := Aside0.mk H
          clear H
          have p5 : 0 ≤ (x5_1 : Int) := of_decide_eq_true (by first | (with_reducible assumption) | assumption)
          have q5 : x5_1 < (a1.size : Int) := of_decide_eq_true (by first | (with_reducible assumption) | assumption)
          have hx5 := bt_at a1 x5_1
          replace p5 := eq_true p5
          replace q5 := eq_true q5
          go_wp2
          go_loopg [0, 6] k1 (fun kq v0 v6 w' => ∃ (x0_2 : Int) (x6_2 : Int), v0 = .int .u16 x0_2 ∧ v6 = .int .i64 x6_2 ∧ Aside0 (hopmeshref03_Update.l1 kq x0_2 a1 x5_1 x6_2 = some r) ∧ Aside0 (kq ≤ k1) ∧ Drawn0 w w')
          case atStart => exact ⟨(Go.bits .xor .u16 x0_1 (IntKind.u16.wrap ((IntKind.u16.wrap (bt a1 x5_1)) * 256))), (0), (by first | rfl | (simp; done) | (simp [*]; done)), (by first | rfl | (simp; done) | (simp [*]; done)), H', ⟨Nat.le_refl _⟩, by repeat (first | exact Drawn0.refl _ | apply Drawn0.step)⟩
          case round =>
            clear H'
            try clear p2
            try clear c3
            try clear c3b0
            try clear c4
            try clear c4b0
            try clear p5
            try clear q5
            try clear hx5
            try clear p2
            try clear p5
            try clear q5
            obtain ⟨x0_2, x6_2, rfl, rfl, HA, HK2, ⟨m2, rfl⟩⟩ := hrel
            cases gk with
            | zero => exact absurd HA.out (by simp [hopmeshref03_Update.l1])
            | succ k2 =>
              have H := HA.out
              clear HA
              simp only [hopmeshref03_Update.l1] at H
              by_cases c6 : x6_2 < 8
              · rw [if_pos c6] at H
                have c6b0 : decide (x6_2 < 8) = true := decide_eq_true c6
                clear c6
                replace H := Option.bind_eq_some_iff.mp H
                obtain ⟨t109, A70, H⟩ := H
                replace H : (hopmeshref03_Update.l1 k2 t109 a1 x5_1 (wrap64 (x6_2 + 1))) = some r := H
                have A7 := Aside0.mk A70
                clear A70
                have H' := Aside0.mk H
                clear H
                go_wp2_with (first | ((with_reducible refine gate_callee (f := 98) rfl ?_); refine goesL_ (some 25) rfl rfl Try.func98 (by kernel_rfl) rfl #[.int .u16 x0_2] rfl (by (try simp only [List.map_toArray, List.map_cons, List.map_nil]); first | done | rfl | (simp only [List.length_drop, List.length_take]; rfl)) ?_; (with_reducible refine (hopmeshref03_Times.calls x0_2 t109 _ A7.out).mono ?_); rintro e w' ⟨rfl, ⟨nd, rfl⟩⟩; refine ⟨_, rfl, ?_⟩))
                go_roundg k2
                case measure => have := HK1.out; have := HK2.out; omega
                case rel => exact ⟨(t109), (wrap64 (x6_2 + 1)), (by first | rfl | (simp; done) | (simp [*]; done)), (by first | rfl | (simp; done) | (simp [*]; done)), H', ⟨by have := HK1.out; have := HK2.out; omega⟩, by repeat (first | exact Drawn0.refl _ | apply Drawn0.step)⟩
              · rw [if_neg c6] at H
                have c6b0 : decide (x6_2 < 8) = false := decide_eq_false c6
                clear c6
                have H' := Aside0.mk H
                clear H
                go_wp2
                go_roundg k2
                case measure => have := HK1.out; have := HK2.out; omega
                case rel => exact ⟨(x0_2), (wrap64 (x5_1 + 1)), (by first | rfl | (simp; done) | (simp [*]; done)), (by first | rfl | (simp; done) | (simp [*]; done)), H', ⟨by have := HK1.out; have := HK2.out; omega⟩, by repeat (first | exact Drawn0.refl _ | apply Drawn0.step)⟩
        · rw [if_neg c4] at H
          exact absurd H (by simp)
      · rw [if_neg c3] at H
        have c3b0 : decide (x5_1 < (a1.size : Int)) = false := decide_eq_false c3
        clear c3
        obtain rfl := Option.some.inj H
        go_wp2
        go_ret
        exact ⟨by first | rfl | (simp; done) | (simp [*]; done), by repeat (first | exact Drawn0.refl _ | apply Drawn0.step)⟩

/-! ### hopmeshref03_Sum: function 66 -/
def hopmeshref03_Sum.f (k : Nat) (a0 : ByteArray) : Option (Int) := (hopmeshref03_Update.f k 0 a0).bind fun t110 => (some t110)
theorem hopmeshref03_Sum.mono : ∀ a0 k, LeO (hopmeshref03_Sum.f k a0) (hopmeshref03_Sum.f (k + 1) a0) := by
  intro a0 k
  unfold hopmeshref03_Sum.f
  repeat' first
      | (with_reducible exact hopmeshref03_Update.mono _ _ _)
      | (with_reducible exact LeO.refl _)
      | (with_reducible exact LeO.none _)
      | (with_reducible refine LeO.ite ?_ ?_)
      | (with_reducible refine LeO.bind ?_ (fun _ => ?_))
      | exact hopmeshref03_Update.mono _ _ _
      | exact LeO.none _
      | refine LeO.ite ?_ ?_
      | refine LeO.bind ?_ (fun _ => ?_)
set_option maxHeartbeats 8000000 in
set_option maxRecDepth 100000 in
theorem hopmeshref03_Sum.calls (k : Nat) (a0 : ByteArray) (r : Int) (w : World) (h : hopmeshref03_Sum.f k a0 = some r) :
    Calls Try.prog 66 #[.string a0] w fun e w' => e = .returned (.int .u16 r) ∧ Drawn0 w w' := by
  have H : ((hopmeshref03_Update.f k 0 a0).bind fun t110 => (some t110)) = some r := h
  clear h
  replace H := Option.bind_eq_some_iff.mp H
  obtain ⟨t110, A20, H⟩ := H
  replace H : (some t110) = some r := H
  have A2 := Aside0.mk A20
  clear A20
  obtain rfl := Option.some.inj H
  go_enter Try.func66, Try.ntmps66
  go_wp2_with (first | ((with_reducible refine gate_callee (f := 89) rfl ?_); refine goesL_ (some 4) rfl rfl Try.func89 (by kernel_rfl) rfl #[.int .u16 0, .string a0] rfl (by (try simp only [List.map_toArray, List.map_cons, List.map_nil]); first | done | rfl | (simp only [List.length_drop, List.length_take]; rfl)) ?_; (with_reducible refine (hopmeshref03_Update.calls k 0 a0 t110 _ A2.out).mono ?_); rintro e w' ⟨rfl, ⟨nd, rfl⟩⟩; refine ⟨_, rfl, ?_⟩))
  go_ret
  exact ⟨by first | rfl | (simp; done) | (simp [*]; done), by repeat (first | exact Drawn0.refl _ | apply Drawn0.step)⟩

/-! ### hopmeshref03_Protect: function 35 -/
def hopmeshref03_Protect.f (k : Nat) (a0 : ByteArray) : Option (ByteArray) := (hopmeshref03_Sum.f k a0).bind fun t111 => ((some (([(t111 / 256) % 256, (t111) % 256] : List Int) : List Int)).bind fun y112 => (if a0.size + (strOfNums y112).size ≤ 9223372036854775807 then (some (a0 ++ (strOfNums y112))) else (none)))
theorem hopmeshref03_Protect.mono : ∀ a0 k, LeO (hopmeshref03_Protect.f k a0) (hopmeshref03_Protect.f (k + 1) a0) := by
  intro a0 k
  unfold hopmeshref03_Protect.f
  repeat' first
      | (with_reducible exact hopmeshref03_Sum.mono _ _)
      | (with_reducible exact LeO.refl _)
      | (with_reducible exact LeO.none _)
      | (with_reducible refine LeO.ite ?_ ?_)
      | (with_reducible refine LeO.bind ?_ (fun _ => ?_))
      | exact hopmeshref03_Sum.mono _ _
      | exact LeO.none _
      | refine LeO.ite ?_ ?_
      | refine LeO.bind ?_ (fun _ => ?_)
set_option maxHeartbeats 8000000 in
set_option maxRecDepth 100000 in
theorem hopmeshref03_Protect.calls (k : Nat) (a0 : ByteArray) (r : ByteArray) (w : World) (h : hopmeshref03_Protect.f k a0 = some r) :
    Calls Try.prog 35 #[.string a0] w fun e w' => e = .returned (.string r) ∧ Below w.heap.size w w' := by
  have HB := Aside0.mk (Below.refl w.heap.size w)
  have H : ((hopmeshref03_Sum.f k a0).bind fun t111 => ((some (([(t111 / 256) % 256, (t111) % 256] : List Int) : List Int)).bind fun y112 => (if a0.size + (strOfNums y112).size ≤ 9223372036854775807 then (some (a0 ++ (strOfNums y112))) else (none)))) = some r := h
  clear h
  replace H := Option.bind_eq_some_iff.mp H
  obtain ⟨t111, A20, H⟩ := H
  replace H : ((some (([(t111 / 256) % 256, (t111) % 256] : List Int) : List Int)).bind fun y112 => (if a0.size + (strOfNums y112).size ≤ 9223372036854775807 then (some (a0 ++ (strOfNums y112))) else (none))) = some r := H
  have A2 := Aside0.mk A20
  clear A20
  obtain ⟨y112, hy112⟩ : ∃ y_ : List Int, y_ = (([(t111 / 256) % 256, (t111) % 256] : List Int)) := ⟨_, rfl⟩
  replace H : (if a0.size + (strOfNums y112).size ≤ 9223372036854775807 then (some (a0 ++ (strOfNums y112))) else (none)) = some r := by first | (rw [hy112]; with_reducible exact H) | (have H2_ := (Option.bind_some _ _).symm.trans H; rw [hy112]; with_reducible exact H2_) | (have H2_ := (Option.bind_some _ _).symm.trans H; with_reducible exact H2_) | with_reducible exact H | (rw [hy112]; exact H) | exact H
  have Ny112 := Aside0.mk hy112
  clear hy112
  by_cases c3 : a0.size + (strOfNums y112).size ≤ 9223372036854775807
  · rw [if_pos c3] at H
    have c3b0 := eq_true c3
    have c3b1 : decide (a0.size + (strOfNums y112).size ≤ 9223372036854775807) = true := decide_eq_true c3
    try have c3b2 : (9223372036854775807 < a0.size + (strOfNums y112).size) = False := eq_false (Nat.not_lt.2 c3)
    obtain rfl := Option.some.inj H
    go_enter Try.func35, Try.ntmps35
    go_wp2_with (first | ((with_reducible refine gate_callee (f := 66) rfl ?_); refine goesL_ (some 5) rfl rfl Try.func66 (by kernel_rfl) rfl #[.string a0] rfl (by (try simp only [List.map_toArray, List.map_cons, List.map_nil]); first | done | rfl | (simp only [List.length_drop, List.length_take]; rfl)) ?_; (with_reducible refine (hopmeshref03_Sum.calls k a0 t111 _ A2.out).mono ?_); rintro e w' ⟨rfl, ⟨nd, rfl⟩⟩; refine ⟨_, rfl, ?_⟩) | ((with_reducible refine gate_dst (N := 12) rfl ?_); refine Kd.R_lit (Kd.int .u8) _ 5 ?hg (N := 12) ?hd (xs := ([(t111 / 256) % 256, (t111) % 256] : List Int)) (inner := [.int .u8 ((t111 / 256) % 256), .int .u8 ((t111) % 256)]) (ok := fun _ => True) (okp := fun _ => True) ?hr ?hp (fun _ hk => hk) trivial (Below.refl _ _) (Nat.le_refl _) (by simp) ?_; (case hd => rfl); (case hg => rfl); (case hr => first | (go_simp; done) | (go_simp; rfl)); (case hp => exact (Reps.one (show Kd.M (Kd.int .u8) _ _ _ ((t111 / 256) % 256) [.int .u8 ((t111 / 256) % 256)] from rfl) (Reps.one (show Kd.M (Kd.int .u8) _ _ _ ((t111) % 256) [.int .u8 ((t111) % 256)] from rfl) (Reps.none _ _)))); intro v113 w4 ho5 hb hg_ hnew_; clear hg_ hnew_; (first | rw [← Ny112.out] at ho5 | (simp only [Int.reduceToNat] at ho5; rw [← Ny112.out] at ho5)); have n0_ := Aside0.mk (Kd.R_lower ho5 (below_size (by repeat (first | (with_reducible first | exact HB.out | apply below_alloc | apply pw_below_drewN | apply below_drew1) | exact HB.out)))); have n1_ := Aside0.mk (below_step (by repeat (first | (with_reducible first | exact HB.out | apply below_alloc | apply pw_below_drewN | apply below_drew1) | exact HB.out)) hb); clear HB; have HO114 := n0_; have HB := n1_; clear n0_ n1_; clear hb ho5; have hcv6 := own_string (P := Try.prog) Try.underlying40 Try.underlying5 Try.underlying9 (Kd.own_of_R HO114.out)))
    go_ret
    exact ⟨by first | rfl | (simp [errW_none, errW_some] <;> rfl) | (simp [*, errW_none, errW_some] <;> rfl), by repeat (first | (with_reducible first | exact HB.out | apply below_alloc | apply pw_below_drewN | apply below_drew1) | exact HB.out)⟩
  · rw [if_neg c3] at H
    exact absurd H (by simp)

/-! ### hopmeshref03_Syndrome: function 72 -/
def hopmeshref03_Syndrome.f (k : Nat) (a0 : ByteArray) : Option (Int × Int) := if (a0.size : Int) < 2 then (some (0, 9)) else (if 0 ≤ (wrap64 ((a0.size : Int) - 2)) then (if (wrap64 ((a0.size : Int) - 2)) ≤ (a0.size : Int) then ((hopmeshref03_Sum.f k (a0.extract 0 ((wrap64 ((a0.size : Int) - 2)) : Int).toNat)).bind fun t115 => (if (wrap64 ((a0.size : Int) - 2)) < (a0.size : Int) then (if 0 ≤ (wrap64 ((a0.size : Int) - 1)) then (if (wrap64 ((a0.size : Int) - 1)) < (a0.size : Int) then (some (Go.bits .xor .u16 t115 (Go.bits .or .u16 (IntKind.u16.wrap ((IntKind.u16.wrap (bt a0 (wrap64 ((a0.size : Int) - 2)))) * 256)) (IntKind.u16.wrap (bt a0 (wrap64 ((a0.size : Int) - 1))))), 0)) else (none)) else (none)) else (none))) else (none)) else (none))
theorem hopmeshref03_Syndrome.mono : ∀ a0 k, LeO (hopmeshref03_Syndrome.f k a0) (hopmeshref03_Syndrome.f (k + 1) a0) := by
  intro a0 k
  unfold hopmeshref03_Syndrome.f
  repeat' first
      | (with_reducible exact hopmeshref03_Sum.mono _ _)
      | (with_reducible exact LeO.refl _)
      | (with_reducible exact LeO.none _)
      | (with_reducible refine LeO.ite ?_ ?_)
      | (with_reducible refine LeO.bind ?_ (fun _ => ?_))
      | exact hopmeshref03_Sum.mono _ _
      | exact LeO.none _
      | refine LeO.ite ?_ ?_
      | refine LeO.bind ?_ (fun _ => ?_)
set_option maxHeartbeats 8000000 in
set_option maxRecDepth 100000 in
theorem hopmeshref03_Syndrome.calls (k : Nat) (a0 : ByteArray) (r1 : Int) (r2 : Int) (w : World) (h : hopmeshref03_Syndrome.f k a0 = some (r1, r2)) :
    Calls Try.prog 72 #[.string a0] w fun e w' => e = .returned (.tuple #[.int .u16 r1, .int .i64 r2]) ∧ Drawn0 w w' := by
  have H : (if (a0.size : Int) < 2 then (some (0, 9)) else (if 0 ≤ (wrap64 ((a0.size : Int) - 2)) then (if (wrap64 ((a0.size : Int) - 2)) ≤ (a0.size : Int) then ((hopmeshref03_Sum.f k (a0.extract 0 ((wrap64 ((a0.size : Int) - 2)) : Int).toNat)).bind fun t115 => (if (wrap64 ((a0.size : Int) - 2)) < (a0.size : Int) then (if 0 ≤ (wrap64 ((a0.size : Int) - 1)) then (if (wrap64 ((a0.size : Int) - 1)) < (a0.size : Int) then (some (Go.bits .xor .u16 t115 (Go.bits .or .u16 (IntKind.u16.wrap ((IntKind.u16.wrap (bt a0 (wrap64 ((a0.size : Int) - 2)))) * 256)) (IntKind.u16.wrap (bt a0 (wrap64 ((a0.size : Int) - 1))))), 0)) else (none)) else (none)) else (none))) else (none)) else (none))) = some (r1, r2) := h
  clear h
  by_cases c2 : (a0.size : Int) < 2
  · rw [if_pos c2] at H
    have c2b0 : decide ((a0.size : Int) < 2) = true := decide_eq_true c2
    have c2b1 : decide (a0.size < 2) = true := decide_eq_true (by omega)
    clear c2
    simp only [Option.some.injEq, Prod.mk.injEq] at H
    obtain ⟨rfl, rfl⟩ := H
    go_enter Try.func72, Try.ntmps72
    go_wp2
    repeat (go_quiet (fail); try go_wp2)
    go_ret2
    exact ⟨by first | rfl | (simp; done) | (simp [*]; done), by repeat (first | exact Drawn0.refl _ | apply Drawn0.step)⟩
  · rw [if_neg c2] at H
    have c2b0 : decide ((a0.size : Int) < 2) = false := decide_eq_false c2
    have c2b1 : decide (a0.size < 2) = false := decide_eq_false (by omega)
    clear c2
    obtain ⟨ji3, hji3⟩ : ∃ j_ : Int, (wrap64 ((a0.size : Int) - 2)) = j_ := ⟨_, rfl⟩
    replace H : (if 0 ≤ (ji3) then (if (ji3) ≤ (a0.size : Int) then ((hopmeshref03_Sum.f k (a0.extract 0 ((ji3) : Int).toNat)).bind fun t115 => (if (ji3) < (a0.size : Int) then (if 0 ≤ (wrap64 ((a0.size : Int) - 1)) then (if (wrap64 ((a0.size : Int) - 1)) < (a0.size : Int) then (some (Go.bits .xor .u16 t115 (Go.bits .or .u16 (IntKind.u16.wrap ((IntKind.u16.wrap (bt a0 (ji3))) * 256)) (IntKind.u16.wrap (bt a0 (wrap64 ((a0.size : Int) - 1))))), 0)) else (none)) else (none)) else (none))) else (none)) else (none)) = some (r1, r2) := by first | (rw [hji3] at H; exact H) | (simp only [hji3] at H ⊢; exact H)
    have hji3w : (IntKind.i64.wrap ((a0.size : Int) - 2)) = ji3 := (i64_w _).trans hji3
    by_cases c4 : 0 ≤ (ji3)
    · rw [if_pos c4] at H
      have c4b0 := eq_true c4
      have c4b1 : decide (0 ≤ (ji3)) = true := decide_eq_true c4
      clear c4
      by_cases c5 : (ji3) ≤ (a0.size : Int)
      · rw [if_pos c5] at H
        have c5b0 := eq_true c5
        have c5b1 : decide ((ji3) ≤ (a0.size : Int)) = true := decide_eq_true c5
        clear c5
        replace H := Option.bind_eq_some_iff.mp H
        obtain ⟨t115, A60, H⟩ := H
        replace H : (if (ji3) < (a0.size : Int) then (if 0 ≤ (wrap64 ((a0.size : Int) - 1)) then (if (wrap64 ((a0.size : Int) - 1)) < (a0.size : Int) then (some (Go.bits .xor .u16 t115 (Go.bits .or .u16 (IntKind.u16.wrap ((IntKind.u16.wrap (bt a0 (ji3))) * 256)) (IntKind.u16.wrap (bt a0 (wrap64 ((a0.size : Int) - 1))))), 0)) else (none)) else (none)) else (none)) = some (r1, r2) := H
        have A6 := Aside0.mk A60
        clear A60
        by_cases c7 : (ji3) < (a0.size : Int)
        · rw [if_pos c7] at H
          have c7b0 : decide ((ji3) < (a0.size : Int)) = true := decide_eq_true c7
          clear c7
          obtain ⟨ji9, hji9⟩ : ∃ j_ : Int, (wrap64 ((a0.size : Int) - 1)) = j_ := ⟨_, rfl⟩
          replace H : (if 0 ≤ (ji9) then (if (ji9) < (a0.size : Int) then (some (Go.bits .xor .u16 t115 (Go.bits .or .u16 (IntKind.u16.wrap ((IntKind.u16.wrap (bt a0 (ji3))) * 256)) (IntKind.u16.wrap (bt a0 (ji9)))), 0)) else (none)) else (none)) = some (r1, r2) := by first | (rw [hji9] at H; exact H) | (simp only [hji9] at H ⊢; exact H)
          (try rw [hji9] at A6)
          have hji9w : (IntKind.i64.wrap ((a0.size : Int) - 1)) = ji9 := (i64_w _).trans hji9
          by_cases c10 : 0 ≤ (ji9)
          · rw [if_pos c10] at H
            have c10b0 : decide (0 ≤ (ji9)) = true := decide_eq_true c10
            clear c10
            by_cases c11 : (ji9) < (a0.size : Int)
            · rw [if_pos c11] at H
              have c11b0 : decide ((ji9) < (a0.size : Int)) = true := decide_eq_true c11
              clear c11
              simp only [Option.some.injEq, Prod.mk.injEq] at H
              obtain ⟨rfl, rfl⟩ := H
              go_enter Try.func72, Try.ntmps72
              go_wp2_with (first | (go_at_call 66; (with_reducible refine (hopmeshref03_Sum.calls k (a0.extract 0 ((ji3) : Int).toNat) t115 _ A6.out).mono ?_); rintro e w' ⟨rfl, ⟨nd, rfl⟩⟩; (try first | exact ⟨rfl, _, World.drewN_drewN _ _ _⟩ | exact ⟨rfl, _, Eq.trans (World.drewN_drewN _ _ _) (congrArg (World.drewN _) (Nat.add_assoc _ _ _))⟩); have p8 : 0 ≤ ((ji3) : Int) := of_decide_eq_true (by first | (with_reducible assumption) | assumption); have q8 : (ji3) < (a0.size : Int) := of_decide_eq_true (by first | (with_reducible assumption) | assumption); have hx8 := bt_at a0 (ji3); replace p8 := eq_true p8; replace q8 := eq_true q8; have p12 : 0 ≤ ((ji9) : Int) := of_decide_eq_true (by first | (with_reducible assumption) | assumption); have q12 : (ji9) < (a0.size : Int) := of_decide_eq_true (by first | (with_reducible assumption) | assumption); have hx12 := bt_at a0 (ji9); replace p12 := eq_true p12; replace q12 := eq_true q12))
              repeat (go_quiet (first | (go_at_call 66; (with_reducible refine (hopmeshref03_Sum.calls k (a0.extract 0 ((ji3) : Int).toNat) t115 _ A6.out).mono ?_); rintro e w' ⟨rfl, ⟨nd, rfl⟩⟩; (try first | exact ⟨rfl, _, World.drewN_drewN _ _ _⟩ | exact ⟨rfl, _, Eq.trans (World.drewN_drewN _ _ _) (congrArg (World.drewN _) (Nat.add_assoc _ _ _))⟩); have p8 : 0 ≤ ((ji3) : Int) := of_decide_eq_true (by first | (with_reducible assumption) | assumption); have q8 : (ji3) < (a0.size : Int) := of_decide_eq_true (by first | (with_reducible assumption) | assumption); have hx8 := bt_at a0 (ji3); replace p8 := eq_true p8; replace q8 := eq_true q8; have p12 : 0 ≤ ((ji9) : Int) := of_decide_eq_true (by first | (with_reducible assumption) | assumption); have q12 : (ji9) < (a0.size : Int) := of_decide_eq_true (by first | (with_reducible assumption) | assumption); have hx12 := bt_at a0 (ji9); replace p12 := eq_true p12; replace q12 := eq_true q12)); try go_wp2_with (first | (go_at_call 66; (with_reducible refine (hopmeshref03_Sum.calls k (a0.extract 0 ((ji3) : Int).toNat) t115 _ A6.out).mono ?_); rintro e w' ⟨rfl, ⟨nd, rfl⟩⟩; (try first | exact ⟨rfl, _, World.drewN_drewN _ _ _⟩ | exact ⟨rfl, _, Eq.trans (World.drewN_drewN _ _ _) (congrArg (World.drewN _) (Nat.add_assoc _ _ _))⟩); have p8 : 0 ≤ ((ji3) : Int) := of_decide_eq_true (by first | (with_reducible assumption) | assumption); have q8 : (ji3) < (a0.size : Int) := of_decide_eq_true (by first | (with_reducible assumption) | assumption); have hx8 := bt_at a0 (ji3); replace p8 := eq_true p8; replace q8 := eq_true q8; have p12 : 0 ≤ ((ji9) : Int) := of_decide_eq_true (by first | (with_reducible assumption) | assumption); have q12 : (ji9) < (a0.size : Int) := of_decide_eq_true (by first | (with_reducible assumption) | assumption); have hx12 := bt_at a0 (ji9); replace p12 := eq_true p12; replace q12 := eq_true q12)))
              go_ret2
              exact ⟨by first | rfl | (simp; done) | (simp only [← hji3, ← hji9] <;> (first | rfl | simp)) | (simp [*]; done), by repeat (first | exact Drawn0.refl _ | apply Drawn0.step)⟩
            · rw [if_neg c11] at H
              exact absurd H (by simp)
          · rw [if_neg c10] at H
            exact absurd H (by simp)
        · rw [if_neg c7] at H
          exact absurd H (by simp)
      · rw [if_neg c5] at H
        exact absurd H (by simp)
    · rw [if_neg c4] at H
      exact absurd H (by simp)

/-! ### hopmeshref03_Check: function 43 -/
def hopmeshref03_Check.f (k : Nat) (a0 : ByteArray) : Option (ByteArray × Int) := (hopmeshref03_Syndrome.f k a0).bind fun bt116 => (if bt116.2 = 0 then (if bt116.1 = 0 then (if 0 ≤ (wrap64 ((a0.size : Int) - 2)) then (if (wrap64 ((a0.size : Int) - 2)) ≤ (a0.size : Int) then (some (a0.extract 0 ((wrap64 ((a0.size : Int) - 2)) : Int).toNat, 0)) else (none)) else (none)) else (some ((⟨#[]⟩ : ByteArray), 10))) else (some ((⟨#[]⟩ : ByteArray), bt116.2)))
theorem hopmeshref03_Check.mono : ∀ a0 k, LeO (hopmeshref03_Check.f k a0) (hopmeshref03_Check.f (k + 1) a0) := by
  intro a0 k
  unfold hopmeshref03_Check.f
  repeat' first
      | (with_reducible exact hopmeshref03_Syndrome.mono _ _)
      | (with_reducible exact LeO.refl _)
      | (with_reducible exact LeO.none _)
      | (with_reducible refine LeO.ite ?_ ?_)
      | (with_reducible refine LeO.bind ?_ (fun _ => ?_))
      | exact hopmeshref03_Syndrome.mono _ _
      | exact LeO.none _
      | refine LeO.ite ?_ ?_
      | refine LeO.bind ?_ (fun _ => ?_)
set_option maxHeartbeats 8000000 in
set_option maxRecDepth 100000 in
theorem hopmeshref03_Check.calls (k : Nat) (a0 : ByteArray) (r1 : ByteArray) (r2 : Int) (w : World) (h : hopmeshref03_Check.f k a0 = some (r1, r2)) :
    Calls Try.prog 43 #[.string a0] w fun e w' => e = .returned (.tuple #[.string r1, .int .i64 r2]) ∧ Drawn0 w w' := by
  have H : ((hopmeshref03_Syndrome.f k a0).bind fun bt116 => (if bt116.2 = 0 then (if bt116.1 = 0 then (if 0 ≤ (wrap64 ((a0.size : Int) - 2)) then (if (wrap64 ((a0.size : Int) - 2)) ≤ (a0.size : Int) then (some (a0.extract 0 ((wrap64 ((a0.size : Int) - 2)) : Int).toNat, 0)) else (none)) else (none)) else (some ((⟨#[]⟩ : ByteArray), 10))) else (some ((⟨#[]⟩ : ByteArray), bt116.2)))) = some (r1, r2) := h
  clear h
  replace H := Option.bind_eq_some_iff.mp H
  obtain ⟨⟨t116, t117⟩, A20, H⟩ := H
  replace H : (if t117 = 0 then (if t116 = 0 then (if 0 ≤ (wrap64 ((a0.size : Int) - 2)) then (if (wrap64 ((a0.size : Int) - 2)) ≤ (a0.size : Int) then (some (a0.extract 0 ((wrap64 ((a0.size : Int) - 2)) : Int).toNat, 0)) else (none)) else (none)) else (some ((⟨#[]⟩ : ByteArray), 10))) else (some ((⟨#[]⟩ : ByteArray), t117))) = some (r1, r2) := H
  have A2 := Aside0.mk A20
  clear A20
  by_cases c3 : t117 = 0
  · rw [if_pos c3] at H
    have c3b0 : (t117 == 0) = true := beq_iff_eq.mpr c3
    have c3b1 : (t117 != 0) = false := bne_eq_false_iff_eq.mpr c3
    clear c3
    by_cases c4 : t116 = 0
    · rw [if_pos c4] at H
      have c4b0 : (t116 == 0) = true := beq_iff_eq.mpr c4
      have c4b1 : (t116 != 0) = false := bne_eq_false_iff_eq.mpr c4
      clear c4
      obtain ⟨ji5, hji5⟩ : ∃ j_ : Int, (wrap64 ((a0.size : Int) - 2)) = j_ := ⟨_, rfl⟩
      replace H : (if 0 ≤ (ji5) then (if (ji5) ≤ (a0.size : Int) then (some (a0.extract 0 ((ji5) : Int).toNat, 0)) else (none)) else (none)) = some (r1, r2) := by first | (rw [hji5] at H; exact H) | (simp only [hji5] at H ⊢; exact H)
      (try rw [hji5] at A2)
      have hji5w : (IntKind.i64.wrap ((a0.size : Int) - 2)) = ji5 := (i64_w _).trans hji5
      by_cases c6 : 0 ≤ (ji5)
      · rw [if_pos c6] at H
        have c6b0 := eq_true c6
        have c6b1 : decide (0 ≤ (ji5)) = true := decide_eq_true c6
        clear c6
        by_cases c7 : (ji5) ≤ (a0.size : Int)
        · rw [if_pos c7] at H
          have c7b0 := eq_true c7
          have c7b1 : decide ((ji5) ≤ (a0.size : Int)) = true := decide_eq_true c7
          clear c7
          simp only [Option.some.injEq, Prod.mk.injEq] at H
          obtain ⟨rfl, rfl⟩ := H
          go_enter Try.func43, Try.ntmps43
          go_wp2_with (first | ((with_reducible refine gate_callee (f := 72) rfl ?_); refine goesL_ (some 8) rfl rfl Try.func72 (by kernel_rfl) rfl #[.string a0] rfl (by (try simp only [List.map_toArray, List.map_cons, List.map_nil]); first | done | rfl | (simp only [List.length_drop, List.length_take]; rfl)) ?_; (with_reducible refine (hopmeshref03_Syndrome.calls k a0 t116 t117 _ A2.out).mono ?_); rintro e w' ⟨rfl, ⟨nd, rfl⟩⟩; refine ⟨_, rfl, ?_⟩))
          go_ret2
          exact ⟨by first | rfl | (simp; done) | (simp only [← hji5] <;> (first | rfl | simp)) | (simp [*]; done), by repeat (first | exact Drawn0.refl _ | apply Drawn0.step)⟩
        · rw [if_neg c7] at H
          exact absurd H (by simp)
      · rw [if_neg c6] at H
        exact absurd H (by simp)
    · rw [if_neg c4] at H
      have c4b0 : (t116 == 0) = false := beq_eq_false_iff_ne.mpr c4
      have c4b1 : (t116 != 0) = true := bne_iff_ne.mpr c4
      simp only [Option.some.injEq, Prod.mk.injEq] at H
      obtain ⟨rfl, rfl⟩ := H
      go_enter Try.func43, Try.ntmps43
      go_wp2_with (first | ((with_reducible refine gate_callee (f := 72) rfl ?_); refine goesL_ (some 8) rfl rfl Try.func72 (by kernel_rfl) rfl #[.string a0] rfl (by (try simp only [List.map_toArray, List.map_cons, List.map_nil]); first | done | rfl | (simp only [List.length_drop, List.length_take]; rfl)) ?_; (with_reducible refine (hopmeshref03_Syndrome.calls k a0 t116 t117 _ A2.out).mono ?_); rintro e w' ⟨rfl, ⟨nd, rfl⟩⟩; refine ⟨_, rfl, ?_⟩))
      go_ret2
      exact ⟨by first | rfl | (simp; done) | (simp [*]; done), by repeat (first | exact Drawn0.refl _ | apply Drawn0.step)⟩
  · rw [if_neg c3] at H
    have c3b0 : (t117 == 0) = false := beq_eq_false_iff_ne.mpr c3
    have c3b1 : (t117 != 0) = true := bne_iff_ne.mpr c3
    simp only [Option.some.injEq, Prod.mk.injEq] at H
    obtain ⟨rfl, rfl⟩ := H
    go_enter Try.func43, Try.ntmps43
    go_wp2_with (first | ((with_reducible refine gate_callee (f := 72) rfl ?_); refine goesL_ (some 8) rfl rfl Try.func72 (by kernel_rfl) rfl #[.string a0] rfl (by (try simp only [List.map_toArray, List.map_cons, List.map_nil]); first | done | rfl | (simp only [List.length_drop, List.length_take]; rfl)) ?_; (with_reducible refine (hopmeshref03_Syndrome.calls k a0 t116 t117 _ A2.out).mono ?_); rintro e w' ⟨rfl, ⟨nd, rfl⟩⟩; refine ⟨_, rfl, ?_⟩))
    go_ret2
    exact ⟨by first | rfl | (simp; done) | (simp [*]; done), by repeat (first | exact Drawn0.refl _ | apply Drawn0.step)⟩

end Go.Proofs.Ytbgnkjaikbhdoaa.Q

-- Q
namespace Go.Proofs.Ytbgnkjaikbhdoaa.Q
open Go.RowKit Go.Proofs.YtbgnkjaikbhdoaaW.PrintWords Go.Proofs.YtbgnkjaikbhdoaaW.PrintLast Go.Proofs.YtbgnkjaikbhdoaaW.PrintMore
attribute [local go_sem] max2_int min2_int max_two min_two max_three min_three max_four min_four   -- for this text's walks alone
set_option linter.unusedVariables false
set_option linter.unusedSimpArgs false

end Go.Proofs.Ytbgnkjaikbhdoaa.Q
