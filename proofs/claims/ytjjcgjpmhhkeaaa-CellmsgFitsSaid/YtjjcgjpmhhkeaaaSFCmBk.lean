/- Messages: reading what was written, and writing what was read: plain. (cut to what is reached: wip/tools/slimout2.py) -/
import Derived.Test.YtjjcgjpmhhkeaaaSFCmK
import Derived.Test.YtjjcgjpmhhkeaaaSFRd
namespace Go.Proofs.Ytjjcgjpmhhkeaaa.CmBk
set_option linter.unusedSimpArgs false
set_option linter.unusedVariables false
open Go.Proofs.Ytjjcgjpmhhkeaaa.Pack Go.Proofs.Ytjjcgjpmhhkeaaa.Rd Go.Proofs.Ytjjcgjpmhhkeaaa.CmH Go.Proofs.Ytjjcgjpmhhkeaaa.CmS Go.Proofs.Ytjjcgjpmhhkeaaa.CmP Go.Proofs.Ytjjcgjpmhhkeaaa.CmK
theorem bitsAt_add (p : List UInt8) (i a b : Nat) : bitsAt p i (a + b) = bitsAt p i a ++ bitsAt p (i + a) b := by
  induction b with
  | zero => simp [bitsAt]
  | succ b ih => rw [← Nat.add_assoc, bitsAt_succ, ih, bitsAt_succ, List.append_assoc, Nat.add_assoc]
def Seg (p : List UInt8) (i j : Nat) (bs : List Bool) : Prop := i ≤ j ∧ j ≤ 8 * p.length ∧ bs = bitsAt p i (j - i)
theorem Seg.trans {p : List UInt8} {i j k : Nat} {a b : List Bool} (h : Seg p i j a) (h2 : Seg p j k b) : Seg p i k (a ++ b) := by
  obtain ⟨x1, x2, x3⟩ := h
  obtain ⟨y1, y2, y3⟩ := h2
  refine ⟨by omega, y2, ?_⟩
  rw [x3, y3, show k - i = (j - i) + (k - j) by omega, bitsAt_add, show i + (j - i) = j by omega]
structure Ms where
  (k : Int) (r : Bool) (n cd ct : Int) (l m : List (Int × Int))
def Ms.zero : Ms := ⟨0, false, 0, 0, 0, [], []⟩
def Ms.chk (x : Ms) : Int := chkF x.k x.r x.n x.cd x.ct x.l x.m
def Ms.bits (x : Ms) : List Bool := msBits x.k x.r x.n x.cd x.ct x.l x.m
end Go.Proofs.Ytjjcgjpmhhkeaaa.CmBk
