/- Lists of places in memory, and the bits of a message. (cut to what is reached: wip/tools/slimout2.py) -/
import Derived.Test.YtjjcgjpmhhkeaaaSFCmF
import Derived.Test.YtjjcgjpmhhkeaaaSFWrAll
import Derived.Test.YtjjcgjpmhhkeaaaSFWx
namespace Go.Proofs.Ytjjcgjpmhhkeaaa.CmS
set_option linter.unusedSimpArgs false
set_option linter.unusedVariables false
open Go.RowKit Go.Proofs.Ytjjcgjpmhhkeaaa.Pack Go.Proofs.Ytjjcgjpmhhkeaaa.CmF Go.Proofs.YtjjcgjpmhhkeaaaW.PrintWords
def kp : Kd (Int × Int) := Kd.pair (Kd.int .i64) (Kd.int .i64)
theorem kp_open {w : World} {x : Int × Int} {cs : List Value} (h : kp.K w x cs) : cs = [.int .i64 x.1, .int .i64 x.2] := by
  obtain ⟨_, _, rfl, rfl, rfl⟩ := h
  rfl
abbrev Sp (w : World) (A : Option Addr) (l : List (Int × Int)) : Prop := kp.C w A l.length l
theorem Sp.below {w w1 : World} {A : Option Addr} {l : List (Int × Int)} (h : Sp w A l) (hb : Below w.heap.size w w1) : Sp w1 A l := Kd.C_below h hb
theorem Sp.at_ {w : World} {A : Option Addr} {l : List (Int × Int)} (h : Sp w A l) (i : Nat) (hi : i < l.length) :
    ∃ ad, A = some ad ∧ w.cell? (ad.add (i * 2)) = some (.int .i64 (l.getD i (0, 0)).1) ∧ w.cell? ⟨(ad.add (i * 2)).block, (ad.add (i * 2)).off + 1, none⟩ = some (.int .i64 (l.getD i (0, 0)).2) := by
  obtain ⟨ad, c, e, _, hK, hc0⟩ := Kd.C_get h (0, 0) (i : Int) (by omega) (by omega)
  have hc : ∀ j u, c[j]? = some u → w.cell? (ad.add (i * 2 + j)) = some u := by
    have hz : kp.sz = 2 := rfl
    simpa [hz] using hc0
  rw [Int.toNat_natCast] at hK
  obtain rfl := kp_open hK
  exact ⟨ad, e, hc 0 _ rfl, by rw [← add_field _ _ 1 (by omega)]; exact hc 1 _ rfl⟩
def plBits (p : Int × Int) : List Bool := bitsN 9 p.1.toNat ++ bitsN 4 p.2.toNat
def plsBits (l : List (Int × Int)) : List Bool := l.flatMap plBits
def lsBits (l : List (Int × Int)) : List Bool := bitsN 4 l.length ++ plsBits l
def hdBits (k : Int) (r : Bool) (n cd ct : Int) : List Bool := bitsN 3 k.toNat ++ [r] ++ bitsN 8 n.toNat ++ bitsN 2 cd.toNat ++ bitsN 10 ct.toNat
def msBits (k : Int) (r : Bool) (n cd ct : Int) (l m : List (Int × Int)) : List Bool := hdBits k r n cd ct ++ lsBits l ++ lsBits m
theorem plsBits_length (l : List (Int × Int)) : (plsBits l).length = 13 * l.length := by
  induction l with
  | nil => rfl
  | cons a l ih => simp only [plsBits, List.flatMap_cons, List.length_append, plBits, bitsN_length, List.length_cons] at ih ⊢; omega
theorem plsBits_snoc (l : List (Int × Int)) (p : Int × Int) : plsBits (l ++ [p]) = plsBits l ++ plBits p := by simp [plsBits]
theorem hdBits_length (k : Int) (r : Bool) (n cd ct : Int) : (hdBits k r n cd ct).length = 24 := by simp [hdBits, bitsN_length]
theorem lsBits_length (l : List (Int × Int)) : (lsBits l).length = 4 + 13 * l.length := by simp [lsBits, bitsN_length, plsBits_length]
def PlOk (l : List (Int × Int)) : Prop := ∀ p ∈ l, 0 ≤ p.1 ∧ p.1 ≤ 511 ∧ 0 ≤ p.2 ∧ p.2 ≤ 15
end Go.Proofs.Ytjjcgjpmhhkeaaa.CmS
