/- Messages and places that came in: opened. (cut to what is reached: wip/tools/slimout2.py) -/
import Derived.Test.YtjjcgjpmhhkeaaaSFOpn
import Derived.Test.YtjjcgjpmhhkeaaaSFCmS
import Derived.Deep.SlicePairs
namespace Go.Proofs.Ytjjcgjpmhhkeaaa.CmO
set_option linter.unusedSimpArgs false
set_option linter.unusedVariables false
open Go.ChangeShapes Go.WideShapes Go.ChangeAt Go.RowKit Go.Proofs.Ytjjcgjpmhhkeaaa.Opn Go.Proofs.Ytjjcgjpmhhkeaaa.CmF Go.Proofs.Ytjjcgjpmhhkeaaa.CmS Go.Proofs.YtjjcgjpmhhkeaaaW.PrintWords
variable {H : Type} {enc : TypeId × Value → H} {w : World}
def numOf : Value → Int
  | .int _ n => n
  | _ => 0
theorem rd_spots {c : Value} (h : Rd enc Try.prog w 22 [c]) : ∃ (A : Option Addr) (l : List (Int × Int)) (cap : Nat), c = .slice A l.length cap ∧ Sp w A l ∧ l.length ≤ cap := by
  obtain ⟨fuel, x, h⟩ := h
  rcases Go.Deep.open_slice_pairs Try.underlying22 Try.underlying37 (by kernel_rfl) rfl rfl (by kernel_rfl) (by kernel_rfl) h with ⟨hcs, _⟩ | ⟨a, len, cap, m, n, V0, V1, D0, D1, P0, P1, hcs, _, hl, hm, hmm, _, hx⟩
  · simp at hcs
    exact ⟨none, [], 0, by simpa using hcs, ⟨rfl, by simp, fun h => by simp at h⟩, Nat.le_refl _⟩
  · simp at hcs
    have hlm : len ≤ m := by rw [hmm]; split <;> omega
    refine ⟨some a, (List.range len).map fun i => (numOf (V0 i), numOf (V1 i)), cap, by simpa using hcs, ⟨rfl, ?_, fun _ => ⟨a, rfl, fun j p hp => ?_⟩⟩, by simpa using hl⟩
    · rw [List.length_map, List.length_range]; simp only [maxLen] at hm; omega
    · rw [List.getElem?_map] at hp
      obtain ⟨q, hq, rfl⟩ := Option.map_eq_some_iff.1 hp
      obtain ⟨hj, rfl⟩ := List.getElem?_eq_some_iff.1 hq
      rw [List.length_range] at hj
      rw [List.getElem_range]
      obtain ⟨h1, h2, h3, h4⟩ := hx j (by omega)
      obtain ⟨n1, g1, _, w1⟩ := DataW.trod_int Try.underlying3 h3
      obtain ⟨n2, g2, _, w2⟩ := DataW.trod_int Try.underlying3 h4
      obtain e1 : V0 j = .int .i64 n1 := by simpa using g1
      obtain e2 : V1 j = .int .i64 n2 := by simpa using g2
      refine ⟨[V0 j, V1 j], rfl, ?_, fun i u hu => ?_⟩
      · rw [e1, e2]
        exact ⟨[.int .i64 n1], [.int .i64 n2], rfl, rfl, rfl⟩
      · match i, hu with
        | 0, hu => cases hu; exact h1
        | 1, hu => cases hu; exact h2
        | i + 2, hu => simp at hu
structure MsIn (w : World) (A : Option Addr) (l : List (Int × Int)) (c : Nat) (B : Option Addr) (m : List (Int × Int)) (d : Nat) : Prop where
  hl : Sp w A l
  hc : l.length ≤ c
  hm : Sp w B m
  hd : m.length ≤ d
theorem open_msg {r : Reach} {base : Nat} {v : Value} (hv : Value.okWide Try.prog w r base 24 v) (h : Rd enc Try.prog w 24 v.cells.toList) :
    ∃ (k : Int) (r : Bool) (n cd ct : Int) (A : Option Addr) (l : List (Int × Int)) (c : Nat) (B : Option Addr) (m : List (Int × Int)) (d : Nat), v = .agg (ms k r n cd ct A l.length c B m.length d) ∧ MsIn w A l c B m d := by
  obtain ⟨cs, rfl, hn⟩ := okWide_struct Try.underlying24 hv
  have g := rd_struct Try.underlying24 h
  have hc : Try.prog.cellsOf 24 = 7 := by kernel_rfl
  rw [hc] at hn
  obtain ⟨c0, c1, c2, c3, c4, c5, c6, rfl⟩ := cells7 hn
  have e0 : Rd enc Try.prog w 3 [c0] := g 0 _ rfl
  have e1 : Rd enc Try.prog w 4 [c1] := g 1 _ rfl
  have e2 : Rd enc Try.prog w 3 [c2] := g 2 _ rfl
  have e3 : Rd enc Try.prog w 3 [c3] := g 3 _ rfl
  have e4 : Rd enc Try.prog w 3 [c4] := g 4 _ rfl
  have e5 : Rd enc Try.prog w 22 [c5] := g 5 _ rfl
  have e6 : Rd enc Try.prog w 22 [c6] := g 6 _ rfl
  obtain ⟨a0, rfl, _⟩ := rd_int Try.underlying3 e0
  obtain ⟨a1, rfl⟩ := rd_bool Try.underlying4 e1
  obtain ⟨a2, rfl, _⟩ := rd_int Try.underlying3 e2
  obtain ⟨a3, rfl, _⟩ := rd_int Try.underlying3 e3
  obtain ⟨a4, rfl, _⟩ := rd_int Try.underlying3 e4
  obtain ⟨A, l, c, rfl, h5, q5⟩ := rd_spots e5
  obtain ⟨B, m, d, rfl, h6, q6⟩ := rd_spots e6
  exact ⟨a0, a1, a2, a3, a4, A, l, c, B, m, d, rfl, h5, q5, h6, q6⟩
end Go.Proofs.Ytjjcgjpmhhkeaaa.CmO
