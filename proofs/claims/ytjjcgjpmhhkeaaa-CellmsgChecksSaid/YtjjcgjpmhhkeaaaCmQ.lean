/- From pairs to the printed text's places. -/
import Derived.Test.YtjjcgjpmhhkeaaaCmO
import Derived.Test.YtjjcgjpmhhkeaaaCmK
import Derived.Test.YtjjcgjpmhhkeaaaB6
namespace Go.Proofs.Ytjjcgjpmhhkeaaa.CmQ
set_option linter.unusedSimpArgs false
set_option linter.unusedVariables false
open Go.RowKit Go.Proofs.Ytjjcgjpmhhkeaaa.CmF Go.Proofs.Ytjjcgjpmhhkeaaa.CmS Go.Proofs.Ytjjcgjpmhhkeaaa.CmO Go.Proofs.Ytjjcgjpmhhkeaaa.CmP Go.Proofs.Ytjjcgjpmhhkeaaa.CmK Go.Proofs.YtjjcgjpmhhkeaaaW.PrintWords Go.Proofs.YtjjcgjpmhhkeaaaW.PrintMore
abbrev S := Go.Proofs.Ytjjcgjpmhhkeaaa.B.S37
def un (p : Int × Int) : S := ⟨p.1, p.2⟩
def pq (x : S) : Int × Int := (x.f0, x.f1)
theorem pq_un (l : List (Int × Int)) : (l.map un).map pq = l := by
  rw [List.map_map]; exact List.map_id' l
theorem toB {A : Option Addr} {w : World} {l : List (Int × Int)} (h : Sp w A l) : Kd.C Go.Proofs.Ytjjcgjpmhhkeaaa.B.k37 w A (l.map un).length (l.map un) := by
  rw [List.length_map]
  refine map_C (d := kp) (f := pq) ?_
  rw [pq_un]; exact h
theorem checks_f (a : Int) (r : Bool) (n cd ct : Int) (l m : List S) : Go.Proofs.Ytjjcgjpmhhkeaaa.B.hopmeshlaw25_CellmsgChecks.f 40 a r n cd ct l m = some true := by
  unfold Go.Proofs.Ytjjcgjpmhhkeaaa.B.hopmeshlaw25_CellmsgChecks.f
  rw [Go.Proofs.Ytjjcgjpmhhkeaaa.B.hopmeshlaw25_awake.is]
  simp only [Option.bind_some, reduceIte, Go.Proofs.Ytjjcgjpmhhkeaaa.B.hopmeshref25_Few.f, Go.Proofs.Ytjjcgjpmhhkeaaa.B.cellmsg_Check.f, Go.Proofs.Ytjjcgjpmhhkeaaa.B.hopmeshref25_Check.f]
  split
  · rw [Option.bind_some]
    split
    · simp
    · rfl
  · simp
theorem checks (k : Int) (r : Bool) (n cd ct : Int) (A : Option Addr) (l : List (Int × Int)) (c : Nat) (B : Option Addr) (m : List (Int × Int)) (d : Nat) (w : World) (h : MsIn w A l c B m d) :
    Calls Try.prog 3 #[.agg (ms k r n cd ct A l.length c B m.length d)] w fun e w' => e = .returned (.bool true) ∧ Below w.heap.size w w' := by
  have := Go.Proofs.Ytjjcgjpmhhkeaaa.B.hopmeshlaw25_CellmsgChecks.calls 40 k r n cd ct A c (l.map un) B d (m.map un) true w (toB h.hl) (by simpa using h.hc) (toB h.hm) (by simpa using h.hd) (checks_f ..)
  rw [List.length_map, List.length_map] at this
  exact this
end Go.Proofs.Ytjjcgjpmhhkeaaa.CmQ
