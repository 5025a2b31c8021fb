/- The walk of CellmsgBytes, out of the print's text. (cut to what is reached: wip/tools/slimout2.py) -/
import Derived.Test.YtjjcgjpmhhkeaaaSBCmO
import Derived.Test.YtjjcgjpmhhkeaaaSBCmW
import Derived.Test.YtjjcgjpmhhkeaaaSBC6
namespace Go.Proofs.Ytjjcgjpmhhkeaaa.CmB
set_option linter.unusedSimpArgs false
set_option linter.unusedVariables false
open Go.RowKit Go.Proofs.Ytjjcgjpmhhkeaaa.CmF Go.Proofs.Ytjjcgjpmhhkeaaa.CmS Go.Proofs.Ytjjcgjpmhhkeaaa.CmO Go.Proofs.Ytjjcgjpmhhkeaaa.CmP Go.Proofs.Ytjjcgjpmhhkeaaa.CmK Go.Proofs.YtjjcgjpmhhkeaaaW.PrintWords Go.Proofs.YtjjcgjpmhhkeaaaW.PrintMore
abbrev S := Go.Proofs.Ytjjcgjpmhhkeaaa.C.S37
def un (p : Int × Int) : S := ⟨p.1, p.2⟩
def pq (x : S) : Int × Int := (x.f0, x.f1)
theorem pq_un (l : List (Int × Int)) : (l.map un).map pq = l := by
  rw [List.map_map]; exact List.map_id' l
theorem toC {A : Option Addr} {w : World} {l : List (Int × Int)} (h : Sp w A l) : Kd.C Go.Proofs.Ytjjcgjpmhhkeaaa.C.k37 w A (l.map un).length (l.map un) := by
  rw [List.length_map]
  refine map_C (d := kp) (f := pq) ?_
  rw [pq_un]; exact h
theorem bytes_f (a : Int) (r : Bool) (n cd ct : Int) (l m : List S) : Go.Proofs.Ytjjcgjpmhhkeaaa.C.hopmeshlaw25_CellmsgBytes.f 40 a r n cd ct l m = some true := by
  unfold Go.Proofs.Ytjjcgjpmhhkeaaa.C.hopmeshlaw25_CellmsgBytes.f
  rw [Go.Proofs.Ytjjcgjpmhhkeaaa.C.hopmeshlaw25_awake.is]
  simp only [Option.bind_some, reduceIte, Go.Proofs.Ytjjcgjpmhhkeaaa.C.hopmeshref25_Few.f, Go.Proofs.Ytjjcgjpmhhkeaaa.C.cellmsg_Encode.f, Go.Proofs.Ytjjcgjpmhhkeaaa.C.hopmeshref25_Encode.f]
  split
  · rw [Option.bind_some]
    split
    · simp
    · rfl
  · simp
theorem walk (k : Int) (r : Bool) (n cd ct : Int) (A : Option Addr) (l : List (Int × Int)) (c : Nat) (B : Option Addr) (m : List (Int × Int)) (d : Nat) (w : World) (h : MsIn w A l c B m d) :
    Calls Try.prog 4 #[.agg (ms k r n cd ct A l.length c B m.length d)] w fun e w' => e = .returned (.bool true) ∧ Below w.heap.size w w' := by
  have := Go.Proofs.Ytjjcgjpmhhkeaaa.C.hopmeshlaw25_CellmsgBytes.calls 40 k r n cd ct A c (l.map un) B d (m.map un) true w (toC h.hl) (by simpa using h.hc) (toC h.hm) (by simpa using h.hd) (bytes_f ..)
  rw [List.length_map, List.length_map] at this
  exact this
end Go.Proofs.Ytjjcgjpmhhkeaaa.CmB
