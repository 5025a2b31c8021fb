/- From pairs to the printed text's places. (cut to what is reached: wip/tools/slimout2.py) -/
import Derived.Test.YtjjcgjpmhhkeaaaSFCmO
import Derived.Test.YtjjcgjpmhhkeaaaSFCmK
import Derived.Test.YtjjcgjpmhhkeaaaSFB6
namespace Go.Proofs.Ytjjcgjpmhhkeaaa.CmQ
set_option linter.unusedSimpArgs false
set_option linter.unusedVariables false
open Go.RowKit Go.Proofs.Ytjjcgjpmhhkeaaa.CmF Go.Proofs.Ytjjcgjpmhhkeaaa.CmS Go.Proofs.Ytjjcgjpmhhkeaaa.CmO Go.Proofs.Ytjjcgjpmhhkeaaa.CmP Go.Proofs.Ytjjcgjpmhhkeaaa.CmK Go.Proofs.YtjjcgjpmhhkeaaaW.PrintWords Go.Proofs.YtjjcgjpmhhkeaaaW.PrintMore
abbrev S := Go.Proofs.Ytjjcgjpmhhkeaaa.B.S37
def un (p : Int × Int) : S := ⟨p.1, p.2⟩
def pq (x : S) : Int × Int := (x.f0, x.f1)
theorem pq_un (l : List (Int × Int)) : (l.map un).map pq = l := by
  rw [List.map_map]; exact List.map_id' l
theorem toB {A : Option Addr} {w : World} {l : List (Int × Int)} (h : Sp w A l) : Kd.C Go.Proofs.Ytjjcgjpmhhkeaaa.B.k37 w A (l.map un).length (l.map un) := by
  rw [List.length_map]
  refine map_C (d := kp) (f := pq) ?_
  rw [pq_un]; exact h
end Go.Proofs.Ytjjcgjpmhhkeaaa.CmQ
