/- What the printed functions of bitio.Reader, cellmsg.places and cellmsg.Decode come to. (cut to what is reached: wip/tools/slimout2.py) -/
import Derived.Test.YtjjcgjpmhhkeaaaSFH0
import Derived.Test.YtjjcgjpmhhkeaaaSFCmBk
import Derived.Laws.BitsAllLaws
namespace Go.Proofs.Ytjjcgjpmhhkeaaa.CmHe
set_option linter.unusedSimpArgs false
set_option linter.unusedVariables false
open Go.RowKit Go.Proofs.Ytjjcgjpmhhkeaaa.H Go.Proofs.Ytjjcgjpmhhkeaaa.Pack Go.Proofs.Ytjjcgjpmhhkeaaa.WrPut Go.Proofs.Ytjjcgjpmhhkeaaa.Rd Go.Proofs.Ytjjcgjpmhhkeaaa.CmK Go.Proofs.Ytjjcgjpmhhkeaaa.CmP Go.Proofs.Ytjjcgjpmhhkeaaa.CmS Go.Proofs.Ytjjcgjpmhhkeaaa.CmBk Go.Proofs.YtjjcgjpmhhkeaaaW.PrintWords Go.Proofs.YtjjcgjpmhhkeaaaW.PrintLast Go.Proofs.YtjjcgjpmhhkeaaaW.PrintMore
open Go.Proofs.Ytjjcgjpmhhkeaaa.Bytes (Str)
theorem wr {a : Int} (h0 : -9223372036854775808 ≤ a) (h1 : a ≤ 9223372036854775807) : wrap64 a = a := by unfold wrap64; omega
def un (p : Int × Int) : S37 := ⟨p.1, p.2⟩
end Go.Proofs.Ytjjcgjpmhhkeaaa.CmHe
