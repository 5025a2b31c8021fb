/- What the printed functions of the reference's reader come to: its fields at a place, with the string gone behind an error. (cut to what is reached: wip/tools/slimout2.py) -/
import Derived.Test.YtjjcgjpmhhkeaaaSFD0
import Derived.Test.YtjjcgjpmhhkeaaaSFRd
import Derived.Laws.BitsAllLaws
namespace Go.Proofs.Ytjjcgjpmhhkeaaa.RfEvD
set_option linter.unusedSimpArgs false
set_option linter.unusedVariables false
open Go.RowKit Go.Proofs.Ytjjcgjpmhhkeaaa.D Go.Proofs.Ytjjcgjpmhhkeaaa.Pack Go.Proofs.Ytjjcgjpmhhkeaaa.WrPut Go.Proofs.Ytjjcgjpmhhkeaaa.Rd Go.Proofs.YtjjcgjpmhhkeaaaW.PrintWords Go.Proofs.YtjjcgjpmhhkeaaaW.PrintLast Go.Proofs.YtjjcgjpmhhkeaaaW.PrintMore
open Go.Proofs.Ytjjcgjpmhhkeaaa.Bytes (Str)
theorem wr {a : Int} (h0 : -9223372036854775808 ≤ a) (h1 : a ≤ 9223372036854775807) : wrap64 a = a := by unfold wrap64; omega
def S (l : List UInt8) (e : Int) : ByteArray := if e = 0 then Str l else ⟨#[]⟩
def P (i : Nat) (e : Int) : Int := if e = 0 then (i : Int) else 0
end Go.Proofs.Ytjjcgjpmhhkeaaa.RfEvD
