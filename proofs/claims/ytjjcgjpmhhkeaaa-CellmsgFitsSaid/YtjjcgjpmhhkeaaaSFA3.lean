/- ! ### hopmeshref25_places: function 29 (cut to what is reached: wip/tools/slimout2.py) -/
import Derived.Test.YtjjcgjpmhhkeaaaSFA0
namespace Go.Proofs.Ytjjcgjpmhhkeaaa.A
open Go.RowKit Go.Proofs.YtjjcgjpmhhkeaaaW.PrintWords Go.Proofs.YtjjcgjpmhhkeaaaW.PrintLast Go.Proofs.YtjjcgjpmhhkeaaaW.PrintMore
attribute [local go_sem] max2_int min2_int max_two min_two max_three min_three max_four min_four   -- for this text's walks alone
set_option linter.unusedVariables false
set_option linter.unusedSimpArgs false
end Go.Proofs.Ytjjcgjpmhhkeaaa.A
