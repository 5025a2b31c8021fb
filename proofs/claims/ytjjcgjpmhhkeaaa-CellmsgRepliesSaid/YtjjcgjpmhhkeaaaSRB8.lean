/- ! ### hopmeshlaw25_CellmsgAnswers: function 5 (cut to what is reached: wip/tools/slimout.py) -/
import Derived.Test.YtjjcgjpmhhkeaaaSRB0
import Derived.Test.YtjjcgjpmhhkeaaaSRB3
import Derived.Test.YtjjcgjpmhhkeaaaSRB6
import Derived.Test.YtjjcgjpmhhkeaaaSRB7
namespace Go.Proofs.Ytjjcgjpmhhkeaaa.B
open Go.RowKit Go.Proofs.YtjjcgjpmhhkeaaaW.PrintWords Go.Proofs.YtjjcgjpmhhkeaaaW.PrintLast Go.Proofs.YtjjcgjpmhhkeaaaW.PrintMore
attribute [local go_sem] max2_int min2_int max_two min_two max_three min_three max_four min_four   -- for this text's walks alone
set_option linter.unusedVariables false
set_option linter.unusedSimpArgs false
end Go.Proofs.Ytjjcgjpmhhkeaaa.B
