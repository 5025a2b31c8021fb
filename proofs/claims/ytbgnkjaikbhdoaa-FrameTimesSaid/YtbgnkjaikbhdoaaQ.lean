-- Written by a program of this session (wip/print2.py, over the kit's print) out of the translation. Lean checks it.
import Derived.Test.YtbgnkjaikbhdoaaQ0
import Derived.Test.YtbgnkjaikbhdoaaQ1
namespace Go.Proofs.Ytbgnkjaikbhdoaa.Q
open Go.RowKit Go.Proofs.YtbgnkjaikbhdoaaW.PrintWords Go.Proofs.YtbgnkjaikbhdoaaW.PrintLast Go.Proofs.YtbgnkjaikbhdoaaW.PrintMore
attribute [local go_sem] max2_int min2_int max_two min_two max_three min_three max_four min_four   -- for this text's walks alone
set_option linter.unusedVariables false
set_option linter.unusedSimpArgs false

end Go.Proofs.Ytbgnkjaikbhdoaa.Q
