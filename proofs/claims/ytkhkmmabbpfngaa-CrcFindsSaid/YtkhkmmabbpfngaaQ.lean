-- Written by a program of this session (wip/print2.py, over the kit's print) out of the translation. Lean checks it.
import Derived.Test.YtkhkmmabbpfngaaQ0
import Derived.Test.YtkhkmmabbpfngaaQ1
import Derived.Test.YtkhkmmabbpfngaaQ2
import Derived.Test.YtkhkmmabbpfngaaQ3
import Derived.Test.YtkhkmmabbpfngaaQ4
import Derived.Test.YtkhkmmabbpfngaaQ5
namespace Go.Proofs.Ytkhkmmabbpfngaa.Q
open Go.RowKit Go.Proofs.YtkhkmmabbpfngaaW.PrintWords Go.Proofs.YtkhkmmabbpfngaaW.PrintLast Go.Proofs.YtkhkmmabbpfngaaW.PrintMore
attribute [local go_sem] max2_int min2_int max_two min_two max_three min_three max_four min_four   -- for this text's walks alone
set_option linter.unusedVariables false
set_option linter.unusedSimpArgs false

end Go.Proofs.Ytkhkmmabbpfngaa.Q
