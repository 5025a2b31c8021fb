-- Written by a program of this session (wip/print2.py, over the kit's print) out of the translation. Lean checks it.
import Derived.Test.YtkhkmmabbpfngaaProg
import Derived.Below
import Derived.Deep.Draws
import Derived.Deep.AppendLies
import Derived.Maps.AppendAt
import Derived.OwnWalk
import Derived.Laws.BytesArg
import Derived.Laws.MakeOwn
import Derived.Laws.OwnMore
import Derived.Deep.OwnRows
import Derived.Tactics
import Derived.Lib.ConvBytes
import Derived.Laws.Slices
import Derived.WalkKit
import Derived.KernelRfl
import Derived.RowKit3
import Derived.Deep.LoopGhost
import Derived.Deep.QuietTactic
import Derived.BigQuiet
import Derived.WideLaws
import Derived.Deep.DeepCutAuto
import Derived.Deep.CutBlock
import Derived.Deep.RegionHeld3
import Derived.Laws.Rows
import Derived.Lib.AppendStr
import Derived.ArgAppend
import Derived.Laws.IdiomCopy
import Derived.OrdersHeld
import Derived.Laws.BitsLemmas
import Derived.RowKit
import Derived.Test.YtkhkmmabbpfngaaCrcA
import Derived.Test.YtkhkmmabbpfngaaWWords
import Derived.Test.YtkhkmmabbpfngaaWLast
import Derived.Test.YtkhkmmabbpfngaaWTab
import Derived.Test.YtkhkmmabbpfngaaWFour
import Derived.Test.YtkhkmmabbpfngaaWQPut
import Derived.Test.YtkhkmmabbpfngaaWApart
import Derived.Test.YtkhkmmabbpfngaaWArr
import Derived.Test.YtkhkmmabbpfngaaWZeros
import Derived.Test.YtkhkmmabbpfngaaWFoot
import Derived.Test.YtkhkmmabbpfngaaWKept
import Derived.Test.YtkhkmmabbpfngaaWShare
import Derived.Test.YtkhkmmabbpfngaaWN
import Derived.Test.YtkhkmmabbpfngaaWFootNe
import Derived.Test.YtkhkmmabbpfngaaWAt
import Derived.Test.YtkhkmmabbpfngaaWEqStruct
import Derived.Test.YtkhkmmabbpfngaaWRepsOne
import Derived.Test.YtkhkmmabbpfngaaWInv
import Derived.Test.YtkhkmmabbpfngaaWInvWords
import Derived.Test.YtkhkmmabbpfngaaWGuard
import Derived.Test.YtkhkmmabbpfngaaWNEv
import Derived.Test.YtkhkmmabbpfngaaWMore
import Derived.Test.YtkhkmmabbpfngaaWSized
namespace Go.Proofs.Ytkhkmmabbpfngaa.Q
open Go.RowKit Go.Proofs.YtkhkmmabbpfngaaW.PrintWords Go.Proofs.YtkhkmmabbpfngaaW.PrintLast Go.Proofs.YtkhkmmabbpfngaaW.PrintMore
attribute [local go_sem] max2_int min2_int max_two min_two max_three min_three max_four min_four   -- for this text's walks alone
set_option linter.unusedVariables false
set_option linter.unusedSimpArgs false



def errW : Option Int → Value
  | none => .nilIface
  | some c => .iface 0 (.int .i64 c)
theorem errW_none : errW none = .nilIface := rfl
theorem errW_some (c : Int) : errW (some c) = .iface 0 (.int .i64 c) := rfl

theorem info5 : (Try.prog.info? 5).map (fun i => (i.zero, i.size, i.bytes)) = some (some (.int .u8 0), 1, 1) := by kernel_rfl
-- the values' own types

end Go.Proofs.Ytkhkmmabbpfngaa.Q
