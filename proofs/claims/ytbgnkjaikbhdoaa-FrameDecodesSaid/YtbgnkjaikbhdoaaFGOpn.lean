/- Reading a value that came in, cell by cell: structs, arrays, slices. (cut to what is reached: wip/tools/slimout2.py) -/
import Derived.Test.YtbgnkjaikbhdoaaRows
import Derived.WalkKit
import Derived.ProofKit
import Derived.OpenShut
import Derived.ShutString
import Derived.ChangeOld
import Derived.Below
namespace Go.Proofs.Ytbgnkjaikbhdoaa.Opn
open Go.ChangeShapes Go.WideShapes Go.ChangeAt Go.RowKit
variable {H : Type} {enc : TypeId × Value → H} {P : Program} {w : World}
def Rd (enc : TypeId × Value → H) (P : Program) (w : World) (t : TypeId) (cs : List Value) : Prop :=
  ∃ n x, DataW.trod enc P w 0 (fun _ => true) true n t cs = some x
end Go.Proofs.Ytbgnkjaikbhdoaa.Opn
namespace Go.Proofs.Ytbgnkjaikbhdoaa.Opn
open Go.ChangeShapes Go.WideShapes Go.ChangeAt Go.RowKit
end Go.Proofs.Ytbgnkjaikbhdoaa.Opn
