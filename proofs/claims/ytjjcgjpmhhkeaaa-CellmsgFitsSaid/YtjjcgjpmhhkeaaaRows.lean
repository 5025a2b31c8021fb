/-
  No cell of these rows narrows 'for every input' (looked for: loops, veiled, ifaces, maps, wideKeys, modest, calm, conditions, laid).
  DERIVED. THE GIVEN ROWS OF THIS SEAT. 8 by the template 'for every input the law returns true; each argument reads behind the call as it read before'; 0 by the template 'total and deterministic' (their statements: YtjjcgjpmhhkeaaaTotals.lean).
  GIVEN WITH THE SEED: the statements are not yours to turn. If you find one false, say at which input.
  Laid BY PROGRAM, IN A SANDBOX (cutbox-rows.mjs): the forced cells as the released guide's own fill.sh prints them over the translation 049193c24efe3d32… (all of the seat's roots in one cut). By AI agents, Wed Nov 11 2026. No macro, syntax, notation, axiom, sorry.
-/
import Derived.Test.YtjjcgjpmhhkeaaaChecked
import GoSem.Claim
import GoSem.ClaimJoined
import GoSem.ClaimMapViews
import Derived.JoinedTies
import Derived.KernelRfl
namespace Go.Proofs.Ytjjcgjpmhhkeaaa
/- THE CELL 'sum', in the pinned program and in every row, IS THE sha256 OF THE DUMP (.gsa) THAT YtjjcgjpmhhkeaaaProg.lean LOADS. Nothing in Lean hashes anything: it is a label: what it is worth is what the hold of that sum in a sandbox is worth. -/
noncomputable def Try.pinned : Pinned := { name := "ytjjcgjpmhhkeaaa", sum := "049193c24efe3d324ef15f6aad4554bbb344ac42ecc782cf30ed21e709c4a6e5", checked := Try.checked }
namespace Rows
def none {H : Type} : Left H := { results := [], args := [] }

/-- 'hopmeshlaw25.CellmsgChecks': WHATEVER THE INPUT: true; the input reads as it did. -/
def cellmsgChecksSpec : ChangeSpec := { name := "cellmsgChecks", fn := fun _ => fun
  | [d] => { results := [.lit (.bool true)], args := [d] }
  | _ => none }
def cellmsgChecksRow : OpenClaim := { program := "ytjjcgjpmhhkeaaa", sum := "049193c24efe3d324ef15f6aad4554bbb344ac42ecc782cf30ed21e709c4a6e5", func := "hopmesh/hopmeshlaw25.CellmsgChecks", spec := "cellmsgChecks", unfollowed := true, recurses := true, apart := false }
def CellmsgChecksSaid : Prop := cellmsgChecksRow.holds Try.pinned (OpenSpec.ofChange cellmsgChecksSpec)

/-- ITS FALSE NEIGHBOUR: 'it returns false'. Refute it at one input. -/
def cellmsgChecksWrong : ChangeSpec := { name := "cellmsgChecks", fn := fun _ => fun
  | [d] => { results := [.lit (.bool false)], args := [d] }
  | _ => none }
def CellmsgChecksWrongFalsely : Prop := cellmsgChecksRow.holds Try.pinned (OpenSpec.ofChange cellmsgChecksWrong)

/-- 'hopmeshlaw25.CellmsgBytes': WHATEVER THE INPUT: true; the input reads as it did. -/
def cellmsgBytesSpec : ChangeSpec := { name := "cellmsgBytes", fn := fun _ => fun
  | [d] => { results := [.lit (.bool true)], args := [d] }
  | _ => none }
def cellmsgBytesRow : OpenClaim := { program := "ytjjcgjpmhhkeaaa", sum := "049193c24efe3d324ef15f6aad4554bbb344ac42ecc782cf30ed21e709c4a6e5", func := "hopmesh/hopmeshlaw25.CellmsgBytes", spec := "cellmsgBytes", unfollowed := true, recurses := true, apart := false }
def CellmsgBytesSaid : Prop := cellmsgBytesRow.holds Try.pinned (OpenSpec.ofChange cellmsgBytesSpec)

/-- ITS FALSE NEIGHBOUR: 'it returns false'. Refute it at one input. -/
def cellmsgBytesWrong : ChangeSpec := { name := "cellmsgBytes", fn := fun _ => fun
  | [d] => { results := [.lit (.bool false)], args := [d] }
  | _ => none }
def CellmsgBytesWrongFalsely : Prop := cellmsgBytesRow.holds Try.pinned (OpenSpec.ofChange cellmsgBytesWrong)

/-- 'hopmeshlaw25.CellmsgAnswers': WHATEVER THE INPUT: true; the input reads as it did. -/
def cellmsgAnswersSpec : ChangeSpec := { name := "cellmsgAnswers", fn := fun _ => fun
  | [d1, d2] => { results := [.lit (.bool true)], args := [d1, d2] }
  | _ => none }
def cellmsgAnswersRow : OpenClaim := { program := "ytjjcgjpmhhkeaaa", sum := "049193c24efe3d324ef15f6aad4554bbb344ac42ecc782cf30ed21e709c4a6e5", func := "hopmesh/hopmeshlaw25.CellmsgAnswers", spec := "cellmsgAnswers", unfollowed := true, recurses := true, apart := false }
def CellmsgAnswersSaid : Prop := cellmsgAnswersRow.holds Try.pinned (OpenSpec.ofChange cellmsgAnswersSpec)

/-- ITS FALSE NEIGHBOUR: 'it returns false'. Refute it at one input. -/
def cellmsgAnswersWrong : ChangeSpec := { name := "cellmsgAnswers", fn := fun _ => fun
  | [d1, d2] => { results := [.lit (.bool false)], args := [d1, d2] }
  | _ => none }
def CellmsgAnswersWrongFalsely : Prop := cellmsgAnswersRow.holds Try.pinned (OpenSpec.ofChange cellmsgAnswersWrong)

/-- 'hopmeshlaw25.CellmsgReplies': WHATEVER THE INPUT: true; the input reads as it did. -/
def cellmsgRepliesSpec : ChangeSpec := { name := "cellmsgReplies", fn := fun _ => fun
  | [d1, d2, d3, d4, d5] => { results := [.lit (.bool true)], args := [d1, d2, d3, d4, d5] }
  | _ => none }
def cellmsgRepliesRow : OpenClaim := { program := "ytjjcgjpmhhkeaaa", sum := "049193c24efe3d324ef15f6aad4554bbb344ac42ecc782cf30ed21e709c4a6e5", func := "hopmesh/hopmeshlaw25.CellmsgReplies", spec := "cellmsgReplies", unfollowed := true, recurses := true, apart := false }
def CellmsgRepliesSaid : Prop := cellmsgRepliesRow.holds Try.pinned (OpenSpec.ofChange cellmsgRepliesSpec)

/-- ITS FALSE NEIGHBOUR: 'it returns false'. Refute it at one input. -/
def cellmsgRepliesWrong : ChangeSpec := { name := "cellmsgReplies", fn := fun _ => fun
  | [d1, d2, d3, d4, d5] => { results := [.lit (.bool false)], args := [d1, d2, d3, d4, d5] }
  | _ => none }
def CellmsgRepliesWrongFalsely : Prop := cellmsgRepliesRow.holds Try.pinned (OpenSpec.ofChange cellmsgRepliesWrong)

/-- 'hopmeshlaw25.CellmsgFits': WHATEVER THE INPUT: true; the input reads as it did. -/
def cellmsgFitsSpec : ChangeSpec := { name := "cellmsgFits", fn := fun _ => fun
  | [d1, d2, d3, d4] => { results := [.lit (.bool true)], args := [d1, d2, d3, d4] }
  | _ => none }
def cellmsgFitsRow : OpenClaim := { program := "ytjjcgjpmhhkeaaa", sum := "049193c24efe3d324ef15f6aad4554bbb344ac42ecc782cf30ed21e709c4a6e5", func := "hopmesh/hopmeshlaw25.CellmsgFits", spec := "cellmsgFits", unfollowed := true, recurses := true, apart := false }
def CellmsgFitsSaid : Prop := cellmsgFitsRow.holds Try.pinned (OpenSpec.ofChange cellmsgFitsSpec)

/-- ITS FALSE NEIGHBOUR: 'it returns false'. Refute it at one input. -/
def cellmsgFitsWrong : ChangeSpec := { name := "cellmsgFits", fn := fun _ => fun
  | [d1, d2, d3, d4] => { results := [.lit (.bool false)], args := [d1, d2, d3, d4] }
  | _ => none }
def CellmsgFitsWrongFalsely : Prop := cellmsgFitsRow.holds Try.pinned (OpenSpec.ofChange cellmsgFitsWrong)

/-- 'hopmeshlaw25.CellmsgReads': WHATEVER THE INPUT: true; the input reads as it did. -/
def cellmsgReadsSpec : ChangeSpec := { name := "cellmsgReads", fn := fun _ => fun
  | [d] => { results := [.lit (.bool true)], args := [d] }
  | _ => none }
def cellmsgReadsRow : OpenClaim := { program := "ytjjcgjpmhhkeaaa", sum := "049193c24efe3d324ef15f6aad4554bbb344ac42ecc782cf30ed21e709c4a6e5", func := "hopmesh/hopmeshlaw25.CellmsgReads", spec := "cellmsgReads", unfollowed := true, recurses := true, apart := false }
def CellmsgReadsSaid : Prop := cellmsgReadsRow.holds Try.pinned (OpenSpec.ofChange cellmsgReadsSpec)

/-- ITS FALSE NEIGHBOUR: 'it returns false'. Refute it at one input. -/
def cellmsgReadsWrong : ChangeSpec := { name := "cellmsgReads", fn := fun _ => fun
  | [d] => { results := [.lit (.bool false)], args := [d] }
  | _ => none }
def CellmsgReadsWrongFalsely : Prop := cellmsgReadsRow.holds Try.pinned (OpenSpec.ofChange cellmsgReadsWrong)

/-- 'hopmeshlaw25.CellmsgBack': WHATEVER THE INPUT: true; the input reads as it did. -/
def cellmsgBackSpec : ChangeSpec := { name := "cellmsgBack", fn := fun _ => fun
  | [d1, d2] => { results := [.lit (.bool true)], args := [d1, d2] }
  | _ => none }
def cellmsgBackRow : OpenClaim := { program := "ytjjcgjpmhhkeaaa", sum := "049193c24efe3d324ef15f6aad4554bbb344ac42ecc782cf30ed21e709c4a6e5", func := "hopmesh/hopmeshlaw25.CellmsgBack", spec := "cellmsgBack", unfollowed := true, recurses := true, apart := false }
def CellmsgBackSaid : Prop := cellmsgBackRow.holds Try.pinned (OpenSpec.ofChange cellmsgBackSpec)

/-- ITS FALSE NEIGHBOUR: 'it returns false'. Refute it at one input. -/
def cellmsgBackWrong : ChangeSpec := { name := "cellmsgBack", fn := fun _ => fun
  | [d1, d2] => { results := [.lit (.bool false)], args := [d1, d2] }
  | _ => none }
def CellmsgBackWrongFalsely : Prop := cellmsgBackRow.holds Try.pinned (OpenSpec.ofChange cellmsgBackWrong)

/-- 'hopmeshlaw25.CellmsgBent': WHATEVER THE INPUT: true; the input reads as it did. -/
def cellmsgBentSpec : ChangeSpec := { name := "cellmsgBent", fn := fun _ => fun
  | [d1, d2, d3] => { results := [.lit (.bool true)], args := [d1, d2, d3] }
  | _ => none }
def cellmsgBentRow : OpenClaim := { program := "ytjjcgjpmhhkeaaa", sum := "049193c24efe3d324ef15f6aad4554bbb344ac42ecc782cf30ed21e709c4a6e5", func := "hopmesh/hopmeshlaw25.CellmsgBent", spec := "cellmsgBent", unfollowed := true, recurses := true, apart := false }
def CellmsgBentSaid : Prop := cellmsgBentRow.holds Try.pinned (OpenSpec.ofChange cellmsgBentSpec)

/-- ITS FALSE NEIGHBOUR: 'it returns false'. Refute it at one input. -/
def cellmsgBentWrong : ChangeSpec := { name := "cellmsgBent", fn := fun _ => fun
  | [d1, d2, d3] => { results := [.lit (.bool false)], args := [d1, d2, d3] }
  | _ => none }
def CellmsgBentWrongFalsely : Prop := cellmsgBentRow.holds Try.pinned (OpenSpec.ofChange cellmsgBentWrong)

/- THE SECOND FORM. 'bulk': how many values and letters a reading holds, each counted each time it is reached (what is shared counts as often as it is met; a slice's spare places count too). A statement '..UptoSaid' is the law's where the arguments, and the package variables that the reading takes, are together of bulk at most 1048576: NARROWER than '..Said'. Prove '..Said' where nothing that the law and all that it calls make is longer than what came in: it says more and counts as full. Else prove '..UptoSaid'. A law counts once. -/
mutual
def uptoBulk {H : Type} : DataW H → Nat
  | .lit (.string bytes) => bytes.length + 1
  | .lit _ => 1
  | .nil => 1
  | .ptr d => uptoBulk d + 1
  | .slice elems spare => uptoBulkAll elems + uptoBulkAll spare + 1
  | .agg parts => uptoBulkAll parts + 1
  | .iface _ d => uptoBulk d + 1
  | .map entries => uptoBulkEntries entries + 1
  | .held _ => 1
def uptoBulkAll {H : Type} : List (DataW H) → Nat
  | [] => 0
  | d :: r => uptoBulk d + uptoBulkAll r
def uptoBulkEntries {H : Type} : List (Lit × DataW H) → Nat
  | [] => 0
  | x :: r => uptoBulkEntry x + uptoBulkEntries r
def uptoBulkEntry {H : Type} : Lit × DataW H → Nat
  | (.string bytes, d) => bytes.length + uptoBulk d + 1
  | (_, d) => uptoBulk d + 1
 end
def uptoSmall : (H : Type) → List (DataW H) → Bool := fun _ ds => decide (uptoBulkAll ds ≤ 1048576)
def OpenSpec.upto (s : _root_.Go.ChangeSpec) : _root_.Go.OpenSpec := { _root_.Go.OpenSpec.ofChange s with cond := some uptoSmall }

/-- 'hopmeshlaw25.CellmsgChecks', WHERE WHAT IT READS IS OF BULK AT MOST 1048576: true; the input reads as it did. -/
def cellmsgChecksUptoRow : OpenClaim := { program := "ytjjcgjpmhhkeaaa", sum := "049193c24efe3d324ef15f6aad4554bbb344ac42ecc782cf30ed21e709c4a6e5", func := "hopmesh/hopmeshlaw25.CellmsgChecks", spec := "cellmsgChecks", unfollowed := true, recurses := true, apart := false, narrowed := true }
def CellmsgChecksUptoSaid : Prop := cellmsgChecksUptoRow.holds Try.pinned (OpenSpec.upto cellmsgChecksSpec)

/-- 'hopmeshlaw25.CellmsgBytes', WHERE WHAT IT READS IS OF BULK AT MOST 1048576: true; the input reads as it did. -/
def cellmsgBytesUptoRow : OpenClaim := { program := "ytjjcgjpmhhkeaaa", sum := "049193c24efe3d324ef15f6aad4554bbb344ac42ecc782cf30ed21e709c4a6e5", func := "hopmesh/hopmeshlaw25.CellmsgBytes", spec := "cellmsgBytes", unfollowed := true, recurses := true, apart := false, narrowed := true }
def CellmsgBytesUptoSaid : Prop := cellmsgBytesUptoRow.holds Try.pinned (OpenSpec.upto cellmsgBytesSpec)

/-- 'hopmeshlaw25.CellmsgAnswers', WHERE WHAT IT READS IS OF BULK AT MOST 1048576: true; the input reads as it did. -/
def cellmsgAnswersUptoRow : OpenClaim := { program := "ytjjcgjpmhhkeaaa", sum := "049193c24efe3d324ef15f6aad4554bbb344ac42ecc782cf30ed21e709c4a6e5", func := "hopmesh/hopmeshlaw25.CellmsgAnswers", spec := "cellmsgAnswers", unfollowed := true, recurses := true, apart := false, narrowed := true }
def CellmsgAnswersUptoSaid : Prop := cellmsgAnswersUptoRow.holds Try.pinned (OpenSpec.upto cellmsgAnswersSpec)

/-- 'hopmeshlaw25.CellmsgReplies', WHERE WHAT IT READS IS OF BULK AT MOST 1048576: true; the input reads as it did. -/
def cellmsgRepliesUptoRow : OpenClaim := { program := "ytjjcgjpmhhkeaaa", sum := "049193c24efe3d324ef15f6aad4554bbb344ac42ecc782cf30ed21e709c4a6e5", func := "hopmesh/hopmeshlaw25.CellmsgReplies", spec := "cellmsgReplies", unfollowed := true, recurses := true, apart := false, narrowed := true }
def CellmsgRepliesUptoSaid : Prop := cellmsgRepliesUptoRow.holds Try.pinned (OpenSpec.upto cellmsgRepliesSpec)

/-- 'hopmeshlaw25.CellmsgFits', WHERE WHAT IT READS IS OF BULK AT MOST 1048576: true; the input reads as it did. -/
def cellmsgFitsUptoRow : OpenClaim := { program := "ytjjcgjpmhhkeaaa", sum := "049193c24efe3d324ef15f6aad4554bbb344ac42ecc782cf30ed21e709c4a6e5", func := "hopmesh/hopmeshlaw25.CellmsgFits", spec := "cellmsgFits", unfollowed := true, recurses := true, apart := false, narrowed := true }
def CellmsgFitsUptoSaid : Prop := cellmsgFitsUptoRow.holds Try.pinned (OpenSpec.upto cellmsgFitsSpec)

/-- 'hopmeshlaw25.CellmsgReads', WHERE WHAT IT READS IS OF BULK AT MOST 1048576: true; the input reads as it did. -/
def cellmsgReadsUptoRow : OpenClaim := { program := "ytjjcgjpmhhkeaaa", sum := "049193c24efe3d324ef15f6aad4554bbb344ac42ecc782cf30ed21e709c4a6e5", func := "hopmesh/hopmeshlaw25.CellmsgReads", spec := "cellmsgReads", unfollowed := true, recurses := true, apart := false, narrowed := true }
def CellmsgReadsUptoSaid : Prop := cellmsgReadsUptoRow.holds Try.pinned (OpenSpec.upto cellmsgReadsSpec)

/-- 'hopmeshlaw25.CellmsgBack', WHERE WHAT IT READS IS OF BULK AT MOST 1048576: true; the input reads as it did. -/
def cellmsgBackUptoRow : OpenClaim := { program := "ytjjcgjpmhhkeaaa", sum := "049193c24efe3d324ef15f6aad4554bbb344ac42ecc782cf30ed21e709c4a6e5", func := "hopmesh/hopmeshlaw25.CellmsgBack", spec := "cellmsgBack", unfollowed := true, recurses := true, apart := false, narrowed := true }
def CellmsgBackUptoSaid : Prop := cellmsgBackUptoRow.holds Try.pinned (OpenSpec.upto cellmsgBackSpec)

/-- 'hopmeshlaw25.CellmsgBent', WHERE WHAT IT READS IS OF BULK AT MOST 1048576: true; the input reads as it did. -/
def cellmsgBentUptoRow : OpenClaim := { program := "ytjjcgjpmhhkeaaa", sum := "049193c24efe3d324ef15f6aad4554bbb344ac42ecc782cf30ed21e709c4a6e5", func := "hopmesh/hopmeshlaw25.CellmsgBent", spec := "cellmsgBent", unfollowed := true, recurses := true, apart := false, narrowed := true }
def CellmsgBentUptoSaid : Prop := cellmsgBentUptoRow.holds Try.pinned (OpenSpec.upto cellmsgBentSpec)

end Rows
end Go.Proofs.Ytjjcgjpmhhkeaaa
