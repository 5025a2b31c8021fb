/- cellmsg.Decode and hopmeshref25.Decode over pairs. (cut to what is reached: wip/tools/slimout2.py) -/
import Derived.Test.YtjjcgjpmhhkeaaaSFCmHe
import Derived.Test.YtjjcgjpmhhkeaaaSFD0
import Derived.Test.YtjjcgjpmhhkeaaaSFRfEvD
import Derived.Test.YtjjcgjpmhhkeaaaSFCmBk
namespace Go.Proofs.Ytjjcgjpmhhkeaaa.CmHd
set_option linter.unusedSimpArgs false
set_option linter.unusedVariables false
open Go.RowKit Go.Proofs.Ytjjcgjpmhhkeaaa.CmS Go.Proofs.Ytjjcgjpmhhkeaaa.CmBk Go.Proofs.YtjjcgjpmhhkeaaaW.PrintWords Go.Proofs.YtjjcgjpmhhkeaaaW.PrintMore
open Go.Proofs.Ytjjcgjpmhhkeaaa.Bytes (Str)
section
variable {α β : Type} {d : Kd α} {f : β → α} {w : World}
theorem R_map {e base : Nat} {ok : Nat → Prop} {v : Value} {xs : List β} (h : (Kd.iso d f).R e w base ok v xs) : d.R e w base ok v (xs.map f) := by
  obtain ⟨h1, inner, h2, h3, h4⟩ := h
  refine ⟨h1, inner, by rw [List.length_map]; exact h2, by rw [List.length_map]; exact h3, fun j p hp => ?_⟩
  rw [List.getElem?_map] at hp
  obtain ⟨q, hq, rfl⟩ := Option.map_eq_some_iff.1 hp
  exact h4 j q hq
end
def Got (x : Ms) (e : Int) (w : World) (r : Ending) (w' : World) : Prop := ∃ v5 v6 : Value, r = .returned (.tuple #[.agg #[.int .i64 x.k, .bool x.r, .int .i64 x.n, .int .i64 x.cd, .int .i64 x.ct, v5, v6], .int .i64 e]) ∧
  kp.R 37 w' w.heap.size (fun k_ => some k_ ≠ v6.ownBlock) v5 x.l ∧ kp.R 37 w' w.heap.size (fun k_ => some k_ ≠ v5.ownBlock) v6 x.m ∧ Below w.heap.size w w'
end Go.Proofs.Ytjjcgjpmhhkeaaa.CmHd
