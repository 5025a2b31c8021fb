/- ! ### api_Spot_42: function 42 (cut to what is reached: wip/tools/slimout2.py) -/
import Derived.Test.YtjjcgjpmhhkeaaaSFB0
namespace Go.Proofs.Ytjjcgjpmhhkeaaa.B
open Go.RowKit Go.Proofs.YtjjcgjpmhhkeaaaW.PrintWords Go.Proofs.YtjjcgjpmhhkeaaaW.PrintLast Go.Proofs.YtjjcgjpmhhkeaaaW.PrintMore
attribute [local go_sem] max2_int min2_int max_two min_two max_three min_three max_four min_four   -- for this text's walks alone
set_option linter.unusedVariables false
set_option linter.unusedSimpArgs false
def api_Spot_42.f (l0 : List S37) : Option (List S37) := if l0.length * 16 ≤ 140737488355328 then some l0 else none
theorem api_Spot_42.calls (A0 : Option Addr) (c0 : Nat) (l0 : List (S37)) (r : List S37) (w : World) (hr0 : Kd.C k37 w A0 l0.length l0) (hc0 : l0.length ≤ c0) (h : api_Spot_42.f l0 = some r) :
    Calls Try.prog 42 #[.slice A0 l0.length c0] w fun e w' => ∃ v0_ : Value, e = .returned (v0_) ∧ Kd.R k37 37 w' w.heap.size (fun _ => True) v0_ r ∧ Below w.heap.size w w' := by
  unfold api_Spot_42.f at h
  split at h
  · rename_i hb
    obtain rfl := Option.some.inj h
    have := Go.Proofs.Ytjjcgjpmhhkeaaa.CmCl.clone_any A0 c0 (l0.map fun x : S37 => (x.f0, x.f1)) w (by rw [Go.Proofs.Ytjjcgjpmhhkeaaa.CmS.Sp, List.length_map]; exact Go.Proofs.Ytjjcgjpmhhkeaaa.CmK.C_map hr0) (by simpa using hb)
    rw [List.length_map] at this
    exact this.mono fun e w' ⟨v, h1, h2, h3⟩ => ⟨v, h1, Go.Proofs.Ytjjcgjpmhhkeaaa.CmK.map_R h2, h3⟩
  · cases h
end Go.Proofs.Ytjjcgjpmhhkeaaa.B
