/- CellmsgReads and CellmsgBack: out of the print's text. (cut to what is reached: wip/tools/slimout2.py) -/
import Derived.Test.YtjjcgjpmhhkeaaaRows
import Derived.WalkKit
import Derived.ProofKit
import Derived.OpenShut
import Derived.ShutString
import Derived.ChangeOld
import Derived.Below
import Derived.Test.YtjjcgjpmhhkeaaaSECmS
import Derived.Deep.SlicePairs
import Derived.Test.YtjjcgjpmhhkeaaaSECmBk
import Derived.Test.YtjjcgjpmhhkeaaaSEI7
namespace Go.Proofs.Ytjjcgjpmhhkeaaa.CmRd
set_option linter.unusedSimpArgs false
set_option linter.unusedVariables false
open Go.RowKit Go.Proofs.Ytjjcgjpmhhkeaaa.Pack Go.Proofs.Ytjjcgjpmhhkeaaa.CmF Go.Proofs.Ytjjcgjpmhhkeaaa.CmS Go.Proofs.Ytjjcgjpmhhkeaaa.CmP Go.Proofs.Ytjjcgjpmhhkeaaa.CmK Go.Proofs.Ytjjcgjpmhhkeaaa.CmBk Go.Proofs.Ytjjcgjpmhhkeaaa.I Go.Proofs.YtjjcgjpmhhkeaaaW.PrintWords Go.Proofs.YtjjcgjpmhhkeaaaW.PrintMore
open Go.Proofs.Ytjjcgjpmhhkeaaa.Bytes (Str)
theorem wr {a : Int} (h0 : -9223372036854775808 ≤ a) (h1 : a ≤ 9223372036854775807) : wrap64 a = a := by unfold wrap64; omega
theorem same_l0 (l : List S37) (hl : l.length ≤ 1000) : ∀ n i k : Nat, i + n = l.length → n < k → hopmeshref25_sameUpTo.l0 k l l (i : Int) = some true := by
  intro n
  induction n with
  | zero =>
    intro i k hi hk
    obtain ⟨k, rfl⟩ : ∃ m, k = m + 1 := ⟨k - 1, by omega⟩
    simp only [hopmeshref25_sameUpTo.l0]
    rw [if_neg (by omega)]
  | succ n ih =>
    intro i k hi hk
    obtain ⟨k, rfl⟩ : ∃ m, k = m + 1 := ⟨k - 1, by omega⟩
    simp only [hopmeshref25_sameUpTo.l0]
    rw [if_pos (by omega), if_pos (by omega), if_pos (by omega), if_neg (by simp), wr (by omega) (by omega), show (i : Int) + 1 = ((i + 1 : Nat) : Int) by omega]
    exact ih (i + 1) k (by omega) (by omega)
theorem spots_self (l : List S37) (hl : l.length ≤ 12) (k : Nat) (hk : 20 < k) : hopmeshref25_SameSpots.f k l l = some true := by
  unfold hopmeshref25_SameSpots.f hopmeshref25_sameUpTo.f
  rw [if_pos rfl, show (0 : Int) = ((0 : Nat) : Int) from rfl, same_l0 l (by omega) l.length 0 k (by omega) (by omega)]
  rfl
theorem same_self (a : Int) (b : Bool) (c d e : Int) (l m : List S37) (hl : l.length ≤ 12) (hm : m.length ≤ 12) (k : Nat) (hk : 20 < k) : hopmeshref25_Same.f k a b c d e l m a b c d e l m = some true := by
  unfold hopmeshref25_Same.f
  rw [if_pos rfl, if_pos (by simp), if_pos rfl, if_pos rfl, if_pos rfl, spots_self l hl k hk, Option.bind_some, if_pos rfl, spots_self m hm k hk]
  rfl
theorem rdL_len (p : List UInt8) (i : Nat) (e : Int) : (rdL 8 p i e).1.length ≤ 8 := by
  unfold rdL; rw [rdN_len]; omega
theorem dec_len (p : List UInt8) : (decA p).1.l.length ≤ 8 ∧ (decA p).1.m.length ≤ 8 := by
  unfold decA outA
  split
  · exact ⟨rdL_len _ _ _, rdL_len _ _ _⟩
  · exact ⟨Nat.zero_le _, Nat.zero_le _⟩
theorem reads_f (a0 : ByteArray) : hopmeshlaw25_CellmsgReads.f 40 a0 = some true := by
  unfold hopmeshlaw25_CellmsgReads.f
  rw [hopmeshlaw25_awake.is, Option.bind_some, if_pos rfl]
  by_cases h : (a0.size : Int) > 100
  · rw [if_pos h]
  · rw [if_neg h]
    unfold cellmsg_Decode.f hopmeshref25_Decode.f
    rw [if_pos (by omega), if_pos (by omega), Option.bind_some, Option.bind_some]
    dsimp only
    unfold cellmsg_Decode.dec hopmeshref25_Decode.dec
    obtain ⟨hl, hm⟩ := dec_len a0.data.toList
    rw [same_self _ _ _ _ _ _ _ (by simp; omega) (by simp; omega) 40 (by omega), Option.bind_some, if_pos rfl]
    simp
theorem reads (a : ByteArray) (w : World) (_ : a.size ≤ 140737488351232) :
    Calls Try.prog 8 #[.string a] w fun e w' => e = .returned (.bool true) ∧ Below w.heap.size w w' :=
  hopmeshlaw25_CellmsgReads.calls 40 a true w (reads_f a)
end Go.Proofs.Ytjjcgjpmhhkeaaa.CmRd
