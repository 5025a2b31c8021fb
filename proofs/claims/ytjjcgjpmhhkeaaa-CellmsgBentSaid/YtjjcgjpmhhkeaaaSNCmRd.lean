/- CellmsgReads and CellmsgBack: out of the print's text. (cut to what is reached: wip/tools/slimout2.py) -/
import Derived.Test.YtjjcgjpmhhkeaaaSNCmO
import Derived.Test.YtjjcgjpmhhkeaaaSNCmBk
import Derived.Test.YtjjcgjpmhhkeaaaSNI7
namespace Go.Proofs.Ytjjcgjpmhhkeaaa.CmRd
set_option linter.unusedSimpArgs false
set_option linter.unusedVariables false
open Go.RowKit Go.Proofs.Ytjjcgjpmhhkeaaa.Pack Go.Proofs.Ytjjcgjpmhhkeaaa.CmF Go.Proofs.Ytjjcgjpmhhkeaaa.CmS Go.Proofs.Ytjjcgjpmhhkeaaa.CmO Go.Proofs.Ytjjcgjpmhhkeaaa.CmP Go.Proofs.Ytjjcgjpmhhkeaaa.CmK Go.Proofs.Ytjjcgjpmhhkeaaa.CmBk Go.Proofs.Ytjjcgjpmhhkeaaa.I Go.Proofs.YtjjcgjpmhhkeaaaW.PrintWords Go.Proofs.YtjjcgjpmhhkeaaaW.PrintMore
open Go.Proofs.Ytjjcgjpmhhkeaaa.Bytes (Str)
theorem wr {a : Int} (h0 : -9223372036854775808 ≤ a) (h1 : a ≤ 9223372036854775807) : wrap64 a = a := by unfold wrap64; omega
def un (p : Int × Int) : S37 := ⟨p.1, p.2⟩
def pq (x : S37) : Int × Int := (x.f0, x.f1)
theorem pq_un (l : List (Int × Int)) : (l.map un).map pq = l := by
  rw [List.map_map]; exact List.map_id' l
theorem toI {A : Option Addr} {w : World} {l : List (Int × Int)} (h : Sp w A l) : Kd.C k37 w A (l.map un).length (l.map un) := by
  rw [List.length_map]
  refine map_C (d := kp) (f := pq) ?_
  rw [pq_un]; exact h
theorem same_l0 (l : List S37) (hl : l.length ≤ 1000) : ∀ n i k : Nat, i + n = l.length → n < k → hopmeshref25_sameUpTo.l0 k l l (i : Int) = some true := by
  intro n
  induction n with
  | zero =>
    intro i k hi hk
    obtain ⟨k, rfl⟩ : ∃ m, k = m + 1 := ⟨k - 1, by omega⟩
    simp only [hopmeshref25_sameUpTo.l0]
    rw [if_neg (by omega)]
  | succ n ih =>
    intro i k hi hk
    obtain ⟨k, rfl⟩ : ∃ m, k = m + 1 := ⟨k - 1, by omega⟩
    simp only [hopmeshref25_sameUpTo.l0]
    rw [if_pos (by omega), if_pos (by omega), if_pos (by omega), if_neg (by simp), wr (by omega) (by omega), show (i : Int) + 1 = ((i + 1 : Nat) : Int) by omega]
    exact ih (i + 1) k (by omega) (by omega)
theorem spots_self (l : List S37) (hl : l.length ≤ 12) (k : Nat) (hk : 20 < k) : hopmeshref25_SameSpots.f k l l = some true := by
  unfold hopmeshref25_SameSpots.f hopmeshref25_sameUpTo.f
  rw [if_pos rfl, show (0 : Int) = ((0 : Nat) : Int) from rfl, same_l0 l (by omega) l.length 0 k (by omega) (by omega)]
  rfl
theorem rdL_len (p : List UInt8) (i : Nat) (e : Int) : (rdL 8 p i e).1.length ≤ 8 := by
  unfold rdL; rw [rdN_len]; omega
theorem dec_len (p : List UInt8) : (decA p).1.l.length ≤ 8 ∧ (decA p).1.m.length ≤ 8 := by
  unfold decA outA
  split
  · exact ⟨rdL_len _ _ _, rdL_len _ _ _⟩
  · exact ⟨Nat.zero_le _, Nat.zero_le _⟩
theorem bits_len (x : Ms) (h : x.chk = 0) : (pack x.bits).length ≤ 32 := by
  have h : chkF x.k x.r x.n x.cd x.ct x.l x.m = 0 := h
  obtain ⟨_, _, hl, _⟩ := chk_ok h
  rw [pack_length]
  have e : x.bits.length = 24 + (4 + 13 * x.l.length) + (4 + 13 * x.m.length) := by
    simp only [Ms.bits, msBits, List.length_append, hdBits_length, lsBits_length]
  omega
theorem str_toList (l : List UInt8) : (Str l).toList = l := by rw [ByteArray.toList_eq]
theorem str_of (d : ByteArray) : ∃ l, d = Str l := ⟨d.data.toList, by cases d; simp⟩
end Go.Proofs.Ytjjcgjpmhhkeaaa.CmRd
