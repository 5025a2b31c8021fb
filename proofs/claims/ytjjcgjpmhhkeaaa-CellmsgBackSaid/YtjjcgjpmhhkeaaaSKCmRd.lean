/- CellmsgReads and CellmsgBack: out of the print's text. (cut to what is reached: wip/tools/slimout2.py) -/
import Derived.Test.YtjjcgjpmhhkeaaaSKCmO
import Derived.Test.YtjjcgjpmhhkeaaaSKCmBk
import Derived.Test.YtjjcgjpmhhkeaaaSKI7
namespace Go.Proofs.Ytjjcgjpmhhkeaaa.CmRd
set_option linter.unusedSimpArgs false
set_option linter.unusedVariables false
open Go.RowKit Go.Proofs.Ytjjcgjpmhhkeaaa.Pack Go.Proofs.Ytjjcgjpmhhkeaaa.CmF Go.Proofs.Ytjjcgjpmhhkeaaa.CmS Go.Proofs.Ytjjcgjpmhhkeaaa.CmO Go.Proofs.Ytjjcgjpmhhkeaaa.CmP Go.Proofs.Ytjjcgjpmhhkeaaa.CmK Go.Proofs.Ytjjcgjpmhhkeaaa.CmBk Go.Proofs.Ytjjcgjpmhhkeaaa.I Go.Proofs.YtjjcgjpmhhkeaaaW.PrintWords Go.Proofs.YtjjcgjpmhhkeaaaW.PrintMore
open Go.Proofs.Ytjjcgjpmhhkeaaa.Bytes (Str)
theorem wr {a : Int} (h0 : -9223372036854775808 ≤ a) (h1 : a ≤ 9223372036854775807) : wrap64 a = a := by unfold wrap64; omega
def un (p : Int × Int) : S37 := ⟨p.1, p.2⟩
def pq (x : S37) : Int × Int := (x.f0, x.f1)
theorem pq_un (l : List (Int × Int)) : (l.map un).map pq = l := by
  rw [List.map_map]; exact List.map_id' l
theorem toI {A : Option Addr} {w : World} {l : List (Int × Int)} (h : Sp w A l) : Kd.C k37 w A (l.map un).length (l.map un) := by
  rw [List.length_map]
  refine map_C (d := kp) (f := pq) ?_
  rw [pq_un]; exact h
theorem same_l0 (l : List S37) (hl : l.length ≤ 1000) : ∀ n i k : Nat, i + n = l.length → n < k → hopmeshref25_sameUpTo.l0 k l l (i : Int) = some true := by
  intro n
  induction n with
  | zero =>
    intro i k hi hk
    obtain ⟨k, rfl⟩ : ∃ m, k = m + 1 := ⟨k - 1, by omega⟩
    simp only [hopmeshref25_sameUpTo.l0]
    rw [if_neg (by omega)]
  | succ n ih =>
    intro i k hi hk
    obtain ⟨k, rfl⟩ : ∃ m, k = m + 1 := ⟨k - 1, by omega⟩
    simp only [hopmeshref25_sameUpTo.l0]
    rw [if_pos (by omega), if_pos (by omega), if_pos (by omega), if_neg (by simp), wr (by omega) (by omega), show (i : Int) + 1 = ((i + 1 : Nat) : Int) by omega]
    exact ih (i + 1) k (by omega) (by omega)
theorem spots_self (l : List S37) (hl : l.length ≤ 12) (k : Nat) (hk : 20 < k) : hopmeshref25_SameSpots.f k l l = some true := by
  unfold hopmeshref25_SameSpots.f hopmeshref25_sameUpTo.f
  rw [if_pos rfl, show (0 : Int) = ((0 : Nat) : Int) from rfl, same_l0 l (by omega) l.length 0 k (by omega) (by omega)]
  rfl
theorem same_self (a : Int) (b : Bool) (c d e : Int) (l m : List S37) (hl : l.length ≤ 12) (hm : m.length ≤ 12) (k : Nat) (hk : 20 < k) : hopmeshref25_Same.f k a b c d e l m a b c d e l m = some true := by
  unfold hopmeshref25_Same.f
  rw [if_pos rfl, if_pos (by simp), if_pos rfl, if_pos rfl, if_pos rfl, spots_self l hl k hk, Option.bind_some, if_pos rfl, spots_self m hm k hk]
  rfl
theorem enc_f (x : Ms) : cellmsg_Encode.f x.k x.r x.n x.cd x.ct (x.l.map un) (x.m.map un) = some (if x.chk = 0 then (Str (pack x.bits), 0) else (Str [], x.chk)) := by
  have e1 : (x.l.map un).map (fun x : S37 => (x.f0, x.f1)) = x.l := pq_un x.l
  have e2 : (x.m.map un).map (fun x : S37 => (x.f0, x.f1)) = x.m := pq_un x.m
  unfold cellmsg_Encode.f
  rw [e1, e2]
  by_cases h : x.chk = 0
  · have E : encF x.k x.r x.n x.cd x.ct x.l x.m = (pack x.bits, 0) := if_pos h
    rw [E, if_pos h]
  · have E : encF x.k x.r x.n x.cd x.ct x.l x.m = ([], x.chk) := if_neg h
    rw [E, if_neg h]
theorem check_f (x : Ms) : cellmsg_Check.f x.k x.r x.n x.cd x.ct (x.l.map un) (x.m.map un) = some x.chk := by
  have e1 : (x.l.map un).map (fun x : S37 => (x.f0, x.f1)) = x.l := pq_un x.l
  have e2 : (x.m.map un).map (fun x : S37 => (x.f0, x.f1)) = x.m := pq_un x.m
  unfold cellmsg_Check.f
  rw [e1, e2]; rfl
theorem dec_f (p : List UInt8) (h : p.length ≤ 65536) (x : Ms) (e : Int) (hd : decA p = (x, e)) : cellmsg_Decode.f (Str p) = some (x.k, x.r, x.n, x.cd, x.ct, x.l.map un, x.m.map un, e) := by
  have hs : (Str p).size = p.length := by show p.toArray.size = _; simp
  unfold cellmsg_Decode.f cellmsg_Decode.dec
  rw [if_pos (by omega), show (Str p).data.toList = p by simp, hd]
  rfl
theorem bits_len (x : Ms) (h : x.chk = 0) : (pack x.bits).length ≤ 32 := by
  have h : chkF x.k x.r x.n x.cd x.ct x.l x.m = 0 := h
  obtain ⟨_, _, hl, _⟩ := chk_ok h
  rw [pack_length]
  have e : x.bits.length = 24 + (4 + 13 * x.l.length) + (4 + 13 * x.m.length) := by
    simp only [Ms.bits, msBits, List.length_append, hdBits_length, lsBits_length]
  omega
theorem str_toList (l : List UInt8) : (Str l).toList = l := by rw [ByteArray.toList_eq]
theorem j2_ev (p : List UInt8) (h : p.length ≤ 65536) (k : Nat) : hopmeshlaw25_CellmsgBack.j2 (k + 1) (Str p) = some true := by
  simp only [hopmeshlaw25_CellmsgBack.j2]
  obtain ⟨x, e, hd⟩ : ∃ x e, decA p = (x, e) := ⟨_, _, rfl⟩
  rw [dec_f p h x e hd, Option.bind_some]
  dsimp only
  rcases decA_inv hd with ⟨rfl, hc, hp⟩ | ⟨rfl, rfl⟩
  · rw [if_pos rfl, enc_f, if_pos hc, Option.bind_some]
    dsimp only
    rw [if_pos rfl, hp]
    simp
  · rw [if_neg (by decide)]; rfl
theorem back_f (x : Ms) (hl : x.l.length ≤ 12 ∨ True) (p : List UInt8) : hopmeshlaw25_CellmsgBack.f 40 x.k x.r x.n x.cd x.ct (x.l.map un) (x.m.map un) (Str p) = some true := by
  have hs : (Str p).size = p.length := by show p.toArray.size = _; simp
  have hyes : hopmeshlaw25_CellmsgBack.j0 40 (Str p) true x.k x.r x.n x.cd x.ct (x.l.map un) (x.m.map un) = some true := by
    simp only [hopmeshlaw25_CellmsgBack.j0]
    rw [if_pos trivial]
  unfold hopmeshlaw25_CellmsgBack.f
  rw [hopmeshlaw25_awake.is, Option.bind_some, if_pos rfl]
  have hF : hopmeshref25_Few.f x.k x.r x.n x.cd x.ct (x.l.map un) (x.m.map un) = some (decide (x.l.length ≤ 12 ∧ x.m.length ≤ 12)) := by
    unfold hopmeshref25_Few.f
    rw [List.length_map, List.length_map]
    by_cases h1 : x.l.length ≤ 12
    · rw [if_pos (by omega)]; simp [h1]; omega
    · rw [if_neg (by omega)]; simp [h1]
  rw [hF, Option.bind_some]
  by_cases hf : x.l.length ≤ 12 ∧ x.m.length ≤ 12
  · rw [if_pos (decide_eq_true hf)]
    by_cases h1 : ((Str p).size : Int) > 100
    · rw [decide_eq_true h1]; exact hyes
    · rw [decide_eq_false h1]
      simp only [hopmeshlaw25_CellmsgBack.j0]
      rw [if_neg (by decide), enc_f, Option.bind_some, check_f, Option.bind_some]
      have hj2 : hopmeshlaw25_CellmsgBack.j2 38 (Str p) = some true := j2_ev p (by omega) 37
      by_cases hc : x.chk = 0
      · rw [if_pos hc]
        dsimp only
        rw [if_pos hc.symm, if_pos rfl]
        simp only [hopmeshlaw25_CellmsgBack.j1]
        have hb := bits_len x hc
        rw [if_neg (by decide), if_pos trivial, dec_f (pack x.bits) (by omega) x 0 (decA_back x hc), Option.bind_some]
        dsimp only
        rw [if_pos rfl, same_self _ _ _ _ _ _ _ (by rw [List.length_map]; exact hf.1) (by rw [List.length_map]; exact hf.2) 38 (by omega), Option.bind_some, if_pos rfl]
        have hs2 : (Str (pack x.bits)).size = (pack x.bits).length := by show (pack x.bits).toArray.size = _; simp
        rw [if_neg (by omega)]
        exact hj2
      · rw [if_neg hc]
        dsimp only
        rw [if_pos rfl, if_neg hc, show ((Str []).toList != ([] : List UInt8)) = false by rw [str_toList]; rfl]
        simp only [hopmeshlaw25_CellmsgBack.j1]
        rw [if_neg (by decide), if_neg hc]
        exact hj2
  · rw [if_neg (by simpa using hf)]
    exact hyes
theorem str_of (d : ByteArray) : ∃ l, d = Str l := ⟨d.data.toList, by cases d; simp⟩
theorem back (k : Int) (r : Bool) (n cd ct : Int) (A : Option Addr) (l : List (Int × Int)) (c : Nat) (B : Option Addr) (m : List (Int × Int)) (d : Nat) (p : ByteArray) (w : World) (h : MsIn w A l c B m d) (_ : p.size ≤ 140737488351232) :
    Calls Try.prog 9 #[.agg (ms k r n cd ct A l.length c B m.length d), .string p] w fun e w' => e = .returned (.bool true) ∧ Below w.heap.size w w' := by
  obtain ⟨q, rfl⟩ := str_of p
  have := hopmeshlaw25_CellmsgBack.calls 40 k r n cd ct A c (l.map un) B d (m.map un) (Str q) true w (toI h.hl) (by simpa using h.hc) (toI h.hm) (by simpa using h.hd) (back_f ⟨k, r, n, cd, ct, l, m⟩ (.inr trivial) q)
  rw [List.length_map, List.length_map] at this
  exact this
end Go.Proofs.Ytjjcgjpmhhkeaaa.CmRd
