/- What hopmeshref25.Decode comes to. (cut to what is reached: wip/tools/slimout2.py) -/
import Derived.Test.YtjjcgjpmhhkeaaaSND2
import Derived.Test.YtjjcgjpmhhkeaaaSNRfEvD
import Derived.Test.YtjjcgjpmhhkeaaaSNCmBk
namespace Go.Proofs.Ytjjcgjpmhhkeaaa.CmDe
set_option linter.unusedSimpArgs false
set_option linter.unusedVariables false
open Go.RowKit Go.Proofs.Ytjjcgjpmhhkeaaa.D Go.Proofs.Ytjjcgjpmhhkeaaa.Pack Go.Proofs.Ytjjcgjpmhhkeaaa.Rd Go.Proofs.Ytjjcgjpmhhkeaaa.RdC Go.Proofs.Ytjjcgjpmhhkeaaa.RfEvD Go.Proofs.Ytjjcgjpmhhkeaaa.CmK Go.Proofs.Ytjjcgjpmhhkeaaa.CmP Go.Proofs.Ytjjcgjpmhhkeaaa.CmS Go.Proofs.YtjjcgjpmhhkeaaaW.PrintWords Go.Proofs.YtjjcgjpmhhkeaaaW.PrintLast Go.Proofs.YtjjcgjpmhhkeaaaW.PrintMore
open Go.Proofs.Ytjjcgjpmhhkeaaa.CmBk
open Go.Proofs.Ytjjcgjpmhhkeaaa.Bytes (Str)
def ru (p : Int × Int) : S37 := ⟨p.1, p.2⟩
theorem run_map (l : List (Int × Int)) : (l.map ru).map (fun x : S37 => (x.f0, x.f1)) = l := by
  rw [List.map_map]; exact List.map_id' l
theorem read_loop (l : List UInt8) (hs : l.length ≤ 65536) (n : Nat) (hn : n ≤ 1000) (d : Nat) : ∀ (q j : Nat) (acc : List S37) (i : Nat) (e : Int), i ≤ 8 * l.length → j + d = n → acc.length = j → d + 20 < q →
    hopmeshref25_read.l0 q acc (n : Int) (j : Int) (S l e) (P i e) e = some (acc ++ (rdN l d i e).1.map ru, S l (rdN l d i e).2.2, P (rdN l d i e).2.1 (rdN l d i e).2.2, (rdN l d i e).2.2) := by
  induction d with
  | zero =>
    intro q j acc i e hi hj ha hq
    obtain ⟨q, rfl⟩ : ∃ m, q = m + 1 := ⟨q - 1, by omega⟩
    simp only [hopmeshref25_read.l0]
    rw [if_neg (by omega)]
    simp [rdN]
  | succ d ih =>
    intro q j acc i e hi hj ha hq
    obtain ⟨q, rfl⟩ : ∃ m, q = m + 1 := ⟨q - 1, by omega⟩
    simp only [hopmeshref25_read.l0]
    have b1 := rdf_le l 9 i e hi
    rw [if_pos (by omega), unsigned_ev l hs i hi e 9 9 rfl (by omega) (by omega) q (by omega), Option.bind_some]
    dsimp only
    rw [unsigned_ev l hs _ b1 (rdf l 9 i e).2.2 4 4 rfl (by omega) (by omega) q (by omega), Option.bind_some]
    dsimp only
    rw [if_pos (by omega), wr (by omega) (by omega), show (j : Int) + 1 = ((j + 1 : Nat) : Int) by omega,
      ih q (j + 1) _ _ _ (rdf_le _ _ _ _ b1) (by omega) (by simp [ha]) (by omega)]
    conv => rhs; unfold rdN
    simp [ru]
theorem read_ev (l : List UInt8) (hs : l.length ≤ 65536) (i : Nat) (hi : i ≤ 8 * l.length) (e : Int) (q : Nat) (hq : 40 < q) :
    hopmeshref25_read.f q (S l e) (P i e) e = some ((rdL 16 l i e).1.map ru, S l (rdL 16 l i e).2.2, P (rdL 16 l i e).2.1 (rdL 16 l i e).2.2, (rdL 16 l i e).2.2) := by
  unfold hopmeshref25_read.f
  rw [unsigned_ev l hs i hi e 4 4 rfl (by omega) (by omega) q (by omega), Option.bind_some]
  dsimp only
  have hv := rdf_lt l 4 i e
  have := read_loop l hs (rdf l 4 i e).1 (by omega) (rdf l 4 i e).1 q 0 [] _ (rdf l 4 i e).2.2 (rdf_le l 4 i e hi) (by omega) rfl (by omega)
  rw [show ((0 : Nat) : Int) = 0 from rfl] at this
  rw [this, List.nil_append]
  unfold rdL
  rw [Nat.min_eq_left (by omega)]
abbrev RTup := Int × Bool × Int × Int × Int × List S37 × List S37 × Int
def rtup (x : Ms) (e : Int) : RTup := (x.k, x.r, x.n, x.cd, x.ct, x.l.map ru, x.m.map ru, e)
theorem rtail_ev (k : Nat) (hk : 8 < k) (l : List UInt8) (hs : l.length ≤ 65536) (x : Ms) (i : Nat) (hi : i ≤ 8 * l.length) (e : Int) :
    ((hopmeshref02_Reader_Close.f k (S l e) (P i e) e).bind fun bt182 => (if bt182.1 = 0 then ((hopmeshref25_Check.f x.k x.r x.n x.cd x.ct (x.l.map ru) (x.m.map ru)).bind fun t186 => (if t186 = 0 then (some (x.k, x.r, x.n, x.cd, x.ct, x.l.map ru, x.m.map ru, 0)) else (some (0, false, 0, 0, 0, ([] : List (S37)), ([] : List (S37)), 10)))) else (some (0, false, 0, 0, 0, ([] : List (S37)), ([] : List (S37)), 10)))) =
    some (rtup (outB l (x, i, e)).1 (outB l (x, i, e)).2) := by
  obtain ⟨a, b, c, hc⟩ := close_ev l hs i hi e k hk
  rw [hc, Option.bind_some]
  dsimp only
  unfold outB
  dsimp only
  by_cases h0 : closeF l i e = 0
  · rw [if_pos h0]
    unfold hopmeshref25_Check.f
    rw [run_map, run_map, Option.bind_some]
    show (if x.chk = 0 then _ else _) = _
    by_cases h1 : x.chk = 0
    · rw [if_pos h1, if_pos ⟨h0, h1⟩]; rfl
    · rw [if_neg h1, if_neg (fun h => h1 h.2)]; rfl
  · rw [if_neg h0, if_neg (fun h => h0 h.1)]; rfl
attribute [local irreducible] rdf rdL in
theorem rdecode_ev (l : List UInt8) (hs : l.length ≤ 65536) (q : Nat) (hq : 60 < q) : hopmeshref25_Decode.f q (Str l) = some (rtup (decB l).1 (decB l).2) := by
  have e0 : hopmeshref02_NewReader.f (Str l) = some (S l 0, P 0 0, 0) := by
    unfold hopmeshref02_NewReader.f
    rw [str_size, if_neg (by omega), S0, P0]
    rfl
  have b1 := rdf_le l 3 0 0 (Nat.zero_le _)
  have b2 := rdf_le l 1 _ (rdf l 3 0 0).2.2 b1
  have b3 := rdf_le l 8 _ (rdf l 1 (rdf l 3 0 0).2.1 (rdf l 3 0 0).2.2).2.2 b2
  have b4 := rdf_le l 2 _ (rdf l 8 (rdf l 1 (rdf l 3 0 0).2.1 (rdf l 3 0 0).2.2).2.1 (rdf l 1 (rdf l 3 0 0).2.1 (rdf l 3 0 0).2.2).2.2).2.2 b3
  have a1 := unsigned_ev l hs 0 (Nat.zero_le _) 0 3 3 rfl (by omega) (by omega) q (by omega)
  have a2 := flag_ev l hs _ b1 (rdf l 3 0 0).2.2 q (by omega)
  have a3 := unsigned_ev l hs _ b2 (rdf l 1 (rdf l 3 0 0).2.1 (rdf l 3 0 0).2.2).2.2 8 8 rfl (by omega) (by omega) q (by omega)
  have a4 := unsigned_ev l hs _ b3 (rdf l 8 (rdf l 1 (rdf l 3 0 0).2.1 (rdf l 3 0 0).2.2).2.1 (rdf l 1 (rdf l 3 0 0).2.1 (rdf l 3 0 0).2.2).2.2).2.2 2 2 rfl (by omega) (by omega) q (by omega)
  unfold decB rdM
  dsimp only
  generalize (rdf l 2 (rdf l 8 (rdf l 1 (rdf l 3 0 0).2.1 (rdf l 3 0 0).2.2).2.1 (rdf l 1 (rdf l 3 0 0).2.1 (rdf l 3 0 0).2.2).2.2).2.1 (rdf l 8 (rdf l 1 (rdf l 3 0 0).2.1 (rdf l 3 0 0).2.2).2.1 (rdf l 1 (rdf l 3 0 0).2.1 (rdf l 3 0 0).2.2).2.2).2.2) = h4 at *
  have a5 := unsigned_ev l hs _ b4 h4.2.2 10 10 rfl (by omega) (by omega) q (by omega)
  have b5 := rdf_le l 10 _ h4.2.2 b4
  generalize rdf l 10 h4.2.1 h4.2.2 = h5 at *
  have a6 := read_ev l hs _ b5 h5.2.2 q (by omega)
  have b6 : (rdL 16 l h5.2.1 h5.2.2).2.1 ≤ 8 * l.length := rdL_le b5
  generalize rdL 16 l h5.2.1 h5.2.2 = h6 at *
  have a7 := read_ev l hs _ b6 h6.2.2 q (by omega)
  have b7 : (rdL 16 l h6.2.1 h6.2.2).2.1 ≤ 8 * l.length := rdL_le b6
  generalize rdL 16 l h6.2.1 h6.2.2 = h7 at *
  unfold hopmeshref25_Decode.f
  rw [e0, Option.bind_some, a1, Option.bind_some, a2, Option.bind_some, a3, Option.bind_some, a4, Option.bind_some, a5, Option.bind_some, a6, Option.bind_some, a7, Option.bind_some]
  exact rtail_ev q (by omega) l hs ⟨_, _, _, _, _, h6.1, h7.1⟩ h7.2.1 b7 h7.2.2
end Go.Proofs.Ytjjcgjpmhhkeaaa.CmDe
