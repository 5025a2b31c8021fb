/- What the printed functions of bitio.Reader, cellmsg.places and cellmsg.Decode come to. (cut to what is reached: wip/tools/slimout2.py) -/
import Derived.Test.YtjjcgjpmhhkeaaaSNH2
import Derived.Test.YtjjcgjpmhhkeaaaSNCmBk
import Derived.Laws.BitsAllLaws
namespace Go.Proofs.Ytjjcgjpmhhkeaaa.CmHe
set_option linter.unusedSimpArgs false
set_option linter.unusedVariables false
open Go.RowKit Go.Proofs.Ytjjcgjpmhhkeaaa.H Go.Proofs.Ytjjcgjpmhhkeaaa.Pack Go.Proofs.Ytjjcgjpmhhkeaaa.WrPut Go.Proofs.Ytjjcgjpmhhkeaaa.Rd Go.Proofs.Ytjjcgjpmhhkeaaa.RdC Go.Proofs.Ytjjcgjpmhhkeaaa.CmK Go.Proofs.Ytjjcgjpmhhkeaaa.CmP Go.Proofs.Ytjjcgjpmhhkeaaa.CmS Go.Proofs.Ytjjcgjpmhhkeaaa.CmBk Go.Proofs.YtjjcgjpmhhkeaaaW.PrintWords Go.Proofs.YtjjcgjpmhhkeaaaW.PrintLast Go.Proofs.YtjjcgjpmhhkeaaaW.PrintMore
open Go.Proofs.Ytjjcgjpmhhkeaaa.Bytes (Str)
theorem wr {a : Int} (h0 : -9223372036854775808 ≤ a) (h1 : a ≤ 9223372036854775807) : wrap64 a = a := by unfold wrap64; omega
theorem str_size (l : List UInt8) : (Str l).size = l.length := by show l.toArray.size = _; simp
theorem bt_byte (d : ByteArray) (i : Nat) (h : i < d.size) : bt d (i : Int) = (d[i].toNat : Int) := by
  unfold bt; simp [h]
theorem bit_ev (l : List UInt8) (i : Nat) (h : i < 8 * l.length) (x : Nat) (hx : x < 9223372036854775808) :
    Go.bits .or .u64 (IntKind.u64.wrap ((x : Int) * 2)) (IntKind.u64.wrap (Go.bits .and .u8 (shr .u8 (bt (Str l) ((i / 8 : Nat) : Int)) ((7 - i % 8 : Nat) : Int)) 1)) = ((2 * x + (if bitAt l i then 1 else 0) : Nat) : Int) := by
  have hi : i / 8 < (Str l).size := by rw [str_size]; omega
  have e0 : bt (Str l) ((i / 8 : Nat) : Int) = ((l.getD (i / 8) 0).toNat : Int) := by
    rw [bt_byte _ _ hi]
    have hi2 : i / 8 < l.length := by omega
    have : (Str l)[i / 8] = l[i / 8] := by show l.toArray[i / 8] = _; simp
    rw [this]; simp [List.getD, hi2]
  rw [e0]
  have hb := (l.getD (i / 8) 0).toNat_lt
  unfold bitAt
  generalize (l.getD (i / 8) 0).toNat = b at hb ⊢
  have e1 : shr .u8 (b : Int) ((7 - i % 8 : Nat) : Int) = ((b / 2 ^ (7 - i % 8) : Nat) : Int) := by
    unfold shr
    rw [Int.toNat_natCast, Nat.min_eq_left (show 7 - i % 8 ≤ IntKind.u8.bits by show 7 - i % 8 ≤ 8; omega)]
    simp
  have hl : b / 2 ^ (7 - i % 8) < 256 := Nat.lt_of_le_of_lt (Nat.div_le_self _ _) (by omega)
  rw [e1, show (1 : Int) = ((1 : Nat) : Int) from rfl, u8_and_nat _ _ hl (by decide), nat_mask1, Nat.testBit_eq_decide_div_mod_eq]
  generalize b / 2 ^ (7 - i % 8) = c
  have e2 : IntKind.u64.wrap ((c % 2 : Nat) : Int) = ((c % 2 : Nat) : Int) := by rw [IntKind.wrap_u64]; omega
  have e3 : IntKind.u64.wrap ((x : Int) * 2) = ((2 * x : Nat) : Int) := by rw [IntKind.wrap_u64]; omega
  rw [e2, e3, u64_or_nat _ _ (by omega) (by omega)]
  congr 1
  have : 2 * x ||| c % 2 = 2 * x + c % 2 := by
    have := Nat.two_pow_add_eq_or_of_lt (i := 1) (b := c % 2) (by omega) x
    rw [show 2 ^ 1 * x = 2 * x by omega] at this
    exact this.symm
  rw [this]
  by_cases hc : c % 2 = 1
  · simp [hc]
  · have : c % 2 = 0 := by omega
    simp [this]
theorem get_loop (l : List UInt8) (hs : l.length ≤ 65536) (i k : Nat) (h : i + k ≤ 8 * l.length) (hk : k ≤ 64) (e : Int) (d : Nat) : ∀ (q j : Nat), j + d = k → d < q →
    bitio_Reader_get.l0 q (valN (bitsAt l i j) : Int) (k : Int) (j : Int) (Str l) ((i + j : Nat) : Int) e = some ((valN (bitsAt l i k) : Int), Str l, ((i + k : Nat) : Int), e) := by
  induction d with
  | zero =>
    intro q j hj hq
    obtain ⟨q, rfl⟩ : ∃ m, q = m + 1 := ⟨q - 1, by omega⟩
    obtain rfl : j = k := by omega
    simp only [bitio_Reader_get.l0]
    rw [if_neg (by omega)]
  | succ d ih =>
    intro q j hj hq
    obtain ⟨q, rfl⟩ : ∃ m, q = m + 1 := ⟨q - 1, by omega⟩
    simp only [bitio_Reader_get.l0]
    have hx : valN (bitsAt l i j) < 9223372036854775808 := Nat.lt_of_lt_of_le (val_lt l i j) (by
      have : (2 : Nat) ^ j ≤ 2 ^ 63 := Nat.pow_le_pow_right (by decide) (by omega)
      omega)
    have e1 : wrap64 (Int.tdiv ((i + j : Nat) : Int) 8) = (((i + j) / 8 : Nat) : Int) := by
      rw [Int.tdiv_eq_ediv_of_nonneg (by omega), wr (by omega) (by omega)]; omega
    have e2 : wrap64 (7 - Int.tmod ((i + j : Nat) : Int) 8) = ((7 - (i + j) % 8 : Nat) : Int) := by
      rw [Int.tmod_eq_emod_of_nonneg (by omega), wr (by omega) (by omega)]; omega
    rw [if_pos (by omega), e1, e2, if_pos (by omega), if_pos (by rw [str_size]; omega), if_pos (by omega), bit_ev l (i + j) (by omega) _ hx,
      wr (a := (j : Int) + 1) (by omega) (by omega), wr (a := ((i + j : Nat) : Int) + 1) (by omega) (by omega),
      show (j : Int) + 1 = ((j + 1 : Nat) : Int) by omega, show ((i + j : Nat) : Int) + 1 = ((i + (j + 1) : Nat) : Int) by omega, ← valN_snoc, ← bitsAt_succ]
    exact ih q (j + 1) (by omega) (by omega)
theorem get_ev (l : List UInt8) (hs : l.length ≤ 65536) (i k : Nat) (h : i + k ≤ 8 * l.length) (hk : k ≤ 64) (e : Int) (q : Nat) (hq : k < q) : bitio_Reader_get.f q (Str l) (i : Int) e (k : Int) = some ((valN (bitsAt l i k) : Int), Str l, ((i + k : Nat) : Int), e) := by
  unfold bitio_Reader_get.f
  have := get_loop l hs i k h hk e k q 0 (by omega) (by omega)
  simpa [bitsAt, valN] using this
theorem left_f (l : List UInt8) (hs : l.length ≤ 65536) (i : Nat) (hi : i ≤ 8 * l.length) : bitio_Reader_Left.f (Str l) (i : Int) 0 = some (8 * (l.length : Int) - (i : Int), Str l, (i : Int), 0) := by
  unfold bitio_Reader_Left.f
  rw [if_pos rfl, str_size, wr (a := 8 * (l.length : Int)) (by omega) (by omega), wr (by omega) (by omega)]
theorem field_ev (l : List UInt8) (hs : l.length ≤ 65536) (i : Nat) (hi : i ≤ 8 * l.length) (e : Int) (k : Nat) (hk : k ≤ 64) (q : Nat) (hq : k < q) : bitio_Reader_field.f q (Str l) (i : Int) e true (k : Int) = some (((rdf l k i e).1 : Int), Str l, ((rdf l k i e).2.1 : Int), (rdf l k i e).2.2) := by
  unfold bitio_Reader_field.f rdf
  by_cases he : e = 0
  · subst he
    rw [if_pos rfl, if_pos rfl, if_pos rfl, left_f l hs i hi, Option.bind_some]
    dsimp only
    by_cases hl : 8 * l.length < i + k
    · rw [if_pos (by omega), if_pos hl]
      unfold bitio_Reader_fail.f
      rw [if_pos rfl]; rfl
    · rw [if_neg (by omega), if_neg hl, get_ev l hs i k (by omega) hk 0 q hq]; rfl
  · rw [if_neg he, if_neg he]; rfl
theorem unsigned_ev (l : List UInt8) (hs : l.length ≤ 65536) (i : Nat) (hi : i ≤ 8 * l.length) (e : Int) (k : Nat) (kI : Int) (hkI : (k : Int) = kI) (h1 : 1 ≤ k) (hk : k ≤ 62) (q : Nat) (hq : k < q) : bitio_Reader_Unsigned.f q (Str l) (i : Int) e kI = some (((rdf l k i e).1 : Int), Str l, ((rdf l k i e).2.1 : Int), (rdf l k i e).2.2) := by
  subst hkI
  unfold bitio_Reader_Unsigned.f
  have hv := rdf_lt l k i e
  have : (2 : Nat) ^ k ≤ 2 ^ 62 := Nat.pow_le_pow_right (by decide) hk
  rw [if_pos (by omega), decide_eq_true (show (k : Int) ≤ 63 by omega), field_ev l hs i hi e k (by omega) q hq, Option.bind_some]
  dsimp only
  rw [wr (by omega) (by omega)]
theorem flag_ev (l : List UInt8) (hs : l.length ≤ 65536) (i : Nat) (hi : i ≤ 8 * l.length) (e : Int) (q : Nat) (hq : 1 < q) : bitio_Reader_Flag.f q (Str l) (i : Int) e = some (decide ((rdf l 1 i e).1 = 1), Str l, ((rdf l 1 i e).2.1 : Int), (rdf l 1 i e).2.2) := by
  unfold bitio_Reader_Flag.f
  have := field_ev l hs i hi e 1 (by omega) q hq
  rw [show ((1 : Nat) : Int) = 1 from rfl] at this
  rw [this, Option.bind_some]
  dsimp only
  congr 2
  by_cases g : (rdf l 1 i e).1 = 1
  · simp [g]
  · have : ¬ ((rdf l 1 i e).1 : Int) = 1 := by omega
    simp [g, this]
def un (p : Int × Int) : S37 := ⟨p.1, p.2⟩
theorem un_map (l : List (Int × Int)) : (l.map un).map (fun x : S37 => (x.f0, x.f1)) = l := by
  rw [List.map_map]; exact List.map_id' l
theorem places_loop (l : List UInt8) (hs : l.length ≤ 65536) (n : Nat) (hn : n ≤ 1000) (d : Nat) : ∀ (q j : Nat) (acc : List S37) (i : Nat) (e : Int), i ≤ 8 * l.length → j + d = n → acc.length = j → d + 20 < q →
    cellmsg_places.l0 q acc (n : Int) (j : Int) (Str l) (i : Int) e = some (acc ++ (rdN l d i e).1.map un, Str l, ((rdN l d i e).2.1 : Int), (rdN l d i e).2.2) := by
  induction d with
  | zero =>
    intro q j acc i e hi hj ha hq
    obtain ⟨q, rfl⟩ : ∃ m, q = m + 1 := ⟨q - 1, by omega⟩
    simp only [cellmsg_places.l0]
    rw [if_neg (by omega)]
    simp [rdN]
  | succ d ih =>
    intro q j acc i e hi hj ha hq
    obtain ⟨q, rfl⟩ : ∃ m, q = m + 1 := ⟨q - 1, by omega⟩
    simp only [cellmsg_places.l0]
    have b1 := rdf_le l 9 i e hi
    rw [if_pos (by omega), unsigned_ev l hs i hi e 9 9 rfl (by omega) (by omega) q (by omega), Option.bind_some]
    dsimp only
    rw [unsigned_ev l hs _ b1 (rdf l 9 i e).2.2 4 4 rfl (by omega) (by omega) q (by omega), Option.bind_some]
    dsimp only
    rw [if_pos (by omega), wr (by omega) (by omega), show (j : Int) + 1 = ((j + 1 : Nat) : Int) by omega,
      ih q (j + 1) _ _ _ (rdf_le _ _ _ _ b1) (by omega) (by simp [ha]) (by omega)]
    conv => rhs; unfold rdN
    simp [un]
theorem places_ev (l : List UInt8) (hs : l.length ≤ 65536) (i : Nat) (hi : i ≤ 8 * l.length) (e : Int) (q : Nat) (hq : 40 < q) :
    cellmsg_places.f q (Str l) (i : Int) e = some ((rdL 8 l i e).1.map un, Str l, ((rdL 8 l i e).2.1 : Int), (rdL 8 l i e).2.2) := by
  unfold cellmsg_places.f
  rw [unsigned_ev l hs i hi e 4 4 rfl (by omega) (by omega) q (by omega), Option.bind_some]
  dsimp only
  have hm : mn ((rdf l 4 i e).1 : Int) 8 = ((min (rdf l 4 i e).1 8 : Nat) : Int) := by
    unfold mn; split <;> omega
  rw [hm]
  have := places_loop l hs (min (rdf l 4 i e).1 8) (by omega) (min (rdf l 4 i e).1 8) q 0 [] _ (rdf l 4 i e).2.2 (rdf_le l 4 i e hi) (by omega) rfl (by omega)
  rw [show ((0 : Nat) : Int) = 0 from rfl] at this
  rw [this, List.nil_append]
  rfl
abbrev Tup := Int × Bool × Int × Int × Int × List S37 × List S37 × Int
def tup (x : Ms) (e : Int) : Tup := (x.k, x.r, x.n, x.cd, x.ct, x.l.map un, x.m.map un, e)
theorem j0_yes (k : Nat) (a0 : ByteArray) (x : Ms) : cellmsg_Decode.j0 (k + 1) a0 true x.k x.r x.n x.cd x.ct (x.l.map un) (x.m.map un) = some (tup .zero 10) := by
  simp only [cellmsg_Decode.j0]
  rw [if_pos trivial]
  rfl
theorem str_toList (l : List UInt8) : (Str l).toList = l := by rw [ByteArray.toList_eq]
theorem j0_no (k : Nat) (l : List UInt8) (x : Ms) (hc : x.chk = 0) : cellmsg_Decode.j0 (k + 1) (Str l) false x.k x.r x.n x.cd x.ct (x.l.map un) (x.m.map un) = some (if pack x.bits = l then tup x 0 else tup .zero 10) := by
  simp only [cellmsg_Decode.j0]
  rw [if_neg (by decide)]
  have hE : encF x.k x.r x.n x.cd x.ct x.l x.m = (pack x.bits, 0) := if_pos hc
  unfold cellmsg_Encode.f
  rw [un_map, un_map, hE, Option.bind_some]
  dsimp only
  rw [if_pos rfl, str_toList, str_toList]
  by_cases h : pack x.bits = l
  · rw [if_pos h, if_pos h]; rfl
  · rw [if_neg h, if_neg h]; rfl
theorem tail_ev (k : Nat) (l : List UInt8) (hs : l.length ≤ 65536) (x : Ms) (i : Nat) (hi : i ≤ 8 * l.length) (e : Int) :
    ((bitio_Reader_Close.f (Str l) (i : Int) e).bind fun bt182 => (if bt182.1 = 0 then ((cellmsg_Check.f x.k x.r x.n x.cd x.ct (x.l.map un) (x.m.map un)).bind fun t186 => (cellmsg_Decode.j0 (k + 1) (Str l) (t186 != 0) x.k x.r x.n x.cd x.ct (x.l.map un) (x.m.map un))) else (cellmsg_Decode.j0 (k + 1) (Str l) true x.k x.r x.n x.cd x.ct (x.l.map un) (x.m.map un)))) =
    some (tup (outA l (x, i, e)).1 (outA l (x, i, e)).2) := by
  have hc : bitio_Reader_Close.f (Str l) (i : Int) e = some (closeF l i e, Str l, (i : Int), e) := by
    unfold bitio_Reader_Close.f
    rw [str_size, if_pos ⟨hs, by omega, by omega⟩, Int.toNat_natCast]
  rw [hc, Option.bind_some]
  dsimp only
  unfold outA
  dsimp only
  by_cases h0 : closeF l i e = 0
  · rw [if_pos h0]
    unfold cellmsg_Check.f
    rw [un_map, un_map, Option.bind_some]
    show cellmsg_Decode.j0 (k + 1) (Str l) (x.chk != 0) x.k x.r x.n x.cd x.ct (x.l.map un) (x.m.map un) = _
    by_cases h1 : x.chk = 0
    · rw [show (x.chk != 0) = false by simp [h1], j0_no k l x h1]
      by_cases h2 : pack x.bits = l
      · rw [if_pos h2, if_pos ⟨h0, h1, h2⟩]
      · rw [if_neg h2, if_neg (fun h => h2 h.2.2)]
    · rw [show (x.chk != 0) = true by simp [h1], j0_yes, if_neg (fun h => h1 h.2.1)]
  · rw [if_neg h0, j0_yes, if_neg (fun h => h0 h.1)]
attribute [local irreducible] rdf rdL in
theorem decode_ev (l : List UInt8) (hs : l.length ≤ 65536) (q : Nat) (hq : 60 < q) : cellmsg_Decode.f q (Str l) = some (tup (decA l).1 (decA l).2) := by
  obtain ⟨q, rfl⟩ : ∃ m, q = m + 1 := ⟨q - 1, by omega⟩
  have e0 : bitio_NewReader.f (Str l) = some (Str l, ((0 : Nat) : Int), 0) := by
    unfold bitio_NewReader.f
    rw [str_size]
    first | rw [if_neg (by omega)] | rw [if_pos (by omega)]
    rfl
  have b1 := rdf_le l 3 0 0 (Nat.zero_le _)
  have b2 := rdf_le l 1 _ (rdf l 3 0 0).2.2 b1
  have b3 := rdf_le l 8 _ (rdf l 1 (rdf l 3 0 0).2.1 (rdf l 3 0 0).2.2).2.2 b2
  have b4 := rdf_le l 2 _ (rdf l 8 (rdf l 1 (rdf l 3 0 0).2.1 (rdf l 3 0 0).2.2).2.1 (rdf l 1 (rdf l 3 0 0).2.1 (rdf l 3 0 0).2.2).2.2).2.2 b3
  have a1 := unsigned_ev l hs 0 (Nat.zero_le _) 0 3 3 rfl (by omega) (by omega) (q + 1) (by omega)
  have a2 := flag_ev l hs _ b1 (rdf l 3 0 0).2.2 (q + 1) (by omega)
  have a3 := unsigned_ev l hs _ b2 (rdf l 1 (rdf l 3 0 0).2.1 (rdf l 3 0 0).2.2).2.2 8 8 rfl (by omega) (by omega) (q + 1) (by omega)
  have a4 := unsigned_ev l hs _ b3 (rdf l 8 (rdf l 1 (rdf l 3 0 0).2.1 (rdf l 3 0 0).2.2).2.1 (rdf l 1 (rdf l 3 0 0).2.1 (rdf l 3 0 0).2.2).2.2).2.2 2 2 rfl (by omega) (by omega) (q + 1) (by omega)
  unfold decA rdM
  dsimp only
  generalize (rdf l 2 (rdf l 8 (rdf l 1 (rdf l 3 0 0).2.1 (rdf l 3 0 0).2.2).2.1 (rdf l 1 (rdf l 3 0 0).2.1 (rdf l 3 0 0).2.2).2.2).2.1 (rdf l 8 (rdf l 1 (rdf l 3 0 0).2.1 (rdf l 3 0 0).2.2).2.1 (rdf l 1 (rdf l 3 0 0).2.1 (rdf l 3 0 0).2.2).2.2).2.2) = h4 at *
  have a5 := unsigned_ev l hs _ b4 h4.2.2 10 10 rfl (by omega) (by omega) (q + 1) (by omega)
  have b5 := rdf_le l 10 _ h4.2.2 b4
  generalize rdf l 10 h4.2.1 h4.2.2 = h5 at *
  have a6 := places_ev l hs _ b5 h5.2.2 (q + 1) (by omega)
  have b6 : (rdL 8 l h5.2.1 h5.2.2).2.1 ≤ 8 * l.length := rdL_le b5
  generalize rdL 8 l h5.2.1 h5.2.2 = h6 at *
  have a7 := places_ev l hs _ b6 h6.2.2 (q + 1) (by omega)
  have b7 : (rdL 8 l h6.2.1 h6.2.2).2.1 ≤ 8 * l.length := rdL_le b6
  generalize rdL 8 l h6.2.1 h6.2.2 = h7 at *
  unfold cellmsg_Decode.f
  rw [e0, Option.bind_some, a1, Option.bind_some, a2, Option.bind_some, a3, Option.bind_some, a4, Option.bind_some, a5, Option.bind_some, a6, Option.bind_some, a7, Option.bind_some]
  exact tail_ev q l hs ⟨_, _, _, _, _, h6.1, h7.1⟩ h7.2.1 b7 h7.2.2
end Go.Proofs.Ytjjcgjpmhhkeaaa.CmHe
