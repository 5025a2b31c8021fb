/- What the printed functions of the reference's reader come to: its fields at a place, with the string gone behind an error. (cut to what is reached: wip/tools/slimout2.py) -/
import Derived.Test.YtjjcgjpmhhkeaaaSND2
import Derived.Test.YtjjcgjpmhhkeaaaSNRdC
import Derived.Laws.BitsAllLaws
namespace Go.Proofs.Ytjjcgjpmhhkeaaa.RfEvD
set_option linter.unusedSimpArgs false
set_option linter.unusedVariables false
open Go.RowKit Go.Proofs.Ytjjcgjpmhhkeaaa.D Go.Proofs.Ytjjcgjpmhhkeaaa.Pack Go.Proofs.Ytjjcgjpmhhkeaaa.WrPut Go.Proofs.Ytjjcgjpmhhkeaaa.Rd Go.Proofs.Ytjjcgjpmhhkeaaa.RdC Go.Proofs.YtjjcgjpmhhkeaaaW.PrintWords Go.Proofs.YtjjcgjpmhhkeaaaW.PrintLast Go.Proofs.YtjjcgjpmhhkeaaaW.PrintMore
open Go.Proofs.Ytjjcgjpmhhkeaaa.Bytes (Str)
theorem wr {a : Int} (h0 : -9223372036854775808 ≤ a) (h1 : a ≤ 9223372036854775807) : wrap64 a = a := by unfold wrap64; omega
theorem str_size (l : List UInt8) : (Str l).size = l.length := by show l.toArray.size = _; simp
theorem bt_byte (d : ByteArray) (i : Nat) (h : i < d.size) : bt d (i : Int) = (d[i].toNat : Int) := by
  unfold bt; simp [h]
def S (l : List UInt8) (e : Int) : ByteArray := if e = 0 then Str l else ⟨#[]⟩
def P (i : Nat) (e : Int) : Int := if e = 0 then (i : Int) else 0
theorem S0 (l : List UInt8) : S l 0 = Str l := if_pos rfl
theorem P0 (i : Nat) : P i 0 = (i : Int) := if_pos rfl
theorem S1 (l : List UInt8) {e : Int} (h : e ≠ 0) : S l e = ⟨#[]⟩ := if_neg h
theorem P1 (i : Nat) {e : Int} (h : e ≠ 0) : P i e = 0 := if_neg h
theorem i64_and1 (n : Int) : Go.bits .and .i64 n 1 = n % 2 := by
  have h1 : (BitVec.ofInt 64 1).toNat = 2 ^ 1 - 1 := by decide
  have key : (BitVec.ofInt 64 n &&& BitVec.ofInt 64 1).toNat = (n % ((2 ^ 64 : Nat) : Int)).toNat % 2 ^ 1 := by
    rw [BitVec.toNat_and, BitVec.toNat_ofInt, h1, Nat.and_two_pow_sub_one_eq_mod]
  show IntKind.i64.wrap ((BitVec.ofInt 64 n &&& BitVec.ofInt 64 1).toNat : Nat) = n % 2
  rw [key, IntKind.wrap_i64]
  omega
theorem i64_or_nat (a b : Nat) (ha : a < 9223372036854775808) (hb : b < 9223372036854775808) : Go.bits .or .i64 (a : Int) (b : Int) = ((a ||| b : Nat) : Int) := by
  have key : (BitVec.ofInt 64 (a : Int) ||| BitVec.ofInt 64 (b : Int)).toNat = a ||| b := by
    rw [BitVec.toNat_or, BitVec.toNat_ofInt, BitVec.toNat_ofInt]
    congr 1 <;> omega
  show IntKind.i64.wrap ((BitVec.ofInt 64 (a : Int) ||| BitVec.ofInt 64 (b : Int)).toNat : Nat) = _
  have hl : a ||| b < 2 ^ 63 := Nat.or_lt_two_pow ha hb
  rw [key, IntKind.wrap_i64]
  omega
theorem bit_at (l : List UInt8) (i : Nat) (h : i < 8 * l.length) (z : Int) (hz : z = ((i / 8 : Nat) : Int)) (y : Int) (hy : y = ((7 - i % 8 : Nat) : Int)) :
    Go.bits .and .i64 (shr .i64 (wrap64 (bt (Str l) z)) y) 1 = ((if bitAt l i then 1 else 0 : Nat) : Int) := by
  subst hz hy
  have hi : i / 8 < (Str l).size := by rw [str_size]; omega
  have e0 : bt (Str l) ((i / 8 : Nat) : Int) = ((l.getD (i / 8) 0).toNat : Int) := by
    rw [bt_byte _ _ hi]
    have hi2 : i / 8 < l.length := by omega
    have : (Str l)[i / 8] = l[i / 8] := by show l.toArray[i / 8] = _; simp
    rw [this]; simp [List.getD, hi2]
  rw [e0]
  have hb := (l.getD (i / 8) 0).toNat_lt
  unfold bitAt
  generalize (l.getD (i / 8) 0).toNat = b at hb ⊢
  rw [wr (by omega) (by omega)]
  have e1 : shr .i64 (b : Int) ((7 - i % 8 : Nat) : Int) = ((b / 2 ^ (7 - i % 8) : Nat) : Int) := by
    unfold shr
    rw [Int.toNat_natCast, Nat.min_eq_left (show 7 - i % 8 ≤ IntKind.i64.bits by show 7 - i % 8 ≤ 64; omega)]
    simp
  rw [e1, i64_and1, Nat.testBit_eq_decide_div_mod_eq]
  generalize b / 2 ^ (7 - i % 8) = c
  by_cases hc : c % 2 = 1
  · simp [hc]; omega
  · have : c % 2 = 0 := by omega
    simp [this]; omega
theorem bit_ev (l : List UInt8) (i : Nat) (h : i < 8 * l.length) (x : Nat) (hx : x < 4611686018427387904) (z : Int) (hz : z = ((i / 8 : Nat) : Int)) (y : Int) (hy : y = ((7 - i % 8 : Nat) : Int)) :
    Go.bits .or .i64 (wrap64 ((x : Int) * 2)) (Go.bits .and .i64 (shr .i64 (wrap64 (bt (Str l) z)) y) 1) = ((2 * x + (if bitAt l i then 1 else 0) : Nat) : Int) := by
  rw [bit_at l i h z hz y hy]
  have e3 : wrap64 ((x : Int) * 2) = ((2 * x : Nat) : Int) := by rw [wr (by omega) (by omega)]; omega
  have hc : (if bitAt l i then 1 else 0 : Nat) < 2 := by split <;> omega
  generalize (if bitAt l i then 1 else 0 : Nat) = c at hc
  rw [e3, i64_or_nat _ _ (by omega) (by omega)]
  congr 1
  have := Nat.two_pow_add_eq_or_of_lt (i := 1) (b := c) (by omega) x
  rw [show 2 ^ 1 * x = 2 * x by omega] at this
  exact this.symm
theorem get_loop (l : List UInt8) (hs : l.length ≤ 65536) (i k : Nat) (h : i + k ≤ 8 * l.length) (hk : k ≤ 62) (e : Int) (d : Nat) : ∀ (q j : Nat), j + d = k → d < q →
    hopmeshref02_Reader_get.l0 q (k : Int) (valN (bitsAt l i j) : Int) (j : Int) (Str l) ((i + j : Nat) : Int) e = some ((valN (bitsAt l i k) : Int), Str l, ((i + k : Nat) : Int), e) := by
  induction d with
  | zero =>
    intro q j hj hq
    obtain ⟨q, rfl⟩ : ∃ m, q = m + 1 := ⟨q - 1, by omega⟩
    obtain rfl : j = k := by omega
    simp only [hopmeshref02_Reader_get.l0]
    rw [if_neg (by omega)]
  | succ d ih =>
    intro q j hj hq
    obtain ⟨q, rfl⟩ : ∃ m, q = m + 1 := ⟨q - 1, by omega⟩
    simp only [hopmeshref02_Reader_get.l0]
    have hx : valN (bitsAt l i j) < 4611686018427387904 := Nat.lt_of_lt_of_le (val_lt l i j) (by
      have : (2 : Nat) ^ j ≤ 2 ^ 62 := Nat.pow_le_pow_right (by decide) (by omega)
      omega)
    have e1 : wrap64 (Int.tdiv ((i + j : Nat) : Int) 8) = (((i + j) / 8 : Nat) : Int) := by
      rw [Int.tdiv_eq_ediv_of_nonneg (by omega), wr (by omega) (by omega)]; omega
    have e2 : wrap64 (7 - Int.tmod ((i + j : Nat) : Int) 8) = ((7 - (i + j) % 8 : Nat) : Int) := by
      rw [Int.tmod_eq_emod_of_nonneg (by omega), wr (by omega) (by omega)]; omega
    rw [if_pos (by omega), e1, e2, if_pos (by omega), if_pos (by rw [str_size]; omega), if_pos (by omega), bit_ev l (i + j) (by omega) _ hx _ rfl _ rfl,
      wr (a := (j : Int) + 1) (by omega) (by omega), wr (a := ((i + j : Nat) : Int) + 1) (by omega) (by omega),
      show (j : Int) + 1 = ((j + 1 : Nat) : Int) by omega, show ((i + j : Nat) : Int) + 1 = ((i + (j + 1) : Nat) : Int) by omega, ← valN_snoc, ← bitsAt_succ]
    exact ih q (j + 1) (by omega) (by omega)
theorem left_ev (l : List UInt8) (hs : l.length ≤ 65536) (i : Nat) (hi : i ≤ 8 * l.length) : wrap64 ((wrap64 (8 * ((Str l).size : Int))) - (i : Int)) = 8 * (l.length : Int) - (i : Int) := by
  rw [str_size, wr (a := 8 * (l.length : Int)) (by omega) (by omega), wr (by omega) (by omega)]
theorem left_f (l : List UInt8) (hs : l.length ≤ 65536) (i : Nat) (hi : i ≤ 8 * l.length) (e : Int) : hopmeshref02_Reader_Left.f (Str l) (i : Int) e = some (8 * (l.length : Int) - (i : Int), Str l, (i : Int), e) := by
  unfold hopmeshref02_Reader_Left.f
  rw [left_ev l hs i hi]
theorem get_off (l : List UInt8) (i : Nat) (e : Int) (he : e ≠ 0) (k : Nat) (q : Nat) : hopmeshref02_Reader_get.f q (S l e) (P i e) e (k : Int) = some (0, S l e, P i e, e) := by
  unfold hopmeshref02_Reader_get.f
  rw [if_neg he]
theorem get_short (l : List UInt8) (hs : l.length ≤ 65536) (i : Nat) (hi : i ≤ 8 * l.length) (k : Nat) (q : Nat) (hl : 8 * l.length < i + k) : hopmeshref02_Reader_get.f q (Str l) (i : Int) 0 (k : Int) = some (0, ⟨#[]⟩, 0, 9) := by
  unfold hopmeshref02_Reader_get.f
  rw [if_pos rfl]
  rw [left_f l hs i hi, Option.bind_some]
  dsimp only
  rw [if_pos (by omega)]
  rfl
theorem get_on (l : List UInt8) (hs : l.length ≤ 65536) (i : Nat) (k : Nat) (hk : k ≤ 62) (q : Nat) (hq : k < q) (hl : i + k ≤ 8 * l.length) : hopmeshref02_Reader_get.f q (Str l) (i : Int) 0 (k : Int) = some ((valN (bitsAt l i k) : Int), Str l, ((i + k : Nat) : Int), 0) := by
  have h0 := get_loop l hs i k hl hk 0 k q 0 (by omega) hq
  have h1 : valN (bitsAt l i 0) = 0 := by simp [bitsAt, valN]
  rw [h1, Nat.add_zero, show ((0 : Nat) : Int) = 0 from rfl] at h0
  unfold hopmeshref02_Reader_get.f
  rw [if_pos rfl]
  rw [left_f l hs i (by omega), Option.bind_some]
  dsimp only
  rw [if_neg (by omega)]
  exact h0
theorem get_ev (l : List UInt8) (hs : l.length ≤ 65536) (i : Nat) (hi : i ≤ 8 * l.length) (e : Int) (k : Nat) (hk : k ≤ 62) (q : Nat) (hq : k < q) :
    hopmeshref02_Reader_get.f q (S l e) (P i e) e (k : Int) = some (((rdf l k i e).1 : Int), S l (rdf l k i e).2.2, P (rdf l k i e).2.1 (rdf l k i e).2.2, (rdf l k i e).2.2) := by
  unfold rdf
  by_cases he : e = 0
  · subst he
    rw [if_pos rfl, S0, P0]
    by_cases hl : 8 * l.length < i + k
    · rw [get_short l hs i hi k q hl, if_pos hl]
      simp only [S1 l (show (9 : Int) ≠ 0 by decide), P1 _ (show (9 : Int) ≠ 0 by decide)]
      simp
    · rw [get_on l hs i k hk q hq (by omega), if_neg hl]
      simp only [S0, P0]
  · rw [get_off l i e he, if_neg he]
    simp
theorem unsigned_ev (l : List UInt8) (hs : l.length ≤ 65536) (i : Nat) (hi : i ≤ 8 * l.length) (e : Int) (k : Nat) (kI : Int) (hkI : (k : Int) = kI) (h1 : 1 ≤ k) (hk : k ≤ 62) (q : Nat) (hq : k + 1 < q) :
    hopmeshref02_Reader_Unsigned.f q (S l e) (P i e) e kI = some (((rdf l k i e).1 : Int), S l (rdf l k i e).2.2, P (rdf l k i e).2.1 (rdf l k i e).2.2, (rdf l k i e).2.2) := by
  subst hkI
  obtain ⟨q, rfl⟩ : ∃ m, q = m + 1 := ⟨q - 1, by omega⟩
  have hJ : hopmeshref02_Reader_Unsigned.j0 (q + 1) (k : Int) false (S l e) (P i e) e = some (((rdf l k i e).1 : Int), S l (rdf l k i e).2.2, P (rdf l k i e).2.1 (rdf l k i e).2.2, (rdf l k i e).2.2) := by
    simp only [hopmeshref02_Reader_Unsigned.j0]
    rw [if_neg (by decide), get_ev l hs i hi e k hk q (by omega)]; rfl
  unfold hopmeshref02_Reader_Unsigned.f
  rw [if_neg (show ¬ (k : Int) < 1 by omega), show decide ((k : Int) > 63) = false by simp; omega, hJ]
  split <;> rfl
theorem flag_ev (l : List UInt8) (hs : l.length ≤ 65536) (i : Nat) (hi : i ≤ 8 * l.length) (e : Int) (q : Nat) (hq : 1 < q) :
    hopmeshref02_Reader_Flag.f q (S l e) (P i e) e = some (decide ((rdf l 1 i e).1 = 1), S l (rdf l 1 i e).2.2, P (rdf l 1 i e).2.1 (rdf l 1 i e).2.2, (rdf l 1 i e).2.2) := by
  unfold hopmeshref02_Reader_Flag.f
  have := get_ev l hs i hi e 1 (by omega) q hq
  rw [show ((1 : Nat) : Int) = 1 from rfl] at this
  rw [this]; simp only [Option.bind_some]
  congr 2
  by_cases g : (rdf l 1 i e).1 = 1
  · simp [g]
  · have : ¬ ((rdf l 1 i e).1 : Int) = 1 := by omega
    simp [g, this]
theorem bits_cons (l : List UInt8) (i d : Nat) : bitsAt l i (d + 1) = bitAt l i :: bitsAt l (i + 1) d := by
  unfold bitsAt
  rw [List.range_succ_eq_map, List.map_cons, List.map_map, Nat.add_zero]
  congr 1
  apply List.map_congr_left
  intro j _
  show bitAt l (i + (j + 1)) = bitAt l (i + 1 + j)
  congr 1; omega
theorem valN_cons (b : Bool) (bs : List Bool) : valN (b :: bs) = (if b then 2 ^ bs.length else 0) + valN bs := by
  have key : ∀ (bs : List Bool) (a : Nat), bs.foldl (fun a b => 2 * a + (if b then 1 else 0)) a = a * 2 ^ bs.length + bs.foldl (fun a b => 2 * a + (if b then 1 else 0)) 0 := by
    intro bs
    induction bs with
    | nil => intro a; simp
    | cons c bs ih =>
      intro a
      simp only [List.foldl_cons, List.length_cons]
      rw [ih (2 * a + _), ih (2 * 0 + _), Nat.mul_zero, Nat.zero_add, Nat.pow_succ, Nat.add_mul, Nat.mul_comm 2 a, Nat.mul_assoc, Nat.mul_comm 2 (2 ^ bs.length)]
      omega
  unfold valN
  rw [List.foldl_cons, key]
  cases b <;> simp
theorem valN_bits_cons (l : List UInt8) (i d : Nat) : valN (bitsAt l i (d + 1)) = (if bitAt l i then 2 ^ d else 0) + valN (bitsAt l (i + 1) d) := by
  rw [bits_cons, valN_cons, bitsAt_length]
theorem close_loop (l : List UInt8) (hs : l.length ≤ 65536) (p : Int) (e : Int) (d : Nat) : ∀ (q i : Nat), i + d = 8 * l.length → d < q →
    hopmeshref02_Reader_Close.l0 q (i : Int) (Str l) p e = some ((if valN (bitsAt l i d) ≠ 0 then 10 else 0), Str l, p, e) := by
  induction d with
  | zero =>
    intro q i hi hq
    obtain ⟨q, rfl⟩ : ∃ m, q = m + 1 := ⟨q - 1, by omega⟩
    simp only [hopmeshref02_Reader_Close.l0]
    rw [str_size, wr (by omega) (by omega), if_neg (by omega)]
    rfl
  | succ d ih =>
    intro q i hi hq
    obtain ⟨q, rfl⟩ : ∃ m, q = m + 1 := ⟨q - 1, by omega⟩
    simp only [hopmeshref02_Reader_Close.l0]
    have e1 : wrap64 (Int.tdiv (i : Int) 8) = ((i / 8 : Nat) : Int) := by
      rw [Int.tdiv_eq_ediv_of_nonneg (by omega), wr (by omega) (by omega)]; omega
    have e2 : wrap64 (7 - Int.tmod (i : Int) 8) = ((7 - i % 8 : Nat) : Int) := by
      rw [Int.tmod_eq_emod_of_nonneg (by omega), wr (by omega) (by omega)]; omega
    have e3 : wrap64 (8 * ((Str l).size : Int)) = 8 * (l.length : Int) := by rw [str_size, wr (by omega) (by omega)]
    rw [e1, e2, e3, if_pos (by omega), if_pos (by omega), if_pos (by rw [str_size]; omega), if_pos (by omega), bit_at l i (by omega) _ rfl _ rfl,
      wr (a := (i : Int) + 1) (by omega) (by omega), show (i : Int) + 1 = ((i + 1 : Nat) : Int) by omega, ih q (i + 1) (by omega) (by omega)]
    have hv := valN_bits_cons l i d
    by_cases hb : bitAt l i = true
    · rw [hb] at hv ⊢
      have hp := Nat.two_pow_pos d
      rw [if_pos (by rfl), if_pos (by rw [hv, if_pos rfl]; omega)]
    · rw [Bool.not_eq_true] at hb
      rw [hb] at hv ⊢
      rw [if_neg (by decide)]
      have : valN (bitsAt l i (d + 1)) = valN (bitsAt l (i + 1) d) := by rw [hv, if_neg (by decide)]; omega
      rw [this]
theorem close_ev (l : List UInt8) (hs : l.length ≤ 65536) (i : Nat) (hi : i ≤ 8 * l.length) (e : Int) (q : Nat) (hq : 8 < q) :
    ∃ x y z, hopmeshref02_Reader_Close.f q (S l e) (P i e) e = some (closeF l i e, x, y, z) := by
  unfold hopmeshref02_Reader_Close.f closeF
  by_cases he : e = 0
  · subst he
    rw [if_pos rfl, if_pos rfl, S0, P0, left_f l hs i hi, Option.bind_some]
    dsimp only
    by_cases h8 : 8 ≤ 8 * l.length - i
    · rw [if_pos (by omega), if_pos h8]; exact ⟨_, _, _, rfl⟩
    · rw [if_neg (by omega), if_neg h8, close_loop l hs _ 0 (8 * l.length - i) q i (by omega) (by omega)]; exact ⟨_, _, _, rfl⟩
  · rw [if_neg he, if_neg he]; exact ⟨_, _, _, rfl⟩
end Go.Proofs.Ytjjcgjpmhhkeaaa.RfEvD
