/- The row of the law FrameFinds: for every input it returns true, and the input reads as it did. Written by wip/row.py of this session. The walk of FrameFinds. Printed by wip/frfi.py. A frame with one or two wrong bits: plain. Wrong bits and the syndrome: plain lemmas. -/
import Derived.Test.YtbgnkjaikbhdoaaMF2
import Derived.Test.YtbgnkjaikbhdoaaMF4
import Derived.RegionTactic
import Derived.BigRegion
import Derived.Test.YtbgnkjaikbhdoaaRows
import Derived.WalkKit
import Derived.ProofKit
import Derived.OpenShut
import Derived.ShutString
import Derived.ChangeOld
import Derived.Below
import Derived.SizedLaws
-- CrcFindsP
namespace Go.Proofs.Ytbgnkjaikbhdoaa.FindsP
open Go.Proofs.Ytbgnkjaikbhdoaa.Alg

/-- A string with these bits turned, one behind the other. -/
def flips (l : List UInt8) (ks : List Nat) : List UInt8 := ks.foldl flip l
/-- The sum of the powers of x. -/
def pows (ks : List Nat) : BitVec 16 := ks.foldl (fun a k => a ^^^ pow k) 0#16
theorem flips_snoc (l : List UInt8) (ks : List Nat) (k : Nat) : flips l (ks ++ [k]) = flip (flips l ks) k := by simp [flips]
theorem pows_snoc (ks : List Nat) (k : Nat) : pows (ks ++ [k]) = pows ks ^^^ pow k := by simp [pows]
theorem flips_length (l : List UInt8) (ks : List Nat) : (flips l ks).length = l.length := by
  induction ks using snoc_ind with
  | h0 => rfl
  | h1 ks k ih => rw [flips_snoc, flip_length, ih]
theorem rem_flips (l : List UInt8) (ks : List Nat) (h : ∀ k ∈ ks, k < 8 * l.length) : rem (flips l ks) = rem l ^^^ pows ks := by
  induction ks using snoc_ind with
  | h0 => simp [flips, pows]
  | h1 ks k ih =>
    rw [flips_snoc, rem_flip _ _ (by rw [flips_length]; exact h k (by simp)), ih (fun j hj => h j (by simp [hj])), pows_snoc, BitVec.xor_assoc]
theorem par_pows (ks : List Nat) : par 16 (pows ks) = (ks.length % 2 == 1) := by
  induction ks using snoc_ind with
  | h0 => rfl
  | h1 ks k ih =>
    rw [pows_snoc, par_xor, ih, par_pow, List.length_append, List.length_singleton]
    have : ks.length % 2 = 0 ∨ ks.length % 2 = 1 := by omega
    rcases this with h | h
    · rw [h, show (ks.length + 1) % 2 = 1 by omega]; rfl
    · rw [h, show (ks.length + 1) % 2 = 0 by omega]; rfl
theorem odd_ne (ks : List Nat) (h : ks.length % 2 = 1) : pows ks ≠ 0#16 := by
  intro e
  have := par_pows ks
  rw [e, par_zero, h] at this
  simp at this
theorem two_ne (a b : Nat) (ha : a < 32767) (hb : b < 32767) (h : a ≠ b) : pows [a, b] ≠ 0#16 := by
  intro e
  have e' : pow a ^^^ pow b = 0#16 := by simpa [pows] using e
  have : pow a = pow b := by
    have : pow a ^^^ pow b ^^^ pow b = 0#16 ^^^ pow b := by rw [e']
    simpa [BitVec.xor_assoc] using this
  exact h (pow_inj ha hb this)
/-- The bits of a burst that lie within the string. -/
def burst (m i n : Nat) (j : Nat) : List Nat := ((List.range j).filter fun k => m.testBit k && decide (i + k < n)).map (i + ·)
theorem burst_succ (m i n j : Nat) : burst m i n (j + 1) = if m.testBit j && decide (i + j < n) then burst m i n j ++ [i + j] else burst m i n j := by
  unfold burst
  rw [List.range_succ, List.filter_append, List.map_append]
  by_cases h : (m.testBit j && decide (i + j < n)) = true
  · rw [if_pos h]; simp [List.filter_cons, h]
  · rw [if_neg h]; simp [List.filter_cons, h]
theorem burst_lt (m i n j : Nat) : ∀ k ∈ burst m i n j, k < n := by
  intro k hk
  unfold burst at hk
  simp only [List.mem_map, List.mem_filter, Bool.and_eq_true, decide_eq_true_eq] at hk
  obtain ⟨a, ⟨_, _, h⟩, rfl⟩ := hk
  exact h
/-- A burst as a residue. -/
def mask (m i n : Nat) : Nat → BitVec 16
  | 0 => 0#16
  | j + 1 => if m.testBit j && decide (i + j < n) then mask m i n j ^^^ BitVec.twoPow 16 j else mask m i n j
theorem pows_burst (m i n j : Nat) (hj : j ≤ 16) : pows (burst m i n j) = Tn i (mask m i n j) := by
  induction j with
  | zero => simp [burst, pows, mask, Tn_zero]
  | succ j ih =>
    rw [burst_succ]
    simp only [mask]
    split
    · rw [pows_snoc, ih (by omega), Tn_xor, ← pow_bit j (by omega), ← Tn_add]; rfl
    · exact ih (by omega)
theorem mask_bit (m i n j : Nat) (hj : j ≤ 16) (k : Nat) (hk : k < 16) : (mask m i n j).getLsbD k = (decide (k < j) && m.testBit k && decide (i + k < n)) := by
  induction j with
  | zero => simp [mask]
  | succ j ih =>
    simp only [mask]
    by_cases h : (m.testBit j && decide (i + j < n)) = true
    · rw [if_pos h, BitVec.getLsbD_xor, ih (by omega)]
      by_cases e : k = j
      · subst e; simp at h; simp [hk, h.1, h.2]
      · have e' : ¬ j = k := fun x => e x.symm
        by_cases l : k < j
        · simp [l, e', show k < j + 1 by omega]
        · simp [l, e', show ¬ k < j + 1 by omega]
    · rw [if_neg h, ih (by omega)]
      by_cases e : k = j
      · subst e
        have : (m.testBit k && decide (i + k < n)) = false := by simpa using h
        simp only [Bool.and_assoc, this]; simp
      · by_cases l : k < j
        · simp [l, show k < j + 1 by omega]
        · simp [l, show ¬ k < j + 1 by omega]
theorem burst_zero (m i n : Nat) (h : pows (burst m i n 16) = 0#16) : burst m i n 16 = [] := by
  rw [pows_burst m i n 16 (Nat.le_refl _)] at h
  have h0 := Tn_eq_zero h
  unfold burst
  rw [List.map_eq_nil_iff, List.filter_eq_nil_iff]
  intro k hk
  have hk' : k < 16 := List.mem_range.1 hk
  have := mask_bit m i n 16 (Nat.le_refl _) k hk'
  rw [h0] at this
  simp [hk'] at this
  simp only [Bool.and_eq_true, decide_eq_true_eq, not_and]
  intro a
  have := this a
  omega
end Go.Proofs.Ytbgnkjaikbhdoaa.FindsP

-- FrFindsP
namespace Go.Proofs.Ytbgnkjaikbhdoaa.FrFindsP
set_option linter.unusedSimpArgs false
set_option linter.unusedVariables false
open Go.Proofs.Ytbgnkjaikbhdoaa.Pack Go.Proofs.Ytbgnkjaikbhdoaa.FrC Go.Proofs.Ytbgnkjaikbhdoaa.FrEn Go.Proofs.Ytbgnkjaikbhdoaa.Alg Go.Proofs.Ytbgnkjaikbhdoaa.FrCrc Go.Proofs.Ytbgnkjaikbhdoaa.Dec Go.Proofs.Ytbgnkjaikbhdoaa.BackF Go.Proofs.Ytbgnkjaikbhdoaa.Strict Go.Proofs.Ytbgnkjaikbhdoaa.FindsP

/-- Bit i % 8 of byte i / 8 is turned. -/
def turn (l : List UInt8) (i : Nat) : List UInt8 := l.set (i / 8) (l.getD (i / 8) 0 ^^^ (1 <<< UInt8.ofNat (i % 8)))
/-- The number of that bit as crc counts. -/
def num (n i : Nat) : Nat := 8 * (n - 1 - i / 8) + i % 8
theorem turn_flip (l : List UInt8) (i : Nat) (h : i < 8 * l.length) : turn l i = Alg.flip l (num l.length i) := by
  unfold turn Alg.flip num
  rw [show l.length - 1 - (8 * (l.length - 1 - i / 8) + i % 8) / 8 = i / 8 by omega, show (8 * (l.length - 1 - i / 8) + i % 8) % 8 = i % 8 by omega]
theorem num_lt (n i : Nat) (h : i < 8 * n) : num n i < 8 * n := by unfold num; omega
theorem num_inj {n i k : Nat} (hi : i < 8 * n) (hk : k < 8 * n) (h : num n i = num n k) : i = k := by unfold num at h; omega
theorem turn_length (l : List UInt8) (i : Nat) : (turn l i).length = l.length := by simp [turn]
theorem turn_twice (l : List UInt8) (i : Nat) (h : i < 8 * l.length) : turn (turn l i) i = l := by
  unfold turn
  have hi : i / 8 < l.length := by omega
  rw [List.set_set]
  simp only [List.getD, List.getElem?_set_self hi, Option.getD_some, List.getElem?_eq_getElem hi]
  rw [UInt8.xor_assoc, UInt8.xor_self, UInt8.xor_zero]
  exact List.set_getElem_self hi
theorem rem_one {l : List UInt8} (hr : rem l = 0#16) (i : Nat) (h : i < 8 * l.length) : rem (turn l i) ≠ 0#16 := by
  rw [turn_flip l i h]
  have := rem_flips l [num l.length i] (by intro k hk; simp at hk; subst hk; exact num_lt _ _ h)
  rw [show flips l [num l.length i] = Alg.flip l (num l.length i) from rfl] at this
  rw [this, hr]
  simpa using odd_ne [num l.length i] rfl
theorem rem_two {l : List UInt8} (hr : rem l = 0#16) (hl : l.length ≤ 4000) (i k : Nat) (h : i < 8 * l.length) (hk : k < 8 * l.length) (hne : i ≠ k) : rem (turn (turn l i) k) ≠ 0#16 := by
  rw [turn_flip (turn l i) k (by rw [turn_length]; exact hk), turn_flip l i h, flip_length]
  have := rem_flips l [num l.length i, num l.length k] (by
    intro j hj; simp at hj
    rcases hj with rfl | rfl
    · exact num_lt _ _ h
    · exact num_lt _ _ hk)
  rw [show flips l [num l.length i, num l.length k] = Alg.flip (Alg.flip l (num l.length i)) (num l.length k) from rfl] at this
  rw [this, hr]
  have hn := num_lt _ _ h
  have hn2 := num_lt _ _ hk
  simpa using two_ne (num l.length i) (num l.length k) (by omega) (by omega) (fun e => hne (num_inj h hk e))
/-- What FrameFinds asks. -/
theorem finds {k s t l q x y er sl rk ep : Int} {d p : List UInt8} (h : encF k s t l q x y er sl rk ep d = (p, 0)) (hp : p.length ≤ 127) :
    2 ≤ p.length ∧ (∀ i, i < 8 * p.length → decF (turn p i) = (.zero, 10)) ∧ (∀ i j, i < 8 * p.length → j < 8 * p.length → i ≠ j → decF (turn (turn p i) j) = (.zero, 10)) ∧
    (∀ i, i < 8 * p.length → decF (turn (turn p i) i) = (⟨k, s, t, l, q, x, y, er, sl, rk, ep, d⟩, 0)) := by
  have hd := dec_enc h
  obtain ⟨_, _, hl, hpe⟩ := enc_facts h
  have h2 : 2 ≤ p.length := by rw [hpe, protect_length]; omega
  have hr : rem p = 0#16 := by rw [hpe]; exact rem_protect _
  refine ⟨h2, fun i hi => ?_, fun i j hi hj hne => ?_, fun i hi => ?_⟩
  · exact dec_bent (by rw [turn_length]; exact hp) (by rw [turn_length]; exact h2) (rem_one hr i hi)
  · exact dec_bent (by rw [turn_length, turn_length]; exact hp) (by rw [turn_length, turn_length]; exact h2) (rem_two hr (by omega) i j hi hj hne)
  · rw [turn_twice p i hi]; exact hd
end Go.Proofs.Ytbgnkjaikbhdoaa.FrFindsP

-- FrFindsW
namespace Go.Proofs.Ytbgnkjaikbhdoaa.FrFindsW
set_option linter.unusedSimpArgs false
set_option linter.unusedVariables false
open Go.Proofs.YtbgnkjaikbhdoaaW.PrintWords Go.Proofs.YtbgnkjaikbhdoaaW.PrintLast
open Go.RowKit Go.Proofs.Ytbgnkjaikbhdoaa.Pack Go.Proofs.Ytbgnkjaikbhdoaa.FrA Go.Proofs.Ytbgnkjaikbhdoaa.FrF Go.Proofs.Ytbgnkjaikbhdoaa.FrCrc Go.Proofs.Ytbgnkjaikbhdoaa.FrE Go.Proofs.Ytbgnkjaikbhdoaa.FrC Go.Proofs.Ytbgnkjaikbhdoaa.FrEn Go.Proofs.Ytbgnkjaikbhdoaa.FrT Go.Proofs.Ytbgnkjaikbhdoaa.FrAw Go.Proofs.Ytbgnkjaikbhdoaa.Alg Go.Proofs.Ytbgnkjaikbhdoaa.Dec Go.Proofs.Ytbgnkjaikbhdoaa.BackF Go.Proofs.Ytbgnkjaikbhdoaa.Strict Go.Proofs.Ytbgnkjaikbhdoaa.FrAt
open Go.Proofs.Ytbgnkjaikbhdoaa.FrFindsP
open Go.Proofs.Ytbgnkjaikbhdoaa.Bytes (Str ByteRow)

theorem one_shl : ∀ k, k < 8 → ((1 : UInt8) <<< UInt8.ofNat k).toNat = 2 ^ k := by decide
theorem xor_bit (c : UInt8) (k : Nat) (hk : k < 8) : Go.bits .xor .u8 (c.toNat : Int) (2 ^ k % 256) = ((c ^^^ (1 <<< UInt8.ofNat k)).toNat : Int) := by
  have h : ((2 : Int) ^ k % 256) = (((1 : UInt8) <<< UInt8.ofNat k).toNat : Int) := by
    rw [one_shl k hk]; revert k; decide
  rw [h, u8_xor_nat _ _ c.toNat_lt (UInt8.toNat_lt _), UInt8.toNat_xor]
theorem below_dr {B : Nat} {a w : World} (h : Below B a w) : Below B a w.drew := ⟨h.os, h.tape, h.output, h.size, h.block⟩
theorem below_drN {B : Nat} {a w : World} (h : Below B a w) (n : Nat) : Below B a (w.drewN n) := ⟨h.os, h.tape, h.output, h.size, h.block⟩

set_option maxRecDepth 100000 in
set_option maxHeartbeats 8000000 in
theorem far (k s t l q x y er sl rk ep : Int) (d : List UInt8) (na nb : Nat) (hd : 100 < d.length) (w : World) :
    Calls Try.prog 8 #[.agg (fr k s t l q x y er sl rk ep d), .int .u16 (na : Int), .int .u16 (nb : Int)] w fun r w' => r = .returned (.bool true) ∧ Below w.heap.size w w' := by
  have es : (Str d).size = d.length := str_size d
  have e1 : decide ((100 : Int) < (d.length : Int)) = true := decide_eq_true (by omega)
  clear hd
  go_enter Try.func8, Try.ntmps8
  go_wp2_with fail
  ((with_reducible refine (awake_any _).mono ?_); rintro r w1 ⟨rfl, hb⟩)
  have A1 : Hid (At w w1 w.heap.size (fr k s t l q x y er sl rk ep d)) := Lib.hid (boxed _ _ _ hb)
  clear hb
  have c0 := cell_of_row w1 _ 0 _ _ _ A1.out.1
  have c1 := cell_of_row w1 _ 1 _ _ _ A1.out.1
  have c2 := cell_of_row w1 _ 2 _ _ _ A1.out.1
  have c3 := cell_of_row w1 _ 3 _ _ _ A1.out.1
  have c4 := cell_of_row w1 _ 4 _ _ _ A1.out.1
  have c5 := cell_of_row w1 _ 5 _ _ _ A1.out.1
  have c6 := cell_of_row w1 _ 6 _ _ _ A1.out.1
  have c7 := cell_of_row w1 _ 7 _ _ _ A1.out.1
  have c8 := cell_of_row w1 _ 8 _ _ _ A1.out.1
  have c9 := cell_of_row w1 _ 9 _ _ _ A1.out.1
  have c10 := cell_of_row w1 _ 10 _ _ _ A1.out.1
  have c11 := cell_of_row w1 _ 11 _ _ _ A1.out.1
  try simp only [fr] at c0 c1 c2 c3 c4 c5 c6 c7 c8 c9 c10 c11
  go_wp2_with fail
  go_ret
  exact ⟨rfl, A1.out.2⟩
set_option maxRecDepth 100000 in
set_option maxHeartbeats 8000000 in
theorem bad (k s t l q x y er sl rk ep : Int) (d : List UInt8) (na nb : Nat) (hd : d.length ≤ 100) (e : Int) (he : encF k s t l q x y er sl rk ep d = ([], e)) (h0 : decide (e = 0) = false) (w : World) :
    Calls Try.prog 8 #[.agg (fr k s t l q x y er sl rk ep d), .int .u16 (na : Int), .int .u16 (nb : Int)] w fun r w' => r = .returned (.bool true) ∧ Below w.heap.size w w' := by
  have es : (Str d).size = d.length := str_size d
  have e1 : decide ((100 : Int) < (d.length : Int)) = false := decide_eq_false (by omega)
  clear hd
  have h02 : (e == 0) = false := h0
  have h03 : (e != 0) = true := by simpa using of_decide_eq_false h0
  have HE := Lib.hid (fun w => encode_any k s t l q x y er sl rk ep d _ he w)
  clear he
  go_enter Try.func8, Try.ntmps8
  go_wp2_with fail
  ((with_reducible refine (awake_any _).mono ?_); rintro r w1 ⟨rfl, hb⟩)
  have A1 : Hid (At w w1 w.heap.size (fr k s t l q x y er sl rk ep d)) := Lib.hid (boxed _ _ _ hb)
  clear hb
  have c0 := cell_of_row w1 _ 0 _ _ _ A1.out.1
  have c1 := cell_of_row w1 _ 1 _ _ _ A1.out.1
  have c2 := cell_of_row w1 _ 2 _ _ _ A1.out.1
  have c3 := cell_of_row w1 _ 3 _ _ _ A1.out.1
  have c4 := cell_of_row w1 _ 4 _ _ _ A1.out.1
  have c5 := cell_of_row w1 _ 5 _ _ _ A1.out.1
  have c6 := cell_of_row w1 _ 6 _ _ _ A1.out.1
  have c7 := cell_of_row w1 _ 7 _ _ _ A1.out.1
  have c8 := cell_of_row w1 _ 8 _ _ _ A1.out.1
  have c9 := cell_of_row w1 _ 9 _ _ _ A1.out.1
  have c10 := cell_of_row w1 _ 10 _ _ _ A1.out.1
  have c11 := cell_of_row w1 _ 11 _ _ _ A1.out.1
  try simp only [fr] at c0 c1 c2 c3 c4 c5 c6 c7 c8 c9 c10 c11
  go_wp2_with fail
  ((with_reducible refine (HE.out _).mono ?_); rintro r w2 ⟨rfl, hb⟩)
  have A2 := Lib.hid (A1.out.later hb)
  clear hb A1 HE c0 c1 c2 c3 c4 c5 c6 c7 c8 c9 c10 c11
  go_wp2_with fail
  go_ret
  exact ⟨rfl, A2.out.2⟩
set_option maxRecDepth 100000 in
set_option maxHeartbeats 8000000 in
theorem good (k s t l q x y er sl rk ep : Int) (d : List UInt8) (na nb : Nat) (ha : na < 65536) (hb : nb < 65536) (hd : d.length ≤ 100) (p : List UInt8) (he : encF k s t l q x y er sl rk ep d = (p, 0)) (hp2 : 2 ≤ p.length) (hp : p.length ≤ 127) (i j : Nat) (hi : na % (8 * p.length) = i) (hj : nb % (8 * p.length) = j) (f1 f2 : Fm) (e2 : Int) (hD1 : decF (turn p i) = (f1, 10)) (hD2 : decF (turn (turn p i) j) = (f2, e2)) (hee : ((e2 == 10) == ((i : Int) != (j : Int))) = true) (w : World) :
    Calls Try.prog 8 #[.agg (fr k s t l q x y er sl rk ep d), .int .u16 (na : Int), .int .u16 (nb : Int)] w fun r w' => r = .returned (.bool true) ∧ Below w.heap.size w w' := by
  have es : (Str d).size = d.length := str_size d
  have e1 : decide ((100 : Int) < (d.length : Int)) = false := decide_eq_false (by omega)
  clear hd
  have HE := Lib.hid (fun w => encode_any k s t l q x y er sl rk ep d _ he w)
  have HD1 : Hid (∀ w, Calls Try.prog 22 #[.string (Str (turn p i))] w fun e w' => e = .returned (.tuple #[.agg f1.cells, .int .i64 10]) ∧ Below w.heap.size w w') := Lib.hid (fun w => decode_any _ _ hD1 w)
  have HD2 : Hid (∀ w, Calls Try.prog 22 #[.string (Str (turn (turn p i) j))] w fun e w' => e = .returned (.tuple #[.agg f2.cells, .int .i64 e2]) ∧ Below w.heap.size w w') := Lib.hid (fun w => decode_any _ _ hD2 w)
  have hps : (Str p).size = p.length := str_size p
  have hn0 : ((p.length : Int) == 0) = false := by rw [beq_eq_false_iff_ne]; omega
  have hn1 : ((8 * (p.length : Int)) == 0) = false := by rw [beq_eq_false_iff_ne]; omega
  have hm : IntKind.i64.wrap (8 * (p.length : Int)) = 8 * (p.length : Int) := by rw [IntKind.wrap_i64]; omega
  have ti : (na : Int) % (8 * (p.length : Int)) = (i : Int) := by rw [← hi, Int.natCast_emod, Int.natCast_mul]; rfl
  have tj : (nb : Int) % (8 * (p.length : Int)) = (j : Int) := by rw [← hj, Int.natCast_emod, Int.natCast_mul]; rfl
  have ti2 : Int.tmod (na : Int) (8 * (p.length : Int)) = (i : Int) := by rw [Int.tmod_eq_emod_of_nonneg (by omega)]; exact ti
  have tj2 : Int.tmod (nb : Int) (8 * (p.length : Int)) = (j : Int) := by rw [Int.tmod_eq_emod_of_nonneg (by omega)]; exact tj
  have wa : IntKind.i64.wrap (na : Int) = (na : Int) := by rw [IntKind.wrap_i64]; omega
  have wb : IntKind.i64.wrap (nb : Int) = (nb : Int) := by rw [IntKind.wrap_i64]; omega
  have wa2 : wrap64 (na : Int) = (na : Int) := wr (by omega) (by omega)
  have wb2 : wrap64 (nb : Int) = (nb : Int) := wr (by omega) (by omega)
  have hil : i < 8 * p.length := by rw [← hi]; exact Nat.mod_lt _ (by omega)
  have hjl : j < 8 * p.length := by rw [← hj]; exact Nat.mod_lt _ (by omega)
  clear he hD1 hD2 hi hj hp2
  go_enter Try.func8, Try.ntmps8
  go_wp2_with fail
  ((with_reducible refine (awake_any _).mono ?_); rintro r w1 ⟨rfl, hb⟩)
  have A1 : Hid (At w w1 w.heap.size (fr k s t l q x y er sl rk ep d)) := Lib.hid (boxed _ _ _ hb)
  clear hb
  have c0 := cell_of_row w1 _ 0 _ _ _ A1.out.1
  have c1 := cell_of_row w1 _ 1 _ _ _ A1.out.1
  have c2 := cell_of_row w1 _ 2 _ _ _ A1.out.1
  have c3 := cell_of_row w1 _ 3 _ _ _ A1.out.1
  have c4 := cell_of_row w1 _ 4 _ _ _ A1.out.1
  have c5 := cell_of_row w1 _ 5 _ _ _ A1.out.1
  have c6 := cell_of_row w1 _ 6 _ _ _ A1.out.1
  have c7 := cell_of_row w1 _ 7 _ _ _ A1.out.1
  have c8 := cell_of_row w1 _ 8 _ _ _ A1.out.1
  have c9 := cell_of_row w1 _ 9 _ _ _ A1.out.1
  have c10 := cell_of_row w1 _ 10 _ _ _ A1.out.1
  have c11 := cell_of_row w1 _ 11 _ _ _ A1.out.1
  try simp only [fr] at c0 c1 c2 c3 c4 c5 c6 c7 c8 c9 c10 c11
  go_wp2_with fail
  ((with_reducible refine (HE.out _).mono ?_); rintro r w2 ⟨rfl, hb⟩)
  have A2 := Lib.hid (A1.out.later hb)
  clear hb A1 HE c0 c1 c2 c3 c4 c5 c6 c7 c8 c9 c10 c11
  go_wp2_with fail
  go_quiet (fail)
  have B3 := Lib.hid (below_drN A2.out.2 nq)
  clear A2 ti tj ti2 tj2 wa wb wa2 wb2 hm hn0 hn1
  generalize World.drewN w2 nq = w3 at B3 ⊢
  have kc := fun (w : World) => Lib.run_convert_string_bytes (P := Try.prog) w 9 40 5 (Str p) Try.underlying9 Try.underlying40 Try.underlying5
  have HR := Lib.hid (ByteRow.conv w3 5 p)
  have HB := Lib.hid (B3.out.trans ((Joins.below_bytesWorld w3.heap.size w3 5 (Str p) (Nat.le_refl _)).mono B3.out.size))
  have HGB : Hid (w.heap.size ≤ w3.heap.size) := Lib.hid B3.out.size
  go_wp2_with fail
  clear kc B3
  have HPS := Lib.hid hps
  clear hps
  generalize Lib.bytesWorld w3 5 (Str p) = W1 at HR HB ⊢
  have hq : (i : Int) / 8 = ((i / 8 : Nat) : Int) := by omega
  have hq2 : i / 8 < p.length := by omega
  obtain ⟨hc, hf⟩ := HR.out (i / 8) hq2
  have HQ := Lib.hid hq2
  have HE : Hid (p.set (i / 8) (p.getD (i / 8) 0 ^^^ (1 <<< UInt8.ofNat (i % 8))) = turn p i) := Lib.hid rfl
  obtain ⟨gr, hgr⟩ : ∃ gr, w3.heap.size = gr := ⟨_, rfl⟩
  obtain ⟨cap, hcap⟩ : ∃ cap, grownCap w3 p.length 0 5 = cap := ⟨_, rfl⟩
  rw [hgr] at HR HGB hc hf
  rw [hgr, hcap]
  clear hgr hcap
  generalize i / 8 = qi at *
  generalize p.getD qi 0 = cqi at hc HE
  go_region
  have hv := xor_bit cqi (i % 8) (by omega)
  rw [hv]
  have H2 := Go.Proofs.Ytbgnkjaikbhdoaa.Bytes.ByteRow.drew (HR.out.set qi HQ.out (cqi ^^^ (1 <<< UInt8.ofNat (i % 8))))
  have B2 := Lib.hid (below_dr (HB.out.setCell (p := ⟨gr, qi, none⟩) HGB.out (.int .u8 ((cqi ^^^ (1 <<< UInt8.ofNat (i % 8))).toNat : Int))))
  rw [HE.out] at H2
  have kt := H2.text (P := Try.prog) cap 40 5 9 Try.underlying40 Try.underlying5 Try.underlying9
  rw [turn_length] at kt
  have HR2 := Lib.hid H2
  have HGL : Hid (gr < (World.drew (World.setCell W1 ⟨gr, qi, none⟩ (.int .u8 ((cqi ^^^ (1 <<< UInt8.ofNat (i % 8))).toNat : Int)))).heap.size) := Lib.hid (by have := World.block_lt_of_cell? W1 _ hc; simpa [World.setCell, World.drew] using this)
  clear H2 hv hc hf HR HB HE hq hq2 HQ
  generalize World.drew (World.setCell _ _ _) = W2 at kt B2 HR2 HGL ⊢
  go_wp2_with fail
  ((with_reducible refine (HD1.out _).mono ?_); rintro r W4 ⟨rfl, hb4⟩)
  have HR4 := HR2.out.below hb4 HGL.out
  have hb5 : Below W4.heap.size W4 (W4.alloc (.cells f1.cells TF)) := (Below.refl _ _).alloc (Nat.le_refl _) _
  have hgl4 : gr < W4.heap.size := Nat.lt_of_lt_of_le HGL.out hb4.size
  have HR := Lib.hid (HR4.below hb5 hgl4)
  have HB := Lib.hid ((B2.out.trans (hb4.mono B2.out.size)).trans (hb5.mono (Nat.le_trans B2.out.size hb4.size)))
  clear HR4 hb4 hb5 HGL HR2 B2 kt HD1
  go_wp2_with fail
  clear hgl4
  generalize World.alloc W4 _ = W5 at HR HB ⊢
  have hq : (j : Int) / 8 = ((j / 8 : Nat) : Int) := by omega
  have hq2 : j / 8 < (turn p i).length := by rw [turn_length]; omega
  obtain ⟨hc, hf⟩ := HR.out (j / 8) hq2
  have HQ := Lib.hid hq2
  have HE : Hid ((turn p i).set (j / 8) ((turn p i).getD (j / 8) 0 ^^^ (1 <<< UInt8.ofNat (j % 8))) = turn (turn p i) j) := Lib.hid rfl
  have hlp : (turn p i).length = p.length := turn_length p i
  rw [hlp] at hq2
  generalize turn p i = p' at *
  generalize j / 8 = qj at *
  generalize p'.getD qj 0 = cqj at hc HE
  go_region
  have hv := xor_bit cqj (j % 8) (by omega)
  rw [hv]
  have H2 := Go.Proofs.Ytbgnkjaikbhdoaa.Bytes.ByteRow.drew (HR.out.set qj HQ.out (cqj ^^^ (1 <<< UInt8.ofNat (j % 8))))
  have B2 := Lib.hid (below_dr (HB.out.setCell (p := ⟨gr, qj, none⟩) HGB.out (.int .u8 ((cqj ^^^ (1 <<< UInt8.ofNat (j % 8))).toNat : Int))))
  rw [HE.out] at H2
  have kt := H2.text (P := Try.prog) cap 40 5 9 Try.underlying40 Try.underlying5 Try.underlying9
  rw [turn_length, hlp] at kt
  have HR2 := Lib.hid H2
  have HGL : Hid (gr < (World.drew (World.setCell W5 ⟨gr, qj, none⟩ (.int .u8 ((cqj ^^^ (1 <<< UInt8.ofNat (j % 8))).toNat : Int)))).heap.size) := Lib.hid (by have := World.block_lt_of_cell? W5 _ hc; simpa [World.setCell, World.drew] using this)
  clear H2 hv hc hf HR HB HE hq hq2 HQ
  generalize World.drew (World.setCell _ _ _) = W6 at kt B2 HR2 HGL ⊢
  go_wp2_with fail
  ((with_reducible refine (HD2.out _).mono ?_); rintro r W8 ⟨rfl, hb4⟩)
  have HBF := Lib.hid ((B2.out.trans (hb4.mono B2.out.size)).alloc (Nat.le_trans B2.out.size hb4.size) (.cells f2.cells TF))
  clear hb4 HR2 kt B2
  go_wp2_with fail
  go_ret
  exact ⟨rfl, HBF.out⟩
theorem walk (k s t l q x y er sl rk ep : Int) (dd : ByteArray) (a b : Int) (w : World) (_ : (Lit.int .i64 k).wf = true) (_ : (Lit.int .i64 s).wf = true) (_ : (Lit.int .i64 t).wf = true) (_ : (Lit.int .i64 l).wf = true) (_ : (Lit.int .i64 q).wf = true) (_ : (Lit.int .i64 x).wf = true) (_ : (Lit.int .i64 y).wf = true) (_ : (Lit.int .i64 er).wf = true) (_ : (Lit.int .i64 sl).wf = true) (_ : (Lit.int .i64 rk).wf = true) (_ : (Lit.int .i64 ep).wf = true) (_ : dd.size ≤ maxLen) (ha : (Lit.int .u16 a).wf = true) (hb : (Lit.int .u16 b).wf = true) :
    Calls Try.prog 8 #[.agg #[.int .i64 k, .int .i64 s, .int .i64 t, .int .i64 l, .int .i64 q, .int .i64 x, .int .i64 y, .int .i64 er, .int .i64 sl, .int .i64 rk, .int .i64 ep, .string dd], .int .u16 a, .int .u16 b] w fun r w' => r = .returned (.bool true) ∧ Below w.heap.size w w' := by
  obtain ⟨d, rfl⟩ := str_of dd
  obtain ⟨a0, a1⟩ : 0 ≤ a ∧ a < 65536 := by simp [Lit.wf, IntKind.min, IntKind.max, IntKind.bits, IntKind.signed] at ha; omega
  obtain ⟨b0, b1⟩ : 0 ≤ b ∧ b < 65536 := by simp [Lit.wf, IntKind.min, IntKind.max, IntKind.bits, IntKind.signed] at hb; omega
  obtain ⟨na, rfl⟩ := Int.eq_ofNat_of_zero_le a0
  obtain ⟨nb, rfl⟩ := Int.eq_ofNat_of_zero_le b0
  clear ha hb
  by_cases hd : 100 < d.length
  · exact far k s t l q x y er sl rk ep d na nb hd w
  · by_cases h0 : (encF k s t l q x y er sl rk ep d).2 = 0
    · have he : encF k s t l q x y er sl rk ep d = ((encF k s t l q x y er sl rk ep d).1, 0) := Prod.ext rfl h0
      have hl := enc_len k s t l q x y er sl rk ep d
      generalize (encF k s t l q x y er sl rk ep d).1 = p at *
      obtain ⟨h2, g1, g2, g3⟩ := finds he hl
      have hi : na % (8 * p.length) < 8 * p.length := Nat.mod_lt _ (by omega)
      have hj : nb % (8 * p.length) < 8 * p.length := Nat.mod_lt _ (by omega)
      by_cases e : na % (8 * p.length) = nb % (8 * p.length)
      · exact good k s t l q x y er sl rk ep d na nb (by omega) (by omega) (by omega) p he h2 hl _ _ rfl rfl _ _ 0 (g1 _ hi) (by rw [← e]; exact g3 _ hi) (by rw [e]; simp) w
      · refine good k s t l q x y er sl rk ep d na nb (by omega) (by omega) (by omega) p he h2 hl _ _ rfl rfl _ _ 10 (g1 _ hi) (g2 _ _ hi hj e) ?_ w
        have : (((na % (8 * p.length) : Nat) : Int) != ((nb % (8 * p.length) : Nat) : Int)) = true := by rw [bne_iff_ne]; omega
        rw [this]; rfl
    · rcases enc_err k s t l q x y er sl rk ep d with h | h | h
      · exact absurd h h0
      · exact bad k s t l q x y er sl rk ep d na nb (by omega) 1 h (by decide) w
      · exact bad k s t l q x y er sl rk ep d na nb (by omega) 8 h (by decide) w
end Go.Proofs.Ytbgnkjaikbhdoaa.FrFindsW

-- LawFrameFinds
namespace Go.Proofs.Ytbgnkjaikbhdoaa.frameFinds
open Go.ChangeShapes Go.WideShapes Go.ChangeAt Go.RowKit Go.Proofs.Ytbgnkjaikbhdoaa.Opn
open Go.ChangeMaps (open_string shut_string)
set_option linter.unusedVariables false
theorem own : ownKnob Try.prog.godebug = none := by kernel_rfl
theorem laidOut : laidOutB Try.prog = true := by kernel_rfl
set_option maxRecDepth 100000 in
set_option maxHeartbeats 1000000 in
theorem lifted (os : Os) (started : os.Started) (H : Type) (enc : TypeId × Value → H) :
    ReturnsInHanded {} Try.checked os 8 .any (Rows.frameFindsSpec.pre6 enc Try.prog Try.f8 Rows.frameFindsRow.domain false) (Rows.frameFindsSpec.post enc Try.prog Try.f8 false true false false) := by
  refine returnsInHanded_of_change_sized (C := Try.checked) own started (by kernel_rfl) Try.func8
    (ChangeSpec.witness6 (enc := enc) (C := Try.checked) false ⟨#[], #[.agg #[.int .i64 0, .int .i64 0, .int .i64 0, .int .i64 0, .int .i64 0, .int .i64 0, .int .i64 0, .int .i64 0, .int .i64 0, .int .i64 0, .int .i64 0, .string ByteArray.empty], .int .u16 0, .int .u16 0], []⟩ 8 (by kernel_rfl) (by kernel_rfl) (by kernel_rfl) (by kernel_rfl)) ?_
  intro W base args ds gs before hval0 hW hcnd hsz0 _
  have hsz : (DataW.weightsEach Try.prog (Try.f8.params.toList ++ Rows.frameFindsSpec.plain.varTypes Try.prog) (ds ++ gs)).all (· ≤ reachBytes) = true := hsz0
  have hval : ∀ (j : Nat) t v, Try.f8.params[j]? = some t → args[j]? = some v → Value.okWide Try.prog W .any base t v := hval0
  have hW' := hW
  obtain ⟨p, q, hA0, hV, rfl, hfz, hnd⟩ := hW
  have hA : DataW.TrodAll enc Try.prog W 0 (fun _ => true) true Try.f8.params.toList args.toList ds p := hA0
  rw [Try.params8] at hA hval hsz
  obtain ⟨v0, vs0, d0, ds0, p0, q0, hargs, rfl, rfl, h0, r0⟩ := trodAll_cons hA
  obtain ⟨v1, vs1, d1, ds1, p1, q1, rfl, rfl, rfl, h1, r1⟩ := trodAll_cons r0
  obtain ⟨v2, vs2, d2, ds2, p2, q2, rfl, rfl, rfl, h2, r2⟩ := trodAll_cons r1
  obtain ⟨rfl, rfl, rfl⟩ := trodAll_nil r2
  obtain rfl : args = #[v0, v1, v2] := by cases args; simp_all
  obtain ⟨rfl, rfl⟩ := trodVars_none hV
  have k0 := h0
  have lt0 : ∀ x ∈ p0, x.block < W.heap.size := by obtain ⟨m, hm⟩ := k0; exact DataW.trod_lt m _ _ _ hm
  obtain ⟨cs0, rfl, hn0⟩ := okWide_struct Try.underlying23 (hval 0 23 v0 rfl rfl)
  have g0 := rd_struct Try.underlying23 (rd_of h0)
  have hc0 : Try.prog.cellsOf 23 = 12 := by kernel_rfl
  rw [hc0] at hn0
  obtain ⟨c0_0, c0_1, c0_2, c0_3, c0_4, c0_5, c0_6, c0_7, c0_8, c0_9, c0_10, c0_11, rfl⟩ := cells12 hn0
  have e0_0 : Rd enc Try.prog W 3 [c0_0] := g0 0 _ rfl
  obtain ⟨a0_0, rfl, w0_0⟩ := rd_int Try.underlying3 e0_0
  have e0_1 : Rd enc Try.prog W 3 [c0_1] := g0 1 _ rfl
  obtain ⟨a0_1, rfl, w0_1⟩ := rd_int Try.underlying3 e0_1
  have e0_2 : Rd enc Try.prog W 3 [c0_2] := g0 2 _ rfl
  obtain ⟨a0_2, rfl, w0_2⟩ := rd_int Try.underlying3 e0_2
  have e0_3 : Rd enc Try.prog W 3 [c0_3] := g0 3 _ rfl
  obtain ⟨a0_3, rfl, w0_3⟩ := rd_int Try.underlying3 e0_3
  have e0_4 : Rd enc Try.prog W 3 [c0_4] := g0 4 _ rfl
  obtain ⟨a0_4, rfl, w0_4⟩ := rd_int Try.underlying3 e0_4
  have e0_5 : Rd enc Try.prog W 3 [c0_5] := g0 5 _ rfl
  obtain ⟨a0_5, rfl, w0_5⟩ := rd_int Try.underlying3 e0_5
  have e0_6 : Rd enc Try.prog W 3 [c0_6] := g0 6 _ rfl
  obtain ⟨a0_6, rfl, w0_6⟩ := rd_int Try.underlying3 e0_6
  have e0_7 : Rd enc Try.prog W 3 [c0_7] := g0 7 _ rfl
  obtain ⟨a0_7, rfl, w0_7⟩ := rd_int Try.underlying3 e0_7
  have e0_8 : Rd enc Try.prog W 3 [c0_8] := g0 8 _ rfl
  obtain ⟨a0_8, rfl, w0_8⟩ := rd_int Try.underlying3 e0_8
  have e0_9 : Rd enc Try.prog W 3 [c0_9] := g0 9 _ rfl
  obtain ⟨a0_9, rfl, w0_9⟩ := rd_int Try.underlying3 e0_9
  have e0_10 : Rd enc Try.prog W 3 [c0_10] := g0 10 _ rfl
  obtain ⟨a0_10, rfl, w0_10⟩ := rd_int Try.underlying3 e0_10
  have e0_11 : Rd enc Try.prog W 9 [c0_11] := g0 11 _ rfl
  obtain ⟨a0_11, rfl, w0_11⟩ := rd_string Try.underlying9 e0_11
  obtain ⟨a1, rfl, rfl, rfl, w1⟩ := open_int Try.underlying39 (hval 1 39 v1 rfl rfl) h1
  obtain ⟨a2, rfl, rfl, rfl, w2⟩ := open_int Try.underlying39 (hval 2 39 v2 rfl rfl) h2
  clear hA0 hval0 hsz0 hsz
  refine (FrFindsW.walk a0_0 a0_1 a0_2 a0_3 a0_4 a0_5 a0_6 a0_7 a0_8 a0_9 a0_10 a0_11 a1 a2 W w0_0 w0_1 w0_2 w0_3 w0_4 w0_5 w0_6 w0_7 w0_8 w0_9 w0_10 w0_11 w1 w2).mono fun e W' ⟨he, bel⟩ => ?_
  subst he
  exact ⟨_, rfl, _, _, _, [], _, [], hW', trodAll_mk1 (shut_bool Try.underlying4 _), (trodAll_cons_mk (Below.trod laidOut (by kernel_rfl) (of_decide_eq_true (by kernel_rfl)) k0 bel lt0) (trodAll_cons_mk (shut_int Try.underlying39 w1) (trodAll_cons_mk (shut_int Try.underlying39 w2) trodAll_mk0))), rfl, bel.frame _, fun h => by cases h⟩
theorem over : Rows.frameFindsRow.holds Try.pinned (OpenSpec.ofChange Rows.frameFindsSpec) :=
  OpenClaim.holds_of_wide 8 Try.f8 rfl rfl rfl rfl rfl rfl rfl ⟨rfl, rfl, rfl, rfl, rfl⟩ rfl rfl rfl rfl rfl (by kernel_rfl) Try.func8 (by kernel_rfl)
    (of_decide_eq_true (by kernel_rfl)) (by unfold Func.isWrapper; first | (rw [if_pos (by decide +kernel)]; kernel_rfl) | (rw [if_neg (by decide +kernel)]; exact ⟨rfl, rfl⟩))
    (fun os started H enc _ => lifted os started H enc)
theorem proved : Rows.FrameFindsSaid := over
#print axioms proved
end Go.Proofs.Ytbgnkjaikbhdoaa.frameFinds
namespace Go.Proofs.Ytbgnkjaikbhdoaa
/-- The row, under a short name, for the claim. -/
theorem frameFinds_holds : Rows.FrameFindsSaid := frameFinds.proved
end Go.Proofs.Ytbgnkjaikbhdoaa
