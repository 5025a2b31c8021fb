/- What the printed functions of the reference's reader come to: signed fields of 16 bits, texts of at most 127 bytes. (cut to what is reached: wip/tools/slimout2.py) -/
import Derived.Test.YtbgnkjaikbhdoaaFGRfEv
import Derived.Test.YtbgnkjaikbhdoaaFGRdT
import Derived.Test.YtbgnkjaikbhdoaaFGE5
namespace Go.Proofs.Ytbgnkjaikbhdoaa.RfTx
set_option linter.unusedSimpArgs false
set_option linter.unusedVariables false
open Go.RowKit Go.Proofs.Ytbgnkjaikbhdoaa.E Go.Proofs.Ytbgnkjaikbhdoaa.Pack Go.Proofs.Ytbgnkjaikbhdoaa.Rd Go.Proofs.Ytbgnkjaikbhdoaa.RdC Go.Proofs.Ytbgnkjaikbhdoaa.RdT Go.Proofs.Ytbgnkjaikbhdoaa.RfEv Go.Proofs.YtbgnkjaikbhdoaaW.PrintWords Go.Proofs.YtbgnkjaikbhdoaaW.PrintLast Go.Proofs.YtbgnkjaikbhdoaaW.PrintMore
open Go.Proofs.Ytbgnkjaikbhdoaa.Bytes (Str)
theorem shl15 : shl .i64 1 (wrap64 (16 - 1)) = 32768 := by kernel_rfl
theorem w15 : (0 : Int) ≤ wrap64 (16 - 1) := by rw [show wrap64 (16 - 1) = 15 by kernel_rfl]; decide
theorem signed_ev (l : List UInt8) (hs : l.length ≤ 65536) (i : Nat) (hi : i ≤ 8 * l.length) (e : Int) (q : Nat) (hq : 17 < q) :
    hopmeshref02_Reader_Signed.f q (S l e) (P i e) e 16 = some (rdS l i e, S l (rdf l 16 i e).2.2, P (rdf l 16 i e).2.1 (rdf l 16 i e).2.2, (rdf l 16 i e).2.2) := by
  obtain ⟨q, rfl⟩ : ∃ m, q = m + 1 := ⟨q - 1, by omega⟩
  have hg := get_ev l hs i hi e 16 (by omega) q (by omega)
  rw [show ((16 : Nat) : Int) = 16 from rfl] at hg
  have hv := rdf_lt l 16 i e
  rw [show (2 : Nat) ^ 16 = 65536 from rfl] at hv
  have hJ : hopmeshref02_Reader_Signed.j0 (q + 1) 16 false (S l e) (P i e) e = some (rdS l i e, S l (rdf l 16 i e).2.2, P (rdf l 16 i e).2.1 (rdf l 16 i e).2.2, (rdf l 16 i e).2.2) := by
    simp only [hopmeshref02_Reader_Signed.j0]
    rw [if_neg (by decide), hg, Option.bind_some]
    dsimp only
    unfold rdS
    by_cases h0 : (rdf l 16 i e).2.2 = 0
    · rw [if_pos h0, if_pos w15, shl15]
      by_cases h1 : 32768 ≤ (rdf l 16 i e).1
      · rw [if_pos (by omega), if_pos ⟨h0, h1⟩, wr (a := ((rdf l 16 i e).1 : Int) - 32768) (by omega) (by omega), wr (by omega) (by omega)]
        congr 2; omega
      · rw [if_neg (by omega), if_neg (fun h => h1 h.2)]
    · rw [if_neg h0, if_neg (fun h => h0 h.1)]
  unfold hopmeshref02_Reader_Signed.f
  rw [if_neg (show ¬ (16 : Int) < 2 by decide), show decide ((16 : Int) > 63) = false from rfl, hJ]
  split <;> rfl
theorem width_ev (q : Nat) (hq : 10 < q) : hopmeshref02_Width.f q 127 = some 7 := by
  obtain ⟨q, rfl⟩ : ∃ m, q = m + 10 := ⟨q - 10, by omega⟩
  have st : ∀ (q : Nat) (a b a' b' : Int), a ≥ 2 → wrap64 (Int.tdiv a 2) = a' → wrap64 (b + 1) = b' → hopmeshref02_Width.l0 (q + 1) a b = hopmeshref02_Width.l0 q a' b' := by
    intro q a b a' b' h1 h2 h3
    simp only [hopmeshref02_Width.l0]
    rw [if_pos h1, h2, h3]
  unfold hopmeshref02_Width.f
  rw [if_neg (by decide), st (q + 9) 127 1 63 2 (by decide) (by kernel_rfl) (by kernel_rfl), st (q + 8) 63 2 31 3 (by decide) (by kernel_rfl) (by kernel_rfl), st (q + 7) 31 3 15 4 (by decide) (by kernel_rfl) (by kernel_rfl), st (q + 6) 15 4 7 5 (by decide) (by kernel_rfl) (by kernel_rfl), st (q + 5) 7 5 3 6 (by decide) (by kernel_rfl) (by kernel_rfl), st (q + 4) 3 6 1 7 (by decide) (by kernel_rfl) (by kernel_rfl)]
  simp only [hopmeshref02_Width.l0]
  rw [if_neg (by decide)]
def nums (l : List UInt8) (i j : Nat) : List Int := (bytesAt l i j).map fun c => (c.toNat : Int)
theorem nums_length (l : List UInt8) (i j : Nat) : (nums l i j).length = j := by simp [nums, bytesAt_length]
theorem nums_set (l : List UInt8) (i n j : Nat) (h : j < n) : (nums l i j ++ List.replicate (n - j) 0).set j ((valN (bitsAt l (i + 8 * j) 8) : Int) % 256) = nums l i (j + 1) ++ List.replicate (n - (j + 1)) 0 := by
  have hv := val_lt l (i + 8 * j) 8
  rw [show (2 : Nat) ^ 8 = 256 from rfl] at hv
  rw [List.set_append_right _ _ (by rw [nums_length]; omega), nums_length, Nat.sub_self, show n - j = (n - (j + 1)) + 1 by omega, List.replicate_succ, List.set_cons_zero]
  have e : nums l i (j + 1) = nums l i j ++ [(valN (bitsAt l (i + 8 * j) 8) : Int) % 256] := by
    unfold nums
    rw [bytesAt_succ, List.map_append, List.map_singleton]
    congr 2
  rw [e, List.append_assoc]
  try rfl
theorem nums_str (l : List UInt8) (i j : Nat) : strOfNums (nums l i j) = Str (bytesAt l i j) := by
  unfold strOfNums nums
  rw [List.map_map]
  congr 2
  conv => rhs; rw [← List.map_id (bytesAt l i j)]
  apply List.map_congr_left
  intro c _
  simp
theorem text_loop (l : List UInt8) (hs : l.length ≤ 65536) (i n : Nat) (hl : i + 8 * n ≤ 8 * l.length) (hn : n ≤ 1000) (d : Nat) : ∀ (q j : Nat), j + d = n → d + 10 < q →
    hopmeshref02_Reader_Text.l0 q (n : Int) (nums l i j ++ List.replicate (n - j) 0) (j : Int) (Str l) ((i + 8 * j : Nat) : Int) 0 = some (Str (bytesAt l i n), Str l, ((i + 8 * n : Nat) : Int), 0) := by
  induction d with
  | zero =>
    intro q j hj hq
    obtain ⟨q, rfl⟩ : ∃ m, q = m + 1 := ⟨q - 1, by omega⟩
    obtain rfl : j = n := by omega
    simp only [hopmeshref02_Reader_Text.l0]
    rw [if_neg (by omega), Nat.sub_self, List.replicate_zero, List.append_nil, nums_str]
  | succ d ih =>
    intro q j hj hq
    obtain ⟨q, rfl⟩ : ∃ m, q = m + 1 := ⟨q - 1, by omega⟩
    simp only [hopmeshref02_Reader_Text.l0]
    have hg := get_on l hs (i + 8 * j) 8 (by omega) q (by omega) (by omega)
    rw [show ((8 : Nat) : Int) = 8 from rfl] at hg
    rw [if_pos (by omega), hg, Option.bind_some]
    dsimp only
    rw [if_pos (by omega), if_pos (by rw [List.length_append, nums_length, List.length_replicate]; omega), Int.toNat_natCast, nums_set l i n j (by omega), wr (by omega) (by omega), show (j : Int) + 1 = ((j + 1 : Nat) : Int) by omega, show i + 8 * j + 8 = i + 8 * (j + 1) by omega]
    exact ih q (j + 1) (by omega) (by omega)
theorem text_ev (l : List UInt8) (hs : l.length ≤ 65536) (i : Nat) (hi : i ≤ 8 * l.length) (e : Int) (q : Nat) (hq : 200 < q) :
    hopmeshref02_Reader_Text.f q (S l e) (P i e) e 127 = some (Str (rdText l i e).1, S l (rdText l i e).2.2, P (rdText l i e).2.1 (rdText l i e).2.2, (rdText l i e).2.2) := by
  obtain ⟨q, rfl⟩ : ∃ m, q = m + 6 := ⟨q - 6, by omega⟩
  have hle := rdf_le l 7 i e hi
  have hg := get_ev l hs i hi e 7 (by omega) (q + 4) (by omega)
  rw [show ((7 : Nat) : Int) = 7 from rfl] at hg
  have hv := rdf_lt l 7 i e
  rw [show (2 : Nat) ^ 7 = 128 from rfl] at hv
  have hJ : hopmeshref02_Reader_Text.j0 (q + 6) 127 false (S l e) (P i e) e = some (Str (rdText l i e).1, S l (rdText l i e).2.2, P (rdText l i e).2.1 (rdText l i e).2.2, (rdText l i e).2.2) := by
    simp only [hopmeshref02_Reader_Text.j0]
    rw [if_neg (by decide)]
    simp only [hopmeshref02_Reader_Text.j1]
    rw [width_ev (q + 4) (by omega), Option.bind_some, hg, Option.bind_some]
    dsimp only
    unfold rdText
    generalize hn : (rdf l 7 i e).1 = n at hv ⊢
    generalize hj : (rdf l 7 i e).2.1 = j at hle ⊢
    generalize he : (rdf l 7 i e).2.2 = e'
    rw [show decide ((n : Int) > 127) = false by simp; omega]
    have h2 : ∀ a b c, hopmeshref02_Reader_Text.j2 (q + 4) (n : Int) false a b c = hopmeshref02_Reader_Text.j3 (q + 3) (n : Int) a b c := by
      intro a b c
      simp only [hopmeshref02_Reader_Text.j2]
      rw [if_neg (by decide)]
    rw [h2, ite_self]
    simp only [hopmeshref02_Reader_Text.j3]
    by_cases h0 : e' = 0
    · subst h0
      rw [if_pos rfl, if_pos rfl, S0, P0, left_f l hs j hle, Option.bind_some]
      dsimp only
      rw [wr (a := 8 * (n : Int)) (by omega) (by omega)]
      by_cases hl : 8 * l.length < j + 8 * n
      · rw [show decide (8 * (l.length : Int) - (j : Int) < 8 * (n : Int)) = true by simp; omega, if_pos hl]
        simp only [hopmeshref02_Reader_Text.j4]
        rw [if_pos trivial]
        unfold hopmeshref02_Reader_fail.f
        rw [Option.bind_some]
        simp only [hopmeshref02_Reader_Text.j5]
        rw [if_neg (by decide), S1 l (show (9 : Int) ≠ 0 by decide), P1 _ (show (9 : Int) ≠ 0 by decide)]
      · rw [show decide (8 * (l.length : Int) - (j : Int) < 8 * (n : Int)) = false by simp; omega, if_neg hl]
        simp only [hopmeshref02_Reader_Text.j4]
        rw [if_neg (by decide)]
        simp only [hopmeshref02_Reader_Text.j5]
        rw [if_pos trivial, if_pos (by omega), if_pos (by omega), Int.toNat_natCast]
        have := text_loop l hs j n (by omega) (by omega) n q 0 (by omega) (by omega)
        have e0 : nums l j 0 = [] := rfl
        rw [e0, List.nil_append, Nat.sub_zero, Nat.mul_zero, show j + 0 = j from rfl, show ((0 : Nat) : Int) = 0 from rfl] at this
        rw [this, S0, P0]
    · rw [if_neg h0, if_neg h0]
      simp only [hopmeshref02_Reader_Text.j4]
      rw [if_neg (by decide)]
      simp only [hopmeshref02_Reader_Text.j5]
      rw [if_neg h0]
  unfold hopmeshref02_Reader_Text.f
  rw [if_neg (show ¬ (127 : Int) < 1 by decide), show decide ((127 : Int) > 4095) = false from rfl, hJ, ite_self]
end Go.Proofs.Ytbgnkjaikbhdoaa.RfTx
