/- Sum, Update and Combine of crc return what the reference returns: the walk out of the printed contract and its plain statement. -/
import Derived.Test.YtkhkmmabbpfngaaPureCrcPolynomials
namespace Go.Proofs.Ytkhkmmabbpfngaa.CrcSumsW
open Go.RowKit Go.Proofs.Ytkhkmmabbpfngaa.Q Go.Proofs.Ytkhkmmabbpfngaa.Alg Go.Proofs.Ytkhkmmabbpfngaa.Ev Go.Proofs.Ytkhkmmabbpfngaa.Pure Go.Proofs.YtkhkmmabbpfngaaW.PrintWords Go.Proofs.YtkhkmmabbpfngaaW.PrintLast

theorem update_ev (s : BitVec 16) (d : ByteArray) (hd : d.size ≤ 140737488351232) : crc_Update.f (n s) d = some (n (crcU s d.data.toList)) := by
  have := s.isLt
  unfold crc_Update.f n
  rw [if_pos (by omega), Int.toNat_natCast, BitVec.ofNat_toNat, BitVec.setWidth_eq]
theorem sum_ev (d : ByteArray) (hd : d.size ≤ 140737488351232) : crc_Sum.f d = some (n (crc d.data.toList)) := by
  unfold crc_Sum.f
  rw [show (0 : Int) = n 0#16 from rfl, update_ev _ _ hd]; rfl
theorem bt_byte (d : ByteArray) (i : Nat) (h : i < d.size) : bt d (i : Int) = (d[i].toNat : Int) := by
  unfold bt; simp [h]
theorem in_int (c : UInt8) : IntKind.u16.wrap (IntKind.u16.wrap (c.toNat : Int) * 256) = n (b16 c <<< 8) := by
  have := c.toNat_lt
  unfold n b16
  rw [IntKind.wrap_u16, IntKind.wrap_u16, BitVec.toNat_shiftLeft, BitVec.toNat_ofNat, Nat.shiftLeft_eq, Nat.mod_eq_of_lt (show c.toNat < 2 ^ 16 by omega)]
  omega
theorem rl1 (d : ByteArray) (i : Nat) (m : Nat) : ∀ (k j : Nat) (s : BitVec 16) (r : Int), j + m = 8 → m < k → (∀ k', k - m - 1 = k' → hopmeshref03_Update.l0 k' (n (Tn m s)) d (wrap64 ((i : Int) + 1)) = some r) →
    hopmeshref03_Update.l1 k (n s) d (i : Int) (j : Int) = some r := by
  induction m with
  | zero =>
    intro k j s r hj hk h
    obtain ⟨k, rfl⟩ : ∃ q, k = q + 1 := ⟨k - 1, by omega⟩
    simp only [hopmeshref03_Update.l1]
    rw [if_neg (by omega)]
    exact h _ (by omega)
  | succ m ih =>
    intro k j s r hj hk h
    obtain ⟨k, rfl⟩ : ∃ q, k = q + 1 := ⟨k - 1, by omega⟩
    simp only [hopmeshref03_Update.l1]
    rw [if_pos (by omega), rtimes_ev]; simp only [Option.bind_some]
    rw [wr (a := (j : Int) + 1) (by omega) (by omega), show ((j : Int) + 1) = ((j + 1 : Nat) : Int) by omega]
    exact ih k (j + 1) (T s) r (by omega) (by omega) fun k' hk' => by rw [← Tn_succ']; exact h k' (by omega)
theorem rl0 (d : ByteArray) (hd : d.size ≤ 140737488351232) (m : Nat) : ∀ (k i : Nat) (s : BitVec 16), i + m = d.size → 10 * m + 1 < k →
    hopmeshref03_Update.l0 k (n s) d (i : Int) = some (n (crcU s (d.data.toList.drop i))) := by
  induction m with
  | zero =>
    intro k i s hi hk
    obtain ⟨k, rfl⟩ : ∃ q, k = q + 1 := ⟨k - 1, by omega⟩
    simp only [hopmeshref03_Update.l0]
    rw [if_neg (by omega), List.drop_of_length_le (by simp; omega)]; rfl
  | succ m ih =>
    intro k i s hi hk
    obtain ⟨k, rfl⟩ : ∃ q, k = q + 1 := ⟨k - 1, by omega⟩
    simp only [hopmeshref03_Update.l0]
    rw [if_pos (by omega), if_pos (by omega), bt_byte d i (by omega), in_int, show Go.bits .xor .u16 (n s) (n (b16 d[i] <<< 8)) = n (s ^^^ (b16 d[i] <<< 8)) from CrcA.xor_int _ _]
    refine rl1 d i 8 k 0 _ _ (by omega) (by omega) fun k' hk' => ?_
    rw [wr (a := (i : Int) + 1) (by omega) (by omega), show ((i : Int) + 1) = ((i + 1 : Nat) : Int) by omega, ih k' (i + 1) _ (by omega) (by omega)]
    have e : d.data.toList.drop i = d[i] :: d.data.toList.drop (i + 1) := by
      rw [List.drop_eq_getElem_cons (by simp; omega)]; rfl
    rw [e]; rfl
theorem rupdate_ev (s : BitVec 16) (d : ByteArray) (hd : d.size ≤ 140737488351232) (k : Nat) (hk : 10 * d.size + 1 < k) : hopmeshref03_Update.f k (n s) d = some (n (crcU s d.data.toList)) := by
  have := rl0 d hd d.size k 0 s (by omega) hk
  simpa [hopmeshref03_Update.f] using this
theorem rsum_ev (d : ByteArray) (hd : d.size ≤ 140737488351232) (k : Nat) (hk : 10 * d.size + 1 < k) : hopmeshref03_Sum.f k d = some (n (crc d.data.toList)) := by
  unfold hopmeshref03_Sum.f
  rw [show (0 : Int) = n 0#16 from rfl, rupdate_ev _ _ hd _ hk]; rfl

/-- What Combine returns. -/
def comb (a b : BitVec 16) (m : Int) : BitVec 16 := if m < 0 then b else Tn (8 * m.toNat) a ^^^ b
theorem mul_zero (a : BitVec 16) : mul a 0#16 = 0#16 := S_zero_left _ _
theorem comb_alg (a b : BitVec 16) (m : Int) (q : BitVec 16) (hq : q = mul (powI m) (powI m)) (q2 : BitVec 16) (hq2 : q2 = mul q q) : mul a (mul q2 q2) ^^^ b = comb a b m := by
  subst hq; subst hq2
  unfold comb powI
  by_cases h : m < 0
  · rw [if_pos h, if_pos h, mul_zero, mul_zero, mul_zero, mul_zero]; simp
  · rw [if_neg h, if_neg h, pow_mul, pow_mul, pow_mul, mul_pow]; congr 2; omega
theorem comb_step (a b p : Int) (j : Nat) (hj : j < 3) (q k : Nat) (pb : BitVec 16) (hp : p = n pb) (hk : 16 < k) (hq : q = k + 1) :
    crc_Combine.l0 q a b p (j : Int) = crc_Combine.l0 k a b (n (mul pb pb)) ((j + 1 : Nat) : Int) := by
  subst hp; subst hq
  simp only [crc_Combine.l0]
  rw [if_pos (by omega), mul_ev _ _ _ hk]; simp only [Option.bind_some]
  rw [wr (by omega) (by omega)]; rfl
theorem comb_last (a b pb : BitVec 16) (q k : Nat) (hk : 16 < k) (hq : q = k + 1) :
    crc_Combine.l0 q (n a) (n b) (n pb) ((3 : Nat) : Int) = some (n (mul a pb ^^^ b)) := by
  subst hq
  simp only [crc_Combine.l0]
  rw [if_neg (by omega), mul_ev _ _ _ hk]; simp only [Option.bind_some]
  rw [show Go.bits .xor .u16 (n (mul a pb)) (n b) = n (mul a pb ^^^ b) from CrcA.xor_int _ _]
theorem comb_ev (a b : BitVec 16) (m : Int) (hm : m ≤ 9223372036854775807) (k : Nat) (hk : m.toNat + 30 < k) : crc_Combine.f k (n a) (n b) m = some (n (comb a b m)) := by
  unfold crc_Combine.f
  rw [pow_ev m hm k (by omega)]; simp only [Option.bind_some]
  rw [show (0 : Int) = ((0 : Nat) : Int) from rfl, comb_step _ _ _ 0 (by omega) k (k - 1) _ rfl (by omega) (by omega), comb_step _ _ _ 1 (by omega) (k - 1) (k - 2) _ rfl (by omega) (by omega), comb_step _ _ _ 2 (by omega) (k - 2) (k - 3) _ rfl (by omega) (by omega), comb_last _ _ _ (k - 3) (k - 4) (by omega) (by omega), comb_alg a b m _ rfl _ rfl]
theorem rcomb_ev (a b : BitVec 16) (m : Int) (hm : m ≤ 9223372036854775807) (k : Nat) (hk : 300000 < k) : hopmeshref03_Combine.f k (n a) (n b) m = some (n (comb a b m)) := by
  unfold hopmeshref03_Combine.f comb
  by_cases h : m < 0
  · rw [if_pos h, if_pos h]
  · rw [if_neg h, if_neg h]
    have e : wrap64 (8 * Int.tmod m 32767) = ((8 * (m.toNat % 32767) : Nat) : Int) := by
      rw [Int.tmod_eq_emod_of_nonneg (by omega), wr (by omega) (by omega)]; omega
    rw [e, rpow_ev _ (by omega) k (by omega)]; simp only [Option.bind_some]
    rw [rmul_ev _ _ _ (by omega)]; simp only [Option.bind_some]
    have e2 : powI ((8 * (m.toNat % 32767) : Nat) : Int) = pow (8 * m.toNat) := by
      unfold powI
      rw [if_neg (by omega), Int.toNat_natCast, ← pow_mod (n := 8 * m.toNat) pow_32767, ← pow_mod (n := 8 * (m.toNat % 32767)) pow_32767, Nat.mul_mod, Nat.mod_mod, ← Nat.mul_mod]
    rw [e2, mul_pow, show Go.bits .xor .u16 (n (Tn (8 * m.toNat) a)) (n b) = n (Tn (8 * m.toNat) a ^^^ b) from CrcA.xor_int _ _]

theorem sums_ev (d : ByteArray) (a b m : Int) (ha : (Lit.int .u16 a).wf = true) (hb : (Lit.int .u16 b).wf = true) (hm : (Lit.int .i64 m).wf = true) : ∃ k, hopmeshlaw03_CrcSums.f k d a b m = some true := by
  obtain ⟨x, rfl⟩ := u16_of ha
  obtain ⟨y, rfl⟩ := u16_of hb
  obtain ⟨_, hm1⟩ := i64_of hm
  obtain ⟨k0, h0⟩ := awake_more
  refine ⟨k0 + m.toNat + 400000, ?_⟩
  unfold hopmeshlaw03_CrcSums.f
  rw [h0 _ (by omega)]; simp only [Option.bind_some, if_true]
  by_cases h : (d.size : Int) > 300
  · rw [if_pos h]
  · rw [if_neg h, sum_ev d (by omega), rsum_ev d (by omega) _ (by omega)]; simp only [Option.bind_some, if_true]
    rw [update_ev _ d (by omega), rupdate_ev _ d (by omega) _ (by omega)]; simp only [Option.bind_some, if_true]
    rw [comb_ev _ _ _ hm1 _ (by omega), rcomb_ev _ _ _ hm1 _ (by omega)]; simp
theorem walk (d : ByteArray) (a b m : Int) (w : World) (_ : d.size ≤ 140737488351232) (ha : (Lit.int .u16 a).wf = true) (hb : (Lit.int .u16 b).wf = true) (hm : (Lit.int .i64 m).wf = true) :
    Calls Try.prog 7 #[.string d, .agg #[.int .u16 a, .int .u16 b, .int .i64 m]] w fun e w' => e = .returned (.bool true) ∧ Below w.heap.size w w' := by
  obtain ⟨k, h⟩ := sums_ev d a b m ha hb hm
  exact hopmeshlaw03_CrcSums.calls k d a b m true w h
end Go.Proofs.Ytkhkmmabbpfngaa.CrcSumsW
