/- crc.Protect, crc.Check and the reference's Protect: what they come to. Put together by wip/frcrc.py. (cut to what is reached: wip/tools/slimout2.py) -/
import Derived.Test.YtbgnkjaikbhdoaaFGQ
import Derived.Test.YtbgnkjaikbhdoaaFGCrcA
import Derived.Test.YtbgnkjaikbhdoaaFGBytes
import Derived.Outline
import Derived.Lib.Strings
namespace Go.Proofs.Ytbgnkjaikbhdoaa.FrCrc
open Go.RowKit Go.Proofs.Ytbgnkjaikbhdoaa.Q Go.Proofs.Ytbgnkjaikbhdoaa.Alg Go.Proofs.Ytbgnkjaikbhdoaa.CrcA Go.Proofs.YtbgnkjaikbhdoaaW.PrintWords Go.Proofs.YtbgnkjaikbhdoaaW.PrintLast Go.Proofs.YtbgnkjaikbhdoaaW.PrintMore
open Go.Proofs.Ytbgnkjaikbhdoaa.Bytes (Str)
abbrev n (a : BitVec 16) : Int := (a.toNat : Int)
theorem n_inj {a b : BitVec 16} : n a = n b ↔ a = b := by
  constructor
  · intro h; exact BitVec.eq_of_toNat_eq (by unfold n at h; omega)
  · rintro rfl; rfl
theorem wr {a : Int} (h0 : -9223372036854775808 ≤ a) (h1 : a ≤ 9223372036854775807) : wrap64 a = a := by unfold wrap64; omega
theorem rtimes_ev (a : BitVec 16) : hopmeshref03_Times.f (n a) = some (n (T a)) := by
  unfold hopmeshref03_Times.f n
  rw [shl1_int, show (4129 : Int) = ((4129#16).toNat : Int) from rfl, xor_int]
  unfold T
  rw [BitVec.msb_eq_decide]
  by_cases h : 2 ^ (16 - 1) ≤ a.toNat
  · rw [if_pos (by omega), decide_eq_true h, if_pos rfl]
  · rw [if_neg (by omega), decide_eq_false h, if_neg (by decide)]
theorem update_ev (s : BitVec 16) (d : ByteArray) (hd : d.size ≤ 140737488351232) : crc_Update.f (n s) d = some (n (crcU s d.data.toList)) := by
  have := s.isLt
  unfold crc_Update.f n
  rw [if_pos (by omega), Int.toNat_natCast, BitVec.ofNat_toNat, BitVec.setWidth_eq]
theorem sum_ev (d : ByteArray) (hd : d.size ≤ 140737488351232) : crc_Sum.f d = some (n (crc d.data.toList)) := by
  unfold crc_Sum.f
  rw [show (0 : Int) = n 0#16 from rfl, update_ev _ _ hd]; rfl
theorem bt_byte (d : ByteArray) (i : Nat) (h : i < d.size) : bt d (i : Int) = (d[i].toNat : Int) := by
  unfold bt; simp [h]
theorem in_int (c : UInt8) : IntKind.u16.wrap (IntKind.u16.wrap (c.toNat : Int) * 256) = n (b16 c <<< 8) := by
  have := c.toNat_lt
  unfold n b16
  rw [IntKind.wrap_u16, IntKind.wrap_u16, BitVec.toNat_shiftLeft, BitVec.toNat_ofNat, Nat.shiftLeft_eq, Nat.mod_eq_of_lt (show c.toNat < 2 ^ 16 by omega)]
  omega
theorem rl1 (d : ByteArray) (i : Nat) (m : Nat) : ∀ (k j : Nat) (s : BitVec 16) (r : Int), j + m = 8 → m < k → (∀ k', k - m - 1 = k' → hopmeshref03_Update.l0 k' (n (Tn m s)) d (wrap64 ((i : Int) + 1)) = some r) →
    hopmeshref03_Update.l1 k (n s) d (i : Int) (j : Int) = some r := by
  induction m with
  | zero =>
    intro k j s r hj hk h
    obtain ⟨k, rfl⟩ : ∃ q, k = q + 1 := ⟨k - 1, by omega⟩
    simp only [hopmeshref03_Update.l1]
    rw [if_neg (by omega)]
    exact h _ (by omega)
  | succ m ih =>
    intro k j s r hj hk h
    obtain ⟨k, rfl⟩ : ∃ q, k = q + 1 := ⟨k - 1, by omega⟩
    simp only [hopmeshref03_Update.l1]
    rw [if_pos (by omega), rtimes_ev]; simp only [Option.bind_some]
    rw [wr (a := (j : Int) + 1) (by omega) (by omega), show ((j : Int) + 1) = ((j + 1 : Nat) : Int) by omega]
    exact ih k (j + 1) (T s) r (by omega) (by omega) fun k' hk' => by rw [← Tn_succ']; exact h k' (by omega)
theorem rl0 (d : ByteArray) (hd : d.size ≤ 140737488351232) (m : Nat) : ∀ (k i : Nat) (s : BitVec 16), i + m = d.size → 10 * m + 1 < k →
    hopmeshref03_Update.l0 k (n s) d (i : Int) = some (n (crcU s (d.data.toList.drop i))) := by
  induction m with
  | zero =>
    intro k i s hi hk
    obtain ⟨k, rfl⟩ : ∃ q, k = q + 1 := ⟨k - 1, by omega⟩
    simp only [hopmeshref03_Update.l0]
    rw [if_neg (by omega), List.drop_of_length_le (by simp; omega)]; rfl
  | succ m ih =>
    intro k i s hi hk
    obtain ⟨k, rfl⟩ : ∃ q, k = q + 1 := ⟨k - 1, by omega⟩
    simp only [hopmeshref03_Update.l0]
    rw [if_pos (by omega), if_pos (by omega), bt_byte d i (by omega), in_int, show Go.bits .xor .u16 (n s) (n (b16 d[i] <<< 8)) = n (s ^^^ (b16 d[i] <<< 8)) from CrcA.xor_int _ _]
    refine rl1 d i 8 k 0 _ _ (by omega) (by omega) fun k' hk' => ?_
    rw [wr (a := (i : Int) + 1) (by omega) (by omega), show ((i : Int) + 1) = ((i + 1 : Nat) : Int) by omega, ih k' (i + 1) _ (by omega) (by omega)]
    have e : d.data.toList.drop i = d[i] :: d.data.toList.drop (i + 1) := by
      rw [List.drop_eq_getElem_cons (by simp; omega)]; rfl
    rw [e]; rfl
theorem rupdate_ev (s : BitVec 16) (d : ByteArray) (hd : d.size ≤ 140737488351232) (k : Nat) (hk : 10 * d.size + 1 < k) : hopmeshref03_Update.f k (n s) d = some (n (crcU s d.data.toList)) := by
  have := rl0 d hd d.size k 0 s (by omega) hk
  simpa [hopmeshref03_Update.f] using this
theorem rsum_ev (d : ByteArray) (hd : d.size ≤ 140737488351232) (k : Nat) (hk : 10 * d.size + 1 < k) : hopmeshref03_Sum.f k d = some (n (crc d.data.toList)) := by
  unfold hopmeshref03_Sum.f
  rw [show (0 : Int) = n 0#16 from rfl, rupdate_ev _ _ hd _ hk]; rfl
theorem str_eta (d : ByteArray) : Str d.data.toList = d := by cases d; simp
theorem str_list (l : List UInt8) : (Str l).data.toList = l := by simp
theorem str_size (l : List UInt8) : (Str l).size = l.length := by show l.toArray.size = _; simp
theorem str_of (d : ByteArray) : ∃ l, d = Str l := ⟨_, (str_eta d).symm⟩
theorem hi_num (c : BitVec 16) : UInt8.ofNat ((n c / 256) % 256).toNat = hi c := by
  have := c.isLt
  unfold hi n; congr 1; omega
theorem lo_num (c : BitVec 16) : UInt8.ofNat ((n c) % 256).toNat = lo c := by
  have := c.isLt
  unfold lo n; congr 1
theorem protect_ev (l : List UInt8) (hd : l.length ≤ 140737488351232) : crc_Protect.f (Str l) = some (Str (protect l)) := by
  unfold crc_Protect.f
  rw [sum_ev _ (by rw [str_size]; exact hd), str_list]; simp only [Option.bind_some]
  have e : strOfNums [(n (crc l) / 256) % 256, (n (crc l)) % 256] = Str [hi (crc l), lo (crc l)] := by
    unfold strOfNums; simp only [List.map_cons, List.map_nil, hi_num, lo_num]
  rw [e, if_pos (by rw [str_size, str_size]; simp; omega)]
  congr 1
theorem protect_any (l : List UInt8) (hd : l.length ≤ 140737488351232) (w : World) : Calls Try.prog 25 #[.string (Str l)] w fun e w' => e = .returned (.string (Str (protect l))) ∧ Below w.heap.size w w' :=
  crc_Protect.calls (Str l) (Str (protect l)) w (protect_ev l hd)
theorem xor_or (a b : UInt8) : Go.bits .or .u16 (IntKind.u16.wrap (IntKind.u16.wrap (a.toNat : Int) * 256)) (IntKind.u16.wrap (b.toNat : Int)) = n ((b16 a <<< 8) ^^^ b16 b) := by
  have ha := a.toNat_lt; have hb := b.toNat_lt
  rw [in_int]
  have e : IntKind.u16.wrap (b.toNat : Int) = n (b16 b) := by
    unfold n b16; rw [IntKind.wrap_u16, BitVec.toNat_ofNat]; omega
  rw [e]
  unfold n
  rw [u16_or_nat _ _ (BitVec.isLt _) (BitVec.isLt _), ← BitVec.toNat_or]
  congr 2
  apply BitVec.eq_of_getLsbD_eq
  intro j hj
  rw [BitVec.getLsbD_or, BitVec.getLsbD_xor, BitVec.getLsbD_shiftLeft]
  by_cases l : j < 8
  · simp [l]
  · have : (b16 b).getLsbD j = false := by
      unfold b16
      rw [BitVec.getLsbD, BitVec.toNat_ofNat, Nat.mod_eq_of_lt (by omega)]
      exact Nat.testBit_lt_two_pow (Nat.lt_of_lt_of_le (show b.toNat < 2 ^ 8 by omega) (Nat.pow_le_pow_right (by decide) (by omega)))
    simp [this]
theorem syn_short (l : List UInt8) (h : l.length < 2) : crc_Syndrome.f (Str l) = some (0, 9) := by
  unfold crc_Syndrome.f
  rw [str_size, wr (by omega) (by omega), if_pos (by omega)]
theorem extract_front (l m : List UInt8) : (Str (l ++ m)).extract 0 l.length = Str l := by
  rw [Lib.extract_eq, str_list]; simp
theorem syn_long (l : List UInt8) (a b : UInt8) (h : l.length + 2 ≤ 140737488351232) : crc_Syndrome.f (Str (l ++ [a, b])) = some (n (rem (l ++ [a, b])), 0) := by
  have hs : (Str (l ++ [a, b])).size = l.length + 2 := by rw [str_size]; simp
  unfold crc_Syndrome.f
  rw [hs]
  have e1 : (((l.length + 2 : Nat) : Int) - 2) = (l.length : Int) := by omega
  rw [e1, wr (a := (l.length : Int)) (by omega) (by omega), if_neg (by omega), if_pos (by omega), if_pos (by omega), Int.toNat_natCast, extract_front, sum_ev _ (by rw [str_size]; omega), str_list]
  simp only [Option.bind_some]
  have e2 : wrap64 ((l.length : Int) + 1) = ((l.length + 1 : Nat) : Int) := by rw [wr (by omega) (by omega)]; omega
  rw [e2, if_pos (by omega), if_pos (by omega), if_pos (by omega), bt_byte _ _ (by rw [hs]; omega), bt_byte _ _ (by rw [hs]; omega)]
  have g1 : (Str (l ++ [a, b]))[l.length]'(by rw [hs]; omega) = a := by
    show (l ++ [a, b]).toArray[l.length]'_ = a
    simp
  have g2 : (Str (l ++ [a, b]))[l.length + 1]'(by rw [hs]; omega) = b := by
    show (l ++ [a, b]).toArray[l.length + 1]'_ = b
    simp
  rw [g1, g2, xor_or, show Go.bits .xor .u16 (n (crc l)) (n ((b16 a <<< 8) ^^^ b16 b)) = n (crc l ^^^ ((b16 a <<< 8) ^^^ b16 b)) from CrcA.xor_int _ _, syndrome_eq]
def synd (l : List UInt8) : Int × Int := if l.length < 2 then (0, 9) else (n (rem l), 0)
theorem long_parts (l : List UInt8) (h : 2 ≤ l.length) : ∃ m a b, l = m ++ [a, b] := by
  refine ⟨l.take (l.length - 2), l[l.length - 2], l[l.length - 1], ?_⟩
  have h1 : l = l.take (l.length - 2) ++ l.drop (l.length - 2) := (List.take_append_drop _ _).symm
  have h2 : l.drop (l.length - 2) = [l[l.length - 2], l[l.length - 1]] := by
    rw [List.drop_eq_getElem_cons (by omega), List.drop_eq_getElem_cons (by omega), List.drop_of_length_le (by omega)]
    congr 3; omega
  rw [h2] at h1; exact h1
theorem synd_ev (l : List UInt8) (h : l.length ≤ 140737488351232) : crc_Syndrome.f (Str l) = some (synd l) := by
  unfold synd
  by_cases h2 : l.length < 2
  · rw [if_pos h2, syn_short l h2]
  · rw [if_neg h2]
    obtain ⟨m, a, b, rfl⟩ := long_parts l (by omega)
    exact syn_long m a b (by simp at h; omega)
def chk (l : List UInt8) : List UInt8 × Int := if l.length < 2 then ([], 9) else if rem l = 0#16 then (l.take (l.length - 2), 0) else ([], 10)
theorem chk_ev (l : List UInt8) (h : l.length ≤ 140737488351232) : crc_Check.f (Str l) = some (Str (chk l).1, (chk l).2) := by
  unfold crc_Check.f chk
  rw [synd_ev l h]; simp only [Option.bind_some]
  unfold synd
  by_cases h2 : l.length < 2
  · rw [if_pos h2, if_pos h2]; rfl
  · rw [if_neg h2, if_neg h2, if_pos rfl]
    by_cases h0 : rem l = 0#16
    · rw [if_pos h0, if_pos (by rw [h0]; rfl), str_size, wr (by omega) (by omega), if_pos (by omega), if_pos (by omega)]
      have e : ((l.length : Int) - 2).toNat = l.length - 2 := by omega
      rw [e, Lib.extract_eq, str_list]; simp
    · have hne : ¬ n (rem l) = 0 := fun e => h0 (n_inj.1 (show n _ = n 0#16 from e))
      rw [if_neg h0, if_neg hne]
theorem check_any (l : List UInt8) (h : l.length ≤ 140737488351232) (r : List UInt8 × Int) (hr : chk l = r) (w : World) :
    Calls Try.prog 40 #[.string (Str l)] w fun e w' => e = .returned (.tuple #[.string (Str r.1), .int .i64 r.2]) ∧ Below w.heap.size w w' := by
  subst hr
  exact crc_Check.calls (Str l) (Str (chk l).1) (chk l).2 w (chk_ev l h)
theorem protect_length (l : List UInt8) : (protect l).length = l.length + 2 := by simp [protect]
end Go.Proofs.Ytbgnkjaikbhdoaa.FrCrc
