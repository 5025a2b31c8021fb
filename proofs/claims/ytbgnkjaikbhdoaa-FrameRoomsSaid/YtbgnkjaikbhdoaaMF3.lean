/- Reading what was written, and writing what was read: plain lemmas on bits. frame.Decode. frame.Encode, for every frame. frame.Check. frame.fields and frame.Check. frame.Encode, out of frame.Check and frame.pen.frame. frame.pen.frame, writing: one walk for each kind. Printed by wip/penfr.py. crc.Protect, crc.Check and the reference's Protect: what they come to. Put together by wip/frcrc.py. -/
import Derived.Test.YtbgnkjaikbhdoaaMF2
import Derived.Test.YtbgnkjaikbhdoaaMF1
import Derived.Outline
import Derived.Lib.Strings
import Derived.Great.BuildSlice
import Derived.Test.YtbgnkjaikbhdoaaWEqStruct
import Derived.Laws.StructEq
-- FrCrc
namespace Go.Proofs.Ytbgnkjaikbhdoaa.FrCrc
open Go.RowKit Go.Proofs.Ytbgnkjaikbhdoaa.Q Go.Proofs.Ytbgnkjaikbhdoaa.Alg Go.Proofs.Ytbgnkjaikbhdoaa.CrcA Go.Proofs.YtbgnkjaikbhdoaaW.PrintWords Go.Proofs.YtbgnkjaikbhdoaaW.PrintLast Go.Proofs.YtbgnkjaikbhdoaaW.PrintMore
open Go.Proofs.Ytbgnkjaikbhdoaa.Bytes (Str)
/-- A residue as a number. -/
abbrev n (a : BitVec 16) : Int := (a.toNat : Int)
theorem n_inj {a b : BitVec 16} : n a = n b ↔ a = b := by
  constructor
  · intro h; exact BitVec.eq_of_toNat_eq (by unfold n at h; omega)
  · rintro rfl; rfl
theorem n_of {a : Int} (h0 : 0 ≤ a) (h1 : a < 65536) : ∃ x : BitVec 16, a = n x := by
  refine ⟨BitVec.ofNat 16 a.toNat, ?_⟩
  unfold n
  rw [BitVec.toNat_ofNat, Nat.mod_eq_of_lt (by omega), Int.toNat_of_nonneg h0]
theorem wr {a : Int} (h0 : -9223372036854775808 ≤ a) (h1 : a ≤ 9223372036854775807) : wrap64 a = a := by unfold wrap64; omega
theorem rtimes_ev (a : BitVec 16) : hopmeshref03_Times.f (n a) = some (n (T a)) := by
  unfold hopmeshref03_Times.f n
  rw [shl1_int, show (4129 : Int) = ((4129#16).toNat : Int) from rfl, xor_int]
  unfold T
  rw [BitVec.msb_eq_decide]
  by_cases h : 2 ^ (16 - 1) ≤ a.toNat
  · rw [if_pos (by omega), decide_eq_true h, if_pos rfl]
  · rw [if_neg (by omega), decide_eq_false h, if_neg (by decide)]
theorem update_ev (s : BitVec 16) (d : ByteArray) (hd : d.size ≤ 140737488351232) : crc_Update.f (n s) d = some (n (crcU s d.data.toList)) := by
  have := s.isLt
  unfold crc_Update.f n
  rw [if_pos (by omega), Int.toNat_natCast, BitVec.ofNat_toNat, BitVec.setWidth_eq]
theorem sum_ev (d : ByteArray) (hd : d.size ≤ 140737488351232) : crc_Sum.f d = some (n (crc d.data.toList)) := by
  unfold crc_Sum.f
  rw [show (0 : Int) = n 0#16 from rfl, update_ev _ _ hd]; rfl
theorem bt_byte (d : ByteArray) (i : Nat) (h : i < d.size) : bt d (i : Int) = (d[i].toNat : Int) := by
  unfold bt; simp [h]
theorem in_int (c : UInt8) : IntKind.u16.wrap (IntKind.u16.wrap (c.toNat : Int) * 256) = n (b16 c <<< 8) := by
  have := c.toNat_lt
  unfold n b16
  rw [IntKind.wrap_u16, IntKind.wrap_u16, BitVec.toNat_shiftLeft, BitVec.toNat_ofNat, Nat.shiftLeft_eq, Nat.mod_eq_of_lt (show c.toNat < 2 ^ 16 by omega)]
  omega
theorem rl1 (d : ByteArray) (i : Nat) (m : Nat) : ∀ (k j : Nat) (s : BitVec 16) (r : Int), j + m = 8 → m < k → (∀ k', k - m - 1 = k' → hopmeshref03_Update.l0 k' (n (Tn m s)) d (wrap64 ((i : Int) + 1)) = some r) →
    hopmeshref03_Update.l1 k (n s) d (i : Int) (j : Int) = some r := by
  induction m with
  | zero =>
    intro k j s r hj hk h
    obtain ⟨k, rfl⟩ : ∃ q, k = q + 1 := ⟨k - 1, by omega⟩
    simp only [hopmeshref03_Update.l1]
    rw [if_neg (by omega)]
    exact h _ (by omega)
  | succ m ih =>
    intro k j s r hj hk h
    obtain ⟨k, rfl⟩ : ∃ q, k = q + 1 := ⟨k - 1, by omega⟩
    simp only [hopmeshref03_Update.l1]
    rw [if_pos (by omega), rtimes_ev]; simp only [Option.bind_some]
    rw [wr (a := (j : Int) + 1) (by omega) (by omega), show ((j : Int) + 1) = ((j + 1 : Nat) : Int) by omega]
    exact ih k (j + 1) (T s) r (by omega) (by omega) fun k' hk' => by rw [← Tn_succ']; exact h k' (by omega)
theorem rl0 (d : ByteArray) (hd : d.size ≤ 140737488351232) (m : Nat) : ∀ (k i : Nat) (s : BitVec 16), i + m = d.size → 10 * m + 1 < k →
    hopmeshref03_Update.l0 k (n s) d (i : Int) = some (n (crcU s (d.data.toList.drop i))) := by
  induction m with
  | zero =>
    intro k i s hi hk
    obtain ⟨k, rfl⟩ : ∃ q, k = q + 1 := ⟨k - 1, by omega⟩
    simp only [hopmeshref03_Update.l0]
    rw [if_neg (by omega), List.drop_of_length_le (by simp; omega)]; rfl
  | succ m ih =>
    intro k i s hi hk
    obtain ⟨k, rfl⟩ : ∃ q, k = q + 1 := ⟨k - 1, by omega⟩
    simp only [hopmeshref03_Update.l0]
    rw [if_pos (by omega), if_pos (by omega), bt_byte d i (by omega), in_int, show Go.bits .xor .u16 (n s) (n (b16 d[i] <<< 8)) = n (s ^^^ (b16 d[i] <<< 8)) from CrcA.xor_int _ _]
    refine rl1 d i 8 k 0 _ _ (by omega) (by omega) fun k' hk' => ?_
    rw [wr (a := (i : Int) + 1) (by omega) (by omega), show ((i : Int) + 1) = ((i + 1 : Nat) : Int) by omega, ih k' (i + 1) _ (by omega) (by omega)]
    have e : d.data.toList.drop i = d[i] :: d.data.toList.drop (i + 1) := by
      rw [List.drop_eq_getElem_cons (by simp; omega)]; rfl
    rw [e]; rfl
theorem rupdate_ev (s : BitVec 16) (d : ByteArray) (hd : d.size ≤ 140737488351232) (k : Nat) (hk : 10 * d.size + 1 < k) : hopmeshref03_Update.f k (n s) d = some (n (crcU s d.data.toList)) := by
  have := rl0 d hd d.size k 0 s (by omega) hk
  simpa [hopmeshref03_Update.f] using this
theorem rsum_ev (d : ByteArray) (hd : d.size ≤ 140737488351232) (k : Nat) (hk : 10 * d.size + 1 < k) : hopmeshref03_Sum.f k d = some (n (crc d.data.toList)) := by
  unfold hopmeshref03_Sum.f
  rw [show (0 : Int) = n 0#16 from rfl, rupdate_ev _ _ hd _ hk]; rfl
/-- Two steps, each of which only makes memory. -/
theorem bl {w w1 w2 : World} (h : Below w.heap.size w w1) (h2 : Below w1.heap.size w1 w2) : Below w.heap.size w w2 := h.trans (h2.mono h.size)
theorem str_eta (d : ByteArray) : Str d.data.toList = d := by cases d; simp
theorem str_list (l : List UInt8) : (Str l).data.toList = l := by simp
theorem str_size (l : List UInt8) : (Str l).size = l.length := by show l.toArray.size = _; simp
theorem size_list (d : ByteArray) : d.size = d.data.toList.length := by show d.data.size = _; simp
theorem str_of (d : ByteArray) : ∃ l, d = Str l := ⟨_, (str_eta d).symm⟩
theorem hi_num (c : BitVec 16) : UInt8.ofNat ((n c / 256) % 256).toNat = hi c := by
  have := c.isLt
  unfold hi n; congr 1; omega
theorem lo_num (c : BitVec 16) : UInt8.ofNat ((n c) % 256).toNat = lo c := by
  have := c.isLt
  unfold lo n; congr 1
theorem protect_ev (l : List UInt8) (hd : l.length ≤ 140737488351232) : crc_Protect.f (Str l) = some (Str (protect l)) := by
  unfold crc_Protect.f
  rw [sum_ev _ (by rw [str_size]; exact hd), str_list]; simp only [Option.bind_some]
  have e : strOfNums [(n (crc l) / 256) % 256, (n (crc l)) % 256] = Str [hi (crc l), lo (crc l)] := by
    unfold strOfNums; simp only [List.map_cons, List.map_nil, hi_num, lo_num]
  rw [e, if_pos (by rw [str_size, str_size]; simp; omega)]
  congr 1
theorem protect_any (l : List UInt8) (hd : l.length ≤ 140737488351232) (w : World) : Calls Try.prog 25 #[.string (Str l)] w fun e w' => e = .returned (.string (Str (protect l))) ∧ Below w.heap.size w w' :=
  crc_Protect.calls (Str l) (Str (protect l)) w (protect_ev l hd)
theorem xor_or (a b : UInt8) : Go.bits .or .u16 (IntKind.u16.wrap (IntKind.u16.wrap (a.toNat : Int) * 256)) (IntKind.u16.wrap (b.toNat : Int)) = n ((b16 a <<< 8) ^^^ b16 b) := by
  have ha := a.toNat_lt; have hb := b.toNat_lt
  rw [in_int]
  have e : IntKind.u16.wrap (b.toNat : Int) = n (b16 b) := by
    unfold n b16; rw [IntKind.wrap_u16, BitVec.toNat_ofNat]; omega
  rw [e]
  unfold n
  rw [u16_or_nat _ _ (BitVec.isLt _) (BitVec.isLt _), ← BitVec.toNat_or]
  congr 2
  apply BitVec.eq_of_getLsbD_eq
  intro j hj
  rw [BitVec.getLsbD_or, BitVec.getLsbD_xor, BitVec.getLsbD_shiftLeft]
  by_cases l : j < 8
  · simp [l]
  · have : (b16 b).getLsbD j = false := by
      unfold b16
      rw [BitVec.getLsbD, BitVec.toNat_ofNat, Nat.mod_eq_of_lt (by omega)]
      exact Nat.testBit_lt_two_pow (Nat.lt_of_lt_of_le (show b.toNat < 2 ^ 8 by omega) (Nat.pow_le_pow_right (by decide) (by omega)))
    simp [this]
theorem syn_short (l : List UInt8) (h : l.length < 2) : crc_Syndrome.f (Str l) = some (0, 9) := by
  unfold crc_Syndrome.f
  rw [str_size, wr (by omega) (by omega), if_pos (by omega)]
theorem extract_front (l m : List UInt8) : (Str (l ++ m)).extract 0 l.length = Str l := by
  rw [Lib.extract_eq, str_list]; simp
theorem syn_long (l : List UInt8) (a b : UInt8) (h : l.length + 2 ≤ 140737488351232) : crc_Syndrome.f (Str (l ++ [a, b])) = some (n (rem (l ++ [a, b])), 0) := by
  have hs : (Str (l ++ [a, b])).size = l.length + 2 := by rw [str_size]; simp
  unfold crc_Syndrome.f
  rw [hs]
  have e1 : (((l.length + 2 : Nat) : Int) - 2) = (l.length : Int) := by omega
  rw [e1, wr (a := (l.length : Int)) (by omega) (by omega), if_neg (by omega), if_pos (by omega), if_pos (by omega), Int.toNat_natCast, extract_front, sum_ev _ (by rw [str_size]; omega), str_list]
  simp only [Option.bind_some]
  have e2 : wrap64 ((l.length : Int) + 1) = ((l.length + 1 : Nat) : Int) := by rw [wr (by omega) (by omega)]; omega
  rw [e2, if_pos (by omega), if_pos (by omega), if_pos (by omega), bt_byte _ _ (by rw [hs]; omega), bt_byte _ _ (by rw [hs]; omega)]
  have g1 : (Str (l ++ [a, b]))[l.length]'(by rw [hs]; omega) = a := by
    show (l ++ [a, b]).toArray[l.length]'_ = a
    simp
  have g2 : (Str (l ++ [a, b]))[l.length + 1]'(by rw [hs]; omega) = b := by
    show (l ++ [a, b]).toArray[l.length + 1]'_ = b
    simp
  rw [g1, g2, xor_or, show Go.bits .xor .u16 (n (crc l)) (n ((b16 a <<< 8) ^^^ b16 b)) = n (crc l ^^^ ((b16 a <<< 8) ^^^ b16 b)) from CrcA.xor_int _ _, syndrome_eq]
/-- What Syndrome returns. -/
def synd (l : List UInt8) : Int × Int := if l.length < 2 then (0, 9) else (n (rem l), 0)
theorem long_parts (l : List UInt8) (h : 2 ≤ l.length) : ∃ m a b, l = m ++ [a, b] := by
  refine ⟨l.take (l.length - 2), l[l.length - 2], l[l.length - 1], ?_⟩
  have h1 : l = l.take (l.length - 2) ++ l.drop (l.length - 2) := (List.take_append_drop _ _).symm
  have h2 : l.drop (l.length - 2) = [l[l.length - 2], l[l.length - 1]] := by
    rw [List.drop_eq_getElem_cons (by omega), List.drop_eq_getElem_cons (by omega), List.drop_of_length_le (by omega)]
    congr 3; omega
  rw [h2] at h1; exact h1
theorem synd_ev (l : List UInt8) (h : l.length ≤ 140737488351232) : crc_Syndrome.f (Str l) = some (synd l) := by
  unfold synd
  by_cases h2 : l.length < 2
  · rw [if_pos h2, syn_short l h2]
  · rw [if_neg h2]
    obtain ⟨m, a, b, rfl⟩ := long_parts l (by omega)
    exact syn_long m a b (by simp at h; omega)
/-- What Check returns. -/
def chk (l : List UInt8) : List UInt8 × Int := if l.length < 2 then ([], 9) else if rem l = 0#16 then (l.take (l.length - 2), 0) else ([], 10)
theorem chk_ev (l : List UInt8) (h : l.length ≤ 140737488351232) : crc_Check.f (Str l) = some (Str (chk l).1, (chk l).2) := by
  unfold crc_Check.f chk
  rw [synd_ev l h]; simp only [Option.bind_some]
  unfold synd
  by_cases h2 : l.length < 2
  · rw [if_pos h2, if_pos h2]; rfl
  · rw [if_neg h2, if_neg h2, if_pos rfl]
    by_cases h0 : rem l = 0#16
    · rw [if_pos h0, if_pos (by rw [h0]; rfl), str_size, wr (by omega) (by omega), if_pos (by omega), if_pos (by omega)]
      have e : ((l.length : Int) - 2).toNat = l.length - 2 := by omega
      rw [e, Lib.extract_eq, str_list]; simp
    · have hne : ¬ n (rem l) = 0 := fun e => h0 (n_inj.1 (show n _ = n 0#16 from e))
      rw [if_neg h0, if_neg hne]
theorem check_any (l : List UInt8) (h : l.length ≤ 140737488351232) (r : List UInt8 × Int) (hr : chk l = r) (w : World) :
    Calls Try.prog 40 #[.string (Str l)] w fun e w' => e = .returned (.tuple #[.string (Str r.1), .int .i64 r.2]) ∧ Below w.heap.size w w' := by
  subst hr
  exact crc_Check.calls (Str l) (Str (chk l).1) (chk l).2 w (chk_ev l h)
theorem chk_protect (l : List UInt8) : chk (protect l) = (l, 0) := by
  unfold chk
  rw [if_neg (by simp [protect]), if_pos (rem_protect l)]
  simp [protect]
theorem rprotect_ev (l : List UInt8) (hd : l.length ≤ 140737488351232) (k : Nat) (hk : 10 * l.length + 1 < k) : hopmeshref03_Protect.f k (Str l) = some (Str (protect l)) := by
  unfold hopmeshref03_Protect.f
  rw [rsum_ev _ (by rw [str_size]; exact hd) k (by rw [str_size]; exact hk), str_list]; simp only [Option.bind_some]
  have e : strOfNums [(n (crc l) / 256) % 256, (n (crc l)) % 256] = Str [hi (crc l), lo (crc l)] := by
    unfold strOfNums; simp only [List.map_cons, List.map_nil, hi_num, lo_num]
  rw [e, if_pos (by rw [str_size, str_size]; simp; omega)]
  congr 1
theorem rprotect_any (l : List UInt8) (hd : l.length ≤ 140737488351232) (w : World) : Calls Try.prog 35 #[.string (Str l)] w fun e w' => e = .returned (.string (Str (protect l))) ∧ Below w.heap.size w w' :=
  hopmeshref03_Protect.calls (10 * l.length + 2) (Str l) (Str (protect l)) w (rprotect_ev l hd _ (by omega))
theorem protect_length (l : List UInt8) : (protect l).length = l.length + 2 := by simp [protect]
end Go.Proofs.Ytbgnkjaikbhdoaa.FrCrc

-- PenFr
namespace Go.Proofs.Ytbgnkjaikbhdoaa.PenFr
set_option linter.unusedSimpArgs false
set_option linter.unusedVariables false
open Go.RowKit Go.Proofs.Ytbgnkjaikbhdoaa.Pack Go.Proofs.Ytbgnkjaikbhdoaa.Wr Go.Proofs.Ytbgnkjaikbhdoaa.WrPut Go.Proofs.Ytbgnkjaikbhdoaa.WrAll Go.Proofs.Ytbgnkjaikbhdoaa.WrText Go.Proofs.Ytbgnkjaikbhdoaa.PenW Go.Proofs.Ytbgnkjaikbhdoaa.PenF
open Go.Proofs.Ytbgnkjaikbhdoaa.Bytes (Str)

/-- The fields that all frames have. -/
def headBits (k s t l q : Int) : List Bool := bitsN 3 k.toNat ++ bitsN 5 s.toNat ++ targetBits t ++ bitsN 8 l.toNat ++ bitsN 8 q.toNat
theorem targetBits_length (t : Int) : (targetBits t).length ≤ 6 := by unfold targetBits; split <;> simp [bitsN_length]
theorem addG {B g n mb : Nat} {G : List (Nat × Obj)} {w : World} {l : List UInt8} {err : Int} {o : Obj} (h : WrL B G w g l n err) (ho : w.heap[mb]? = some o) (hne : mb ≠ g) (h8 : ¬ T8 o) : WrL B ((mb, o) :: G) w g l n err := by
  refine ⟨h.1, h.2.1, fun p hp => ?_⟩
  rcases List.mem_cons.1 hp with rfl | hp
  · exact ⟨ho, hne, h8⟩
  · exact h.2.2 p hp

set_option maxRecDepth 100000 in
set_option maxHeartbeats 8000000 in
theorem frame_data {B g gf : Nat} {G : List (Nat × Obj)} {w : World} {cs : Array Value} (h : Wr B G w g [] 0) (hG : (gf, .cells cs 23) ∈ G) (c0 : cs[0]? = some (.int .i64 1)) (s : Int) (c1 : cs[1]? = some (.int .i64 s)) (l1 : 0 ≤ s) (u1 : s ≤ 31) (t : Int) (c2 : cs[2]? = some (.int .i64 t)) (l2 : -1 ≤ t) (u2 : t ≤ 31) (l : Int) (c3 : cs[3]? = some (.int .i64 l)) (l3 : 0 ≤ l) (u3 : l ≤ 255) (q : Int) (c4 : cs[4]? = some (.int .i64 q)) (l4 : 0 ≤ q) (u4 : q ≤ 255) (x : Int) (c5 : cs[5]? = some (.int .i64 x)) (l5 : 0 ≤ x) (u5 : x ≤ 255) (y : Int) (c6 : cs[6]? = some (.int .i64 y)) (l6 : 0 ≤ y) (u6 : y ≤ 65535) (d : List UInt8) (c11 : cs[11]? = some (.string (Str d))) (hd : d.length ≤ 127) :
    Calls Try.prog 27 #[Pw g, .pointer (some ⟨gf, 0, none⟩)] w fun e w' => e = .returned (.bool true) ∧ Wr B G w' g (headBits 1 s t l q ++ (bitsN 8 x.toNat ++ bitsN 16 y.toNat ++ textBits d)) 0 ∧ Below B w w' := by
  have hlt := WrL.lt h
  have hB := h.1
  have hW0 : Wr B ((w.heap.size, Pb g) :: G) (w.alloc (Pb g)) g [] 0 := WrL.allocG h _ (pb_not8 g)
  have hB0 : Below B w (w.alloc (Pb g)) := Below.alloc (Below.refl B w) (by omega) _
  obtain ⟨m1, m2, m3, m4, o, r1, r2, r3, r4, mb, ms, mo, m8, look⟩ := kinds_map (w.alloc (Pb g))
  have es : (w.alloc (Pb g)).heap.size = w.heap.size + 1 := by simp
  have hW1 : Wr B ((w.heap.size + 1, o) :: (w.heap.size, Pb g) :: G) m4 g [] 0 := addG (WrL.below hW0 mb) (by rw [← es]; exact mo) (by omega) m8
  have hB1 : Below B w m4 := hB0.trans (mb.mono (by rw [es]; omega))
  rw [es] at r1 r2 r3 r4 look
  have HW1 := Lib.hid hW1
  have HB1 := Lib.hid hB1
  have HG := Lib.hid hG
  have HL := Lib.hid look
  have hmm := @run_makeMap Try.prog
  have p0 : m4.cell? ⟨w.heap.size, 0, none⟩ = some (.pointer (some ⟨g, 0, none⟩)) := guest_cell hW1 (.tail _ (.head _)) rfl
  have p1 : m4.cell? ⟨w.heap.size, 1, none⟩ = some (.pointer none) := guest_cell hW1 (.tail _ (.head _)) rfl
  clear hlt hG h hW0 hB0 mb ms mo m8 look es hW1 hB1
  go_enter Try.func27, Try.ntmps27
  go_wp2_with fail
  clear r1 r2 r3 r4 hmm
  refine wp_region_still_tail 4 (by kernel_rfl) (by kernel_rfl) ?_
  simp only [List.take_succ_cons, List.take_zero, List.drop_succ_cons, List.drop_zero]
  change wpStill _ _ (World.drew m4) (fun a' => wpList _ _ _ _ a' (World.drew m4)) _ _
  have s0 : (World.drew m4).cell? ⟨w.heap.size, 0, none⟩ = some (.pointer (some ⟨g, 0, none⟩)) := p0
  have s1 : (World.drew m4).cell? ⟨w.heap.size, 1, none⟩ = some (.pointer none) := p1
  have HWd := Lib.hid (WrL.drew HW1.out)
  have HBd := Lib.hid (below_drew' HB1.out)
  clear p0 p1 HW1 HB1
  generalize World.drew m4 = wa0 at s0 s1 HWd HBd ⊢
  repeat still_step
  refine wpStill_nil ?_
  clear s0 s1
  go_wp2_with fail
  refine (unsigned_w (j := 0) (show Wr _ _ _ _ _ _ from HWd.out) (.tail _ (.tail _ HG.out)) (k := 3) (by omega) (by omega) 1 c0 (by omega) (by omega) (by omega) (by first | omega | (simp only [List.length_append, List.length_nil, bitsN_length]; have := targetBits_length t; omega))).mono ?_
  rintro e wb0 ⟨rfl, h3, b3⟩
  have HW1 := Lib.hid h3
  have HB1 := Lib.hid (HBd.out.trans b3)
  clear h3 b3 HWd HBd
  have p0 : wb0.cell? ⟨w.heap.size, 0, none⟩ = some (.pointer (some ⟨g, 0, none⟩)) := guest_cell HW1.out (.tail _ (.head _)) rfl
  have p1 : wb0.cell? ⟨w.heap.size, 1, none⟩ = some (.pointer none) := guest_cell HW1.out (.tail _ (.head _)) rfl
  go_wp2_with fail
  refine wp_region_still_tail 4 (by kernel_rfl) (by kernel_rfl) ?_
  simp only [List.take_succ_cons, List.take_zero, List.drop_succ_cons, List.drop_zero]
  change wpStill _ _ (World.drew wb0) (fun a' => wpList _ _ _ _ a' (World.drew wb0)) _ _
  have s0 : (World.drew wb0).cell? ⟨w.heap.size, 0, none⟩ = some (.pointer (some ⟨g, 0, none⟩)) := p0
  have s1 : (World.drew wb0).cell? ⟨w.heap.size, 1, none⟩ = some (.pointer none) := p1
  have HWd := Lib.hid (WrL.drew HW1.out)
  have HBd := Lib.hid (below_drew' HB1.out)
  clear p0 p1 HW1 HB1
  generalize World.drew wb0 = wa1 at s0 s1 HWd HBd ⊢
  repeat still_step
  refine wpStill_nil ?_
  clear s0 s1
  go_wp2_with fail
  refine (unsigned_w (j := 1) (show Wr _ _ _ _ _ _ from HWd.out) (.tail _ (.tail _ HG.out)) (k := 5) (by omega) (by omega) s c1 (by omega) (by omega) (by omega) (by first | omega | (simp only [List.length_append, List.length_nil, bitsN_length]; have := targetBits_length t; omega))).mono ?_
  rintro e wb1 ⟨rfl, h3, b3⟩
  have HW1 := Lib.hid h3
  have HB1 := Lib.hid (HBd.out.trans b3)
  clear h3 b3 HWd HBd
  have p0 : wb1.cell? ⟨w.heap.size, 0, none⟩ = some (.pointer (some ⟨g, 0, none⟩)) := guest_cell HW1.out (.tail _ (.head _)) rfl
  have p1 : wb1.cell? ⟨w.heap.size, 1, none⟩ = some (.pointer none) := guest_cell HW1.out (.tail _ (.head _)) rfl
  go_wp2_with fail
  refine wp_region_still_tail 4 (by kernel_rfl) (by kernel_rfl) ?_
  simp only [List.take_succ_cons, List.take_zero, List.drop_succ_cons, List.drop_zero]
  change wpStill _ _ (World.drew wb1) (fun a' => wpList _ _ _ _ a' (World.drew wb1)) _ _
  have s0 : (World.drew wb1).cell? ⟨w.heap.size, 0, none⟩ = some (.pointer (some ⟨g, 0, none⟩)) := p0
  have s1 : (World.drew wb1).cell? ⟨w.heap.size, 1, none⟩ = some (.pointer none) := p1
  have HWd := Lib.hid (WrL.drew HW1.out)
  have HBd := Lib.hid (below_drew' HB1.out)
  clear p0 p1 HW1 HB1
  generalize World.drew wb1 = wa2 at s0 s1 HWd HBd ⊢
  repeat still_step
  refine wpStill_nil ?_
  clear s0 s1
  go_wp2_with fail
  refine (target_w (show Wr _ _ _ _ _ _ from HWd.out) (.tail _ (.tail _ HG.out)) t c2 l2 u2 (by simp only [List.length_nil, List.length_append, bitsN_length]; omega)).mono ?_
  rintro e wb2 ⟨rfl, h3, b3⟩
  have HW1 := Lib.hid h3
  have HB1 := Lib.hid (HBd.out.trans b3)
  clear h3 b3 HWd HBd
  have p0 : wb2.cell? ⟨w.heap.size, 0, none⟩ = some (.pointer (some ⟨g, 0, none⟩)) := guest_cell HW1.out (.tail _ (.head _)) rfl
  have p1 : wb2.cell? ⟨w.heap.size, 1, none⟩ = some (.pointer none) := guest_cell HW1.out (.tail _ (.head _)) rfl
  go_wp2_with fail
  refine wp_region_still_tail 4 (by kernel_rfl) (by kernel_rfl) ?_
  simp only [List.take_succ_cons, List.take_zero, List.drop_succ_cons, List.drop_zero]
  change wpStill _ _ (World.drew wb2) (fun a' => wpList _ _ _ _ a' (World.drew wb2)) _ _
  have s0 : (World.drew wb2).cell? ⟨w.heap.size, 0, none⟩ = some (.pointer (some ⟨g, 0, none⟩)) := p0
  have s1 : (World.drew wb2).cell? ⟨w.heap.size, 1, none⟩ = some (.pointer none) := p1
  have HWd := Lib.hid (WrL.drew HW1.out)
  have HBd := Lib.hid (below_drew' HB1.out)
  clear p0 p1 HW1 HB1
  generalize World.drew wb2 = wa3 at s0 s1 HWd HBd ⊢
  repeat still_step
  refine wpStill_nil ?_
  clear s0 s1
  go_wp2_with fail
  refine (unsigned_w (j := 3) (show Wr _ _ _ _ _ _ from HWd.out) (.tail _ (.tail _ HG.out)) (k := 8) (by omega) (by omega) l c3 (by omega) (by omega) (by omega) (by first | omega | (simp only [List.length_append, List.length_nil, bitsN_length]; have := targetBits_length t; omega))).mono ?_
  rintro e wb3 ⟨rfl, h3, b3⟩
  have HW1 := Lib.hid h3
  have HB1 := Lib.hid (HBd.out.trans b3)
  clear h3 b3 HWd HBd
  have p0 : wb3.cell? ⟨w.heap.size, 0, none⟩ = some (.pointer (some ⟨g, 0, none⟩)) := guest_cell HW1.out (.tail _ (.head _)) rfl
  have p1 : wb3.cell? ⟨w.heap.size, 1, none⟩ = some (.pointer none) := guest_cell HW1.out (.tail _ (.head _)) rfl
  go_wp2_with fail
  refine wp_region_still_tail 4 (by kernel_rfl) (by kernel_rfl) ?_
  simp only [List.take_succ_cons, List.take_zero, List.drop_succ_cons, List.drop_zero]
  change wpStill _ _ (World.drew wb3) (fun a' => wpList _ _ _ _ a' (World.drew wb3)) _ _
  have s0 : (World.drew wb3).cell? ⟨w.heap.size, 0, none⟩ = some (.pointer (some ⟨g, 0, none⟩)) := p0
  have s1 : (World.drew wb3).cell? ⟨w.heap.size, 1, none⟩ = some (.pointer none) := p1
  have HWd := Lib.hid (WrL.drew HW1.out)
  have HBd := Lib.hid (below_drew' HB1.out)
  clear p0 p1 HW1 HB1
  generalize World.drew wb3 = wa4 at s0 s1 HWd HBd ⊢
  repeat still_step
  refine wpStill_nil ?_
  clear s0 s1
  go_wp2_with fail
  refine (unsigned_w (j := 4) (show Wr _ _ _ _ _ _ from HWd.out) (.tail _ (.tail _ HG.out)) (k := 8) (by omega) (by omega) q c4 (by omega) (by omega) (by omega) (by first | omega | (simp only [List.length_append, List.length_nil, bitsN_length]; have := targetBits_length t; omega))).mono ?_
  rintro e wb4 ⟨rfl, h3, b3⟩
  have HW1 := Lib.hid h3
  have HB1 := Lib.hid (HBd.out.trans b3)
  clear h3 b3 HWd HBd
  have p0 : wb4.cell? ⟨w.heap.size, 0, none⟩ = some (.pointer (some ⟨g, 0, none⟩)) := guest_cell HW1.out (.tail _ (.head _)) rfl
  have p1 : wb4.cell? ⟨w.heap.size, 1, none⟩ = some (.pointer none) := guest_cell HW1.out (.tail _ (.head _)) rfl
  have k0 : wb4.cell? ⟨gf, 0, none⟩ = some (.int .i64 1) := guest_cell HW1.out (.tail _ (.tail _ HG.out)) c0
  have hl := (HL.out wb4 (WrL.guest HW1.out (.head _))).1
  go_wp2_with fail
  refine (data_w (show Wr _ _ _ _ _ _ from HW1.out) (.tail _ (.tail _ HG.out)) x c5 l5 u5 y c6 l6 u6 d c11 hd (by first | omega | (simp only [List.length_append, List.length_nil, bitsN_length]; have := targetBits_length t; omega))).mono ?_
  rintro e wz ⟨rfl, h3, b3⟩
  have HWz := Lib.hid h3
  have HBz := Lib.hid (HB1.out.trans b3)
  clear h3 b3 p0 p1 k0 hl
  go_wp2_with fail
  go_ret
  have h9 : Wr B G _ g _ _ := WrL.drop (WrL.drop HWz.out)
  exact ⟨rfl, by unfold headBits; simpa only [List.nil_append, List.append_assoc, List.append_nil] using h9, HBz.out⟩

set_option maxRecDepth 100000 in
set_option maxHeartbeats 8000000 in
theorem frame_data_long {B g gf : Nat} {G : List (Nat × Obj)} {w : World} {cs : Array Value} (h : Wr B G w g [] 0) (hG : (gf, .cells cs 23) ∈ G) (c0 : cs[0]? = some (.int .i64 1)) (s : Int) (c1 : cs[1]? = some (.int .i64 s)) (l1 : 0 ≤ s) (u1 : s ≤ 31) (t : Int) (c2 : cs[2]? = some (.int .i64 t)) (l2 : -1 ≤ t) (u2 : t ≤ 31) (l : Int) (c3 : cs[3]? = some (.int .i64 l)) (l3 : 0 ≤ l) (u3 : l ≤ 255) (q : Int) (c4 : cs[4]? = some (.int .i64 q)) (l4 : 0 ≤ q) (u4 : q ≤ 255) (x : Int) (c5 : cs[5]? = some (.int .i64 x)) (l5 : 0 ≤ x) (u5 : x ≤ 255) (y : Int) (c6 : cs[6]? = some (.int .i64 y)) (l6 : 0 ≤ y) (u6 : y ≤ 65535) (d : List UInt8) (c11 : cs[11]? = some (.string (Str d))) (hd : 127 < d.length) :
    Calls Try.prog 27 #[Pw g, .pointer (some ⟨gf, 0, none⟩)] w fun e w' => e = .returned (.bool true) ∧ Wr B G w' g (headBits 1 s t l q ++ (bitsN 8 x.toNat ++ bitsN 16 y.toNat)) 8 ∧ Below B w w' := by
  have hlt := WrL.lt h
  have hB := h.1
  have hW0 : Wr B ((w.heap.size, Pb g) :: G) (w.alloc (Pb g)) g [] 0 := WrL.allocG h _ (pb_not8 g)
  have hB0 : Below B w (w.alloc (Pb g)) := Below.alloc (Below.refl B w) (by omega) _
  obtain ⟨m1, m2, m3, m4, o, r1, r2, r3, r4, mb, ms, mo, m8, look⟩ := kinds_map (w.alloc (Pb g))
  have es : (w.alloc (Pb g)).heap.size = w.heap.size + 1 := by simp
  have hW1 : Wr B ((w.heap.size + 1, o) :: (w.heap.size, Pb g) :: G) m4 g [] 0 := addG (WrL.below hW0 mb) (by rw [← es]; exact mo) (by omega) m8
  have hB1 : Below B w m4 := hB0.trans (mb.mono (by rw [es]; omega))
  rw [es] at r1 r2 r3 r4 look
  have HW1 := Lib.hid hW1
  have HB1 := Lib.hid hB1
  have HG := Lib.hid hG
  have HL := Lib.hid look
  have hmm := @run_makeMap Try.prog
  have p0 : m4.cell? ⟨w.heap.size, 0, none⟩ = some (.pointer (some ⟨g, 0, none⟩)) := guest_cell hW1 (.tail _ (.head _)) rfl
  have p1 : m4.cell? ⟨w.heap.size, 1, none⟩ = some (.pointer none) := guest_cell hW1 (.tail _ (.head _)) rfl
  clear hlt hG h hW0 hB0 mb ms mo m8 look es hW1 hB1
  go_enter Try.func27, Try.ntmps27
  go_wp2_with fail
  clear r1 r2 r3 r4 hmm
  refine wp_region_still_tail 4 (by kernel_rfl) (by kernel_rfl) ?_
  simp only [List.take_succ_cons, List.take_zero, List.drop_succ_cons, List.drop_zero]
  change wpStill _ _ (World.drew m4) (fun a' => wpList _ _ _ _ a' (World.drew m4)) _ _
  have s0 : (World.drew m4).cell? ⟨w.heap.size, 0, none⟩ = some (.pointer (some ⟨g, 0, none⟩)) := p0
  have s1 : (World.drew m4).cell? ⟨w.heap.size, 1, none⟩ = some (.pointer none) := p1
  have HWd := Lib.hid (WrL.drew HW1.out)
  have HBd := Lib.hid (below_drew' HB1.out)
  clear p0 p1 HW1 HB1
  generalize World.drew m4 = wa0 at s0 s1 HWd HBd ⊢
  repeat still_step
  refine wpStill_nil ?_
  clear s0 s1
  go_wp2_with fail
  refine (unsigned_w (j := 0) (show Wr _ _ _ _ _ _ from HWd.out) (.tail _ (.tail _ HG.out)) (k := 3) (by omega) (by omega) 1 c0 (by omega) (by omega) (by omega) (by first | omega | (simp only [List.length_append, List.length_nil, bitsN_length]; have := targetBits_length t; omega))).mono ?_
  rintro e wb0 ⟨rfl, h3, b3⟩
  have HW1 := Lib.hid h3
  have HB1 := Lib.hid (HBd.out.trans b3)
  clear h3 b3 HWd HBd
  have p0 : wb0.cell? ⟨w.heap.size, 0, none⟩ = some (.pointer (some ⟨g, 0, none⟩)) := guest_cell HW1.out (.tail _ (.head _)) rfl
  have p1 : wb0.cell? ⟨w.heap.size, 1, none⟩ = some (.pointer none) := guest_cell HW1.out (.tail _ (.head _)) rfl
  go_wp2_with fail
  refine wp_region_still_tail 4 (by kernel_rfl) (by kernel_rfl) ?_
  simp only [List.take_succ_cons, List.take_zero, List.drop_succ_cons, List.drop_zero]
  change wpStill _ _ (World.drew wb0) (fun a' => wpList _ _ _ _ a' (World.drew wb0)) _ _
  have s0 : (World.drew wb0).cell? ⟨w.heap.size, 0, none⟩ = some (.pointer (some ⟨g, 0, none⟩)) := p0
  have s1 : (World.drew wb0).cell? ⟨w.heap.size, 1, none⟩ = some (.pointer none) := p1
  have HWd := Lib.hid (WrL.drew HW1.out)
  have HBd := Lib.hid (below_drew' HB1.out)
  clear p0 p1 HW1 HB1
  generalize World.drew wb0 = wa1 at s0 s1 HWd HBd ⊢
  repeat still_step
  refine wpStill_nil ?_
  clear s0 s1
  go_wp2_with fail
  refine (unsigned_w (j := 1) (show Wr _ _ _ _ _ _ from HWd.out) (.tail _ (.tail _ HG.out)) (k := 5) (by omega) (by omega) s c1 (by omega) (by omega) (by omega) (by first | omega | (simp only [List.length_append, List.length_nil, bitsN_length]; have := targetBits_length t; omega))).mono ?_
  rintro e wb1 ⟨rfl, h3, b3⟩
  have HW1 := Lib.hid h3
  have HB1 := Lib.hid (HBd.out.trans b3)
  clear h3 b3 HWd HBd
  have p0 : wb1.cell? ⟨w.heap.size, 0, none⟩ = some (.pointer (some ⟨g, 0, none⟩)) := guest_cell HW1.out (.tail _ (.head _)) rfl
  have p1 : wb1.cell? ⟨w.heap.size, 1, none⟩ = some (.pointer none) := guest_cell HW1.out (.tail _ (.head _)) rfl
  go_wp2_with fail
  refine wp_region_still_tail 4 (by kernel_rfl) (by kernel_rfl) ?_
  simp only [List.take_succ_cons, List.take_zero, List.drop_succ_cons, List.drop_zero]
  change wpStill _ _ (World.drew wb1) (fun a' => wpList _ _ _ _ a' (World.drew wb1)) _ _
  have s0 : (World.drew wb1).cell? ⟨w.heap.size, 0, none⟩ = some (.pointer (some ⟨g, 0, none⟩)) := p0
  have s1 : (World.drew wb1).cell? ⟨w.heap.size, 1, none⟩ = some (.pointer none) := p1
  have HWd := Lib.hid (WrL.drew HW1.out)
  have HBd := Lib.hid (below_drew' HB1.out)
  clear p0 p1 HW1 HB1
  generalize World.drew wb1 = wa2 at s0 s1 HWd HBd ⊢
  repeat still_step
  refine wpStill_nil ?_
  clear s0 s1
  go_wp2_with fail
  refine (target_w (show Wr _ _ _ _ _ _ from HWd.out) (.tail _ (.tail _ HG.out)) t c2 l2 u2 (by simp only [List.length_nil, List.length_append, bitsN_length]; omega)).mono ?_
  rintro e wb2 ⟨rfl, h3, b3⟩
  have HW1 := Lib.hid h3
  have HB1 := Lib.hid (HBd.out.trans b3)
  clear h3 b3 HWd HBd
  have p0 : wb2.cell? ⟨w.heap.size, 0, none⟩ = some (.pointer (some ⟨g, 0, none⟩)) := guest_cell HW1.out (.tail _ (.head _)) rfl
  have p1 : wb2.cell? ⟨w.heap.size, 1, none⟩ = some (.pointer none) := guest_cell HW1.out (.tail _ (.head _)) rfl
  go_wp2_with fail
  refine wp_region_still_tail 4 (by kernel_rfl) (by kernel_rfl) ?_
  simp only [List.take_succ_cons, List.take_zero, List.drop_succ_cons, List.drop_zero]
  change wpStill _ _ (World.drew wb2) (fun a' => wpList _ _ _ _ a' (World.drew wb2)) _ _
  have s0 : (World.drew wb2).cell? ⟨w.heap.size, 0, none⟩ = some (.pointer (some ⟨g, 0, none⟩)) := p0
  have s1 : (World.drew wb2).cell? ⟨w.heap.size, 1, none⟩ = some (.pointer none) := p1
  have HWd := Lib.hid (WrL.drew HW1.out)
  have HBd := Lib.hid (below_drew' HB1.out)
  clear p0 p1 HW1 HB1
  generalize World.drew wb2 = wa3 at s0 s1 HWd HBd ⊢
  repeat still_step
  refine wpStill_nil ?_
  clear s0 s1
  go_wp2_with fail
  refine (unsigned_w (j := 3) (show Wr _ _ _ _ _ _ from HWd.out) (.tail _ (.tail _ HG.out)) (k := 8) (by omega) (by omega) l c3 (by omega) (by omega) (by omega) (by first | omega | (simp only [List.length_append, List.length_nil, bitsN_length]; have := targetBits_length t; omega))).mono ?_
  rintro e wb3 ⟨rfl, h3, b3⟩
  have HW1 := Lib.hid h3
  have HB1 := Lib.hid (HBd.out.trans b3)
  clear h3 b3 HWd HBd
  have p0 : wb3.cell? ⟨w.heap.size, 0, none⟩ = some (.pointer (some ⟨g, 0, none⟩)) := guest_cell HW1.out (.tail _ (.head _)) rfl
  have p1 : wb3.cell? ⟨w.heap.size, 1, none⟩ = some (.pointer none) := guest_cell HW1.out (.tail _ (.head _)) rfl
  go_wp2_with fail
  refine wp_region_still_tail 4 (by kernel_rfl) (by kernel_rfl) ?_
  simp only [List.take_succ_cons, List.take_zero, List.drop_succ_cons, List.drop_zero]
  change wpStill _ _ (World.drew wb3) (fun a' => wpList _ _ _ _ a' (World.drew wb3)) _ _
  have s0 : (World.drew wb3).cell? ⟨w.heap.size, 0, none⟩ = some (.pointer (some ⟨g, 0, none⟩)) := p0
  have s1 : (World.drew wb3).cell? ⟨w.heap.size, 1, none⟩ = some (.pointer none) := p1
  have HWd := Lib.hid (WrL.drew HW1.out)
  have HBd := Lib.hid (below_drew' HB1.out)
  clear p0 p1 HW1 HB1
  generalize World.drew wb3 = wa4 at s0 s1 HWd HBd ⊢
  repeat still_step
  refine wpStill_nil ?_
  clear s0 s1
  go_wp2_with fail
  refine (unsigned_w (j := 4) (show Wr _ _ _ _ _ _ from HWd.out) (.tail _ (.tail _ HG.out)) (k := 8) (by omega) (by omega) q c4 (by omega) (by omega) (by omega) (by first | omega | (simp only [List.length_append, List.length_nil, bitsN_length]; have := targetBits_length t; omega))).mono ?_
  rintro e wb4 ⟨rfl, h3, b3⟩
  have HW1 := Lib.hid h3
  have HB1 := Lib.hid (HBd.out.trans b3)
  clear h3 b3 HWd HBd
  have p0 : wb4.cell? ⟨w.heap.size, 0, none⟩ = some (.pointer (some ⟨g, 0, none⟩)) := guest_cell HW1.out (.tail _ (.head _)) rfl
  have p1 : wb4.cell? ⟨w.heap.size, 1, none⟩ = some (.pointer none) := guest_cell HW1.out (.tail _ (.head _)) rfl
  have k0 : wb4.cell? ⟨gf, 0, none⟩ = some (.int .i64 1) := guest_cell HW1.out (.tail _ (.tail _ HG.out)) c0
  have hl := (HL.out wb4 (WrL.guest HW1.out (.head _))).1
  go_wp2_with fail
  refine (data_w_long (show Wr _ _ _ _ _ _ from HW1.out) (.tail _ (.tail _ HG.out)) x c5 l5 u5 y c6 l6 u6 d c11 hd (by first | omega | (simp only [List.length_append, List.length_nil, bitsN_length]; have := targetBits_length t; omega))).mono ?_
  rintro e wz ⟨rfl, h3, b3⟩
  have HWz := Lib.hid h3
  have HBz := Lib.hid (HB1.out.trans b3)
  clear h3 b3 p0 p1 k0 hl
  go_wp2_with fail
  go_ret
  have h9 : Wr B G _ g _ _ := WrL.drop (WrL.drop HWz.out)
  exact ⟨rfl, by unfold headBits; simpa only [List.nil_append, List.append_assoc, List.append_nil] using h9, HBz.out⟩

set_option maxRecDepth 100000 in
set_option maxHeartbeats 8000000 in
theorem frame_ack {B g gf : Nat} {G : List (Nat × Obj)} {w : World} {cs : Array Value} (h : Wr B G w g [] 0) (hG : (gf, .cells cs 23) ∈ G) (c0 : cs[0]? = some (.int .i64 2)) (s : Int) (c1 : cs[1]? = some (.int .i64 s)) (l1 : 0 ≤ s) (u1 : s ≤ 31) (t : Int) (c2 : cs[2]? = some (.int .i64 t)) (l2 : -1 ≤ t) (u2 : t ≤ 31) (l : Int) (c3 : cs[3]? = some (.int .i64 l)) (l3 : 0 ≤ l) (u3 : l ≤ 255) (q : Int) (c4 : cs[4]? = some (.int .i64 q)) (l4 : 0 ≤ q) (u4 : q ≤ 255) (x : Int) (c7 : cs[7]? = some (.int .i64 x)) (l7 : -32768 ≤ x) (u7 : x ≤ 32767) :
    Calls Try.prog 27 #[Pw g, .pointer (some ⟨gf, 0, none⟩)] w fun e w' => e = .returned (.bool true) ∧ Wr B G w' g (headBits 2 s t l q ++ (bitsN 16 (x % 18446744073709551616).toNat)) 0 ∧ Below B w w' := by
  have hlt := WrL.lt h
  have hB := h.1
  have hW0 : Wr B ((w.heap.size, Pb g) :: G) (w.alloc (Pb g)) g [] 0 := WrL.allocG h _ (pb_not8 g)
  have hB0 : Below B w (w.alloc (Pb g)) := Below.alloc (Below.refl B w) (by omega) _
  obtain ⟨m1, m2, m3, m4, o, r1, r2, r3, r4, mb, ms, mo, m8, look⟩ := kinds_map (w.alloc (Pb g))
  have es : (w.alloc (Pb g)).heap.size = w.heap.size + 1 := by simp
  have hW1 : Wr B ((w.heap.size + 1, o) :: (w.heap.size, Pb g) :: G) m4 g [] 0 := addG (WrL.below hW0 mb) (by rw [← es]; exact mo) (by omega) m8
  have hB1 : Below B w m4 := hB0.trans (mb.mono (by rw [es]; omega))
  rw [es] at r1 r2 r3 r4 look
  have HW1 := Lib.hid hW1
  have HB1 := Lib.hid hB1
  have HG := Lib.hid hG
  have HL := Lib.hid look
  have hmm := @run_makeMap Try.prog
  have p0 : m4.cell? ⟨w.heap.size, 0, none⟩ = some (.pointer (some ⟨g, 0, none⟩)) := guest_cell hW1 (.tail _ (.head _)) rfl
  have p1 : m4.cell? ⟨w.heap.size, 1, none⟩ = some (.pointer none) := guest_cell hW1 (.tail _ (.head _)) rfl
  clear hlt hG h hW0 hB0 mb ms mo m8 look es hW1 hB1
  go_enter Try.func27, Try.ntmps27
  go_wp2_with fail
  clear r1 r2 r3 r4 hmm
  refine wp_region_still_tail 4 (by kernel_rfl) (by kernel_rfl) ?_
  simp only [List.take_succ_cons, List.take_zero, List.drop_succ_cons, List.drop_zero]
  change wpStill _ _ (World.drew m4) (fun a' => wpList _ _ _ _ a' (World.drew m4)) _ _
  have s0 : (World.drew m4).cell? ⟨w.heap.size, 0, none⟩ = some (.pointer (some ⟨g, 0, none⟩)) := p0
  have s1 : (World.drew m4).cell? ⟨w.heap.size, 1, none⟩ = some (.pointer none) := p1
  have HWd := Lib.hid (WrL.drew HW1.out)
  have HBd := Lib.hid (below_drew' HB1.out)
  clear p0 p1 HW1 HB1
  generalize World.drew m4 = wa0 at s0 s1 HWd HBd ⊢
  repeat still_step
  refine wpStill_nil ?_
  clear s0 s1
  go_wp2_with fail
  refine (unsigned_w (j := 0) (show Wr _ _ _ _ _ _ from HWd.out) (.tail _ (.tail _ HG.out)) (k := 3) (by omega) (by omega) 2 c0 (by omega) (by omega) (by omega) (by first | omega | (simp only [List.length_append, List.length_nil, bitsN_length]; have := targetBits_length t; omega))).mono ?_
  rintro e wb0 ⟨rfl, h3, b3⟩
  have HW1 := Lib.hid h3
  have HB1 := Lib.hid (HBd.out.trans b3)
  clear h3 b3 HWd HBd
  have p0 : wb0.cell? ⟨w.heap.size, 0, none⟩ = some (.pointer (some ⟨g, 0, none⟩)) := guest_cell HW1.out (.tail _ (.head _)) rfl
  have p1 : wb0.cell? ⟨w.heap.size, 1, none⟩ = some (.pointer none) := guest_cell HW1.out (.tail _ (.head _)) rfl
  go_wp2_with fail
  refine wp_region_still_tail 4 (by kernel_rfl) (by kernel_rfl) ?_
  simp only [List.take_succ_cons, List.take_zero, List.drop_succ_cons, List.drop_zero]
  change wpStill _ _ (World.drew wb0) (fun a' => wpList _ _ _ _ a' (World.drew wb0)) _ _
  have s0 : (World.drew wb0).cell? ⟨w.heap.size, 0, none⟩ = some (.pointer (some ⟨g, 0, none⟩)) := p0
  have s1 : (World.drew wb0).cell? ⟨w.heap.size, 1, none⟩ = some (.pointer none) := p1
  have HWd := Lib.hid (WrL.drew HW1.out)
  have HBd := Lib.hid (below_drew' HB1.out)
  clear p0 p1 HW1 HB1
  generalize World.drew wb0 = wa1 at s0 s1 HWd HBd ⊢
  repeat still_step
  refine wpStill_nil ?_
  clear s0 s1
  go_wp2_with fail
  refine (unsigned_w (j := 1) (show Wr _ _ _ _ _ _ from HWd.out) (.tail _ (.tail _ HG.out)) (k := 5) (by omega) (by omega) s c1 (by omega) (by omega) (by omega) (by first | omega | (simp only [List.length_append, List.length_nil, bitsN_length]; have := targetBits_length t; omega))).mono ?_
  rintro e wb1 ⟨rfl, h3, b3⟩
  have HW1 := Lib.hid h3
  have HB1 := Lib.hid (HBd.out.trans b3)
  clear h3 b3 HWd HBd
  have p0 : wb1.cell? ⟨w.heap.size, 0, none⟩ = some (.pointer (some ⟨g, 0, none⟩)) := guest_cell HW1.out (.tail _ (.head _)) rfl
  have p1 : wb1.cell? ⟨w.heap.size, 1, none⟩ = some (.pointer none) := guest_cell HW1.out (.tail _ (.head _)) rfl
  go_wp2_with fail
  refine wp_region_still_tail 4 (by kernel_rfl) (by kernel_rfl) ?_
  simp only [List.take_succ_cons, List.take_zero, List.drop_succ_cons, List.drop_zero]
  change wpStill _ _ (World.drew wb1) (fun a' => wpList _ _ _ _ a' (World.drew wb1)) _ _
  have s0 : (World.drew wb1).cell? ⟨w.heap.size, 0, none⟩ = some (.pointer (some ⟨g, 0, none⟩)) := p0
  have s1 : (World.drew wb1).cell? ⟨w.heap.size, 1, none⟩ = some (.pointer none) := p1
  have HWd := Lib.hid (WrL.drew HW1.out)
  have HBd := Lib.hid (below_drew' HB1.out)
  clear p0 p1 HW1 HB1
  generalize World.drew wb1 = wa2 at s0 s1 HWd HBd ⊢
  repeat still_step
  refine wpStill_nil ?_
  clear s0 s1
  go_wp2_with fail
  refine (target_w (show Wr _ _ _ _ _ _ from HWd.out) (.tail _ (.tail _ HG.out)) t c2 l2 u2 (by simp only [List.length_nil, List.length_append, bitsN_length]; omega)).mono ?_
  rintro e wb2 ⟨rfl, h3, b3⟩
  have HW1 := Lib.hid h3
  have HB1 := Lib.hid (HBd.out.trans b3)
  clear h3 b3 HWd HBd
  have p0 : wb2.cell? ⟨w.heap.size, 0, none⟩ = some (.pointer (some ⟨g, 0, none⟩)) := guest_cell HW1.out (.tail _ (.head _)) rfl
  have p1 : wb2.cell? ⟨w.heap.size, 1, none⟩ = some (.pointer none) := guest_cell HW1.out (.tail _ (.head _)) rfl
  go_wp2_with fail
  refine wp_region_still_tail 4 (by kernel_rfl) (by kernel_rfl) ?_
  simp only [List.take_succ_cons, List.take_zero, List.drop_succ_cons, List.drop_zero]
  change wpStill _ _ (World.drew wb2) (fun a' => wpList _ _ _ _ a' (World.drew wb2)) _ _
  have s0 : (World.drew wb2).cell? ⟨w.heap.size, 0, none⟩ = some (.pointer (some ⟨g, 0, none⟩)) := p0
  have s1 : (World.drew wb2).cell? ⟨w.heap.size, 1, none⟩ = some (.pointer none) := p1
  have HWd := Lib.hid (WrL.drew HW1.out)
  have HBd := Lib.hid (below_drew' HB1.out)
  clear p0 p1 HW1 HB1
  generalize World.drew wb2 = wa3 at s0 s1 HWd HBd ⊢
  repeat still_step
  refine wpStill_nil ?_
  clear s0 s1
  go_wp2_with fail
  refine (unsigned_w (j := 3) (show Wr _ _ _ _ _ _ from HWd.out) (.tail _ (.tail _ HG.out)) (k := 8) (by omega) (by omega) l c3 (by omega) (by omega) (by omega) (by first | omega | (simp only [List.length_append, List.length_nil, bitsN_length]; have := targetBits_length t; omega))).mono ?_
  rintro e wb3 ⟨rfl, h3, b3⟩
  have HW1 := Lib.hid h3
  have HB1 := Lib.hid (HBd.out.trans b3)
  clear h3 b3 HWd HBd
  have p0 : wb3.cell? ⟨w.heap.size, 0, none⟩ = some (.pointer (some ⟨g, 0, none⟩)) := guest_cell HW1.out (.tail _ (.head _)) rfl
  have p1 : wb3.cell? ⟨w.heap.size, 1, none⟩ = some (.pointer none) := guest_cell HW1.out (.tail _ (.head _)) rfl
  go_wp2_with fail
  refine wp_region_still_tail 4 (by kernel_rfl) (by kernel_rfl) ?_
  simp only [List.take_succ_cons, List.take_zero, List.drop_succ_cons, List.drop_zero]
  change wpStill _ _ (World.drew wb3) (fun a' => wpList _ _ _ _ a' (World.drew wb3)) _ _
  have s0 : (World.drew wb3).cell? ⟨w.heap.size, 0, none⟩ = some (.pointer (some ⟨g, 0, none⟩)) := p0
  have s1 : (World.drew wb3).cell? ⟨w.heap.size, 1, none⟩ = some (.pointer none) := p1
  have HWd := Lib.hid (WrL.drew HW1.out)
  have HBd := Lib.hid (below_drew' HB1.out)
  clear p0 p1 HW1 HB1
  generalize World.drew wb3 = wa4 at s0 s1 HWd HBd ⊢
  repeat still_step
  refine wpStill_nil ?_
  clear s0 s1
  go_wp2_with fail
  refine (unsigned_w (j := 4) (show Wr _ _ _ _ _ _ from HWd.out) (.tail _ (.tail _ HG.out)) (k := 8) (by omega) (by omega) q c4 (by omega) (by omega) (by omega) (by first | omega | (simp only [List.length_append, List.length_nil, bitsN_length]; have := targetBits_length t; omega))).mono ?_
  rintro e wb4 ⟨rfl, h3, b3⟩
  have HW1 := Lib.hid h3
  have HB1 := Lib.hid (HBd.out.trans b3)
  clear h3 b3 HWd HBd
  have p0 : wb4.cell? ⟨w.heap.size, 0, none⟩ = some (.pointer (some ⟨g, 0, none⟩)) := guest_cell HW1.out (.tail _ (.head _)) rfl
  have p1 : wb4.cell? ⟨w.heap.size, 1, none⟩ = some (.pointer none) := guest_cell HW1.out (.tail _ (.head _)) rfl
  have k0 : wb4.cell? ⟨gf, 0, none⟩ = some (.int .i64 2) := guest_cell HW1.out (.tail _ (.tail _ HG.out)) c0
  have hl := (HL.out wb4 (WrL.guest HW1.out (.head _))).2.1
  go_wp2_with fail
  refine (ack_w (show Wr _ _ _ _ _ _ from HW1.out) (.tail _ (.tail _ HG.out)) x c7 l7 u7 (by first | omega | (simp only [List.length_append, List.length_nil, bitsN_length]; have := targetBits_length t; omega))).mono ?_
  rintro e wz ⟨rfl, h3, b3⟩
  have HWz := Lib.hid h3
  have HBz := Lib.hid (HB1.out.trans b3)
  clear h3 b3 p0 p1 k0 hl
  go_wp2_with fail
  go_ret
  have h9 : Wr B G _ g _ _ := WrL.drop (WrL.drop HWz.out)
  exact ⟨rfl, by unfold headBits; simpa only [List.nil_append, List.append_assoc, List.append_nil] using h9, HBz.out⟩

set_option maxRecDepth 100000 in
set_option maxHeartbeats 8000000 in
theorem frame_beacon {B g gf : Nat} {G : List (Nat × Obj)} {w : World} {cs : Array Value} (h : Wr B G w g [] 0) (hG : (gf, .cells cs 23) ∈ G) (c0 : cs[0]? = some (.int .i64 3)) (s : Int) (c1 : cs[1]? = some (.int .i64 s)) (l1 : 0 ≤ s) (u1 : s ≤ 31) (t : Int) (c2 : cs[2]? = some (.int .i64 t)) (l2 : -1 ≤ t) (u2 : t ≤ 31) (l : Int) (c3 : cs[3]? = some (.int .i64 l)) (l3 : 0 ≤ l) (u3 : l ≤ 255) (q : Int) (c4 : cs[4]? = some (.int .i64 q)) (l4 : 0 ≤ q) (u4 : q ≤ 255) (x : Int) (c8 : cs[8]? = some (.int .i64 x)) (l8 : 0 ≤ x) (u8 : x ≤ 109951162) (y : Int) (c9 : cs[9]? = some (.int .i64 y)) (l9 : 0 ≤ y) (u9 : y ≤ 65535) (z : Int) (c10 : cs[10]? = some (.int .i64 z)) (l10 : 0 ≤ z) (u10 : z ≤ 65535) (d : List UInt8) (c11 : cs[11]? = some (.string (Str d))) (hd : d.length ≤ 127) :
    Calls Try.prog 27 #[Pw g, .pointer (some ⟨gf, 0, none⟩)] w fun e w' => e = .returned (.bool true) ∧ Wr B G w' g (headBits 3 s t l q ++ (bitsN 27 x.toNat ++ bitsN 16 y.toNat ++ bitsN 16 z.toNat ++ textBits d)) 0 ∧ Below B w w' := by
  have hlt := WrL.lt h
  have hB := h.1
  have hW0 : Wr B ((w.heap.size, Pb g) :: G) (w.alloc (Pb g)) g [] 0 := WrL.allocG h _ (pb_not8 g)
  have hB0 : Below B w (w.alloc (Pb g)) := Below.alloc (Below.refl B w) (by omega) _
  obtain ⟨m1, m2, m3, m4, o, r1, r2, r3, r4, mb, ms, mo, m8, look⟩ := kinds_map (w.alloc (Pb g))
  have es : (w.alloc (Pb g)).heap.size = w.heap.size + 1 := by simp
  have hW1 : Wr B ((w.heap.size + 1, o) :: (w.heap.size, Pb g) :: G) m4 g [] 0 := addG (WrL.below hW0 mb) (by rw [← es]; exact mo) (by omega) m8
  have hB1 : Below B w m4 := hB0.trans (mb.mono (by rw [es]; omega))
  rw [es] at r1 r2 r3 r4 look
  have HW1 := Lib.hid hW1
  have HB1 := Lib.hid hB1
  have HG := Lib.hid hG
  have HL := Lib.hid look
  have hmm := @run_makeMap Try.prog
  have p0 : m4.cell? ⟨w.heap.size, 0, none⟩ = some (.pointer (some ⟨g, 0, none⟩)) := guest_cell hW1 (.tail _ (.head _)) rfl
  have p1 : m4.cell? ⟨w.heap.size, 1, none⟩ = some (.pointer none) := guest_cell hW1 (.tail _ (.head _)) rfl
  clear hlt hG h hW0 hB0 mb ms mo m8 look es hW1 hB1
  go_enter Try.func27, Try.ntmps27
  go_wp2_with fail
  clear r1 r2 r3 r4 hmm
  refine wp_region_still_tail 4 (by kernel_rfl) (by kernel_rfl) ?_
  simp only [List.take_succ_cons, List.take_zero, List.drop_succ_cons, List.drop_zero]
  change wpStill _ _ (World.drew m4) (fun a' => wpList _ _ _ _ a' (World.drew m4)) _ _
  have s0 : (World.drew m4).cell? ⟨w.heap.size, 0, none⟩ = some (.pointer (some ⟨g, 0, none⟩)) := p0
  have s1 : (World.drew m4).cell? ⟨w.heap.size, 1, none⟩ = some (.pointer none) := p1
  have HWd := Lib.hid (WrL.drew HW1.out)
  have HBd := Lib.hid (below_drew' HB1.out)
  clear p0 p1 HW1 HB1
  generalize World.drew m4 = wa0 at s0 s1 HWd HBd ⊢
  repeat still_step
  refine wpStill_nil ?_
  clear s0 s1
  go_wp2_with fail
  refine (unsigned_w (j := 0) (show Wr _ _ _ _ _ _ from HWd.out) (.tail _ (.tail _ HG.out)) (k := 3) (by omega) (by omega) 3 c0 (by omega) (by omega) (by omega) (by first | omega | (simp only [List.length_append, List.length_nil, bitsN_length]; have := targetBits_length t; omega))).mono ?_
  rintro e wb0 ⟨rfl, h3, b3⟩
  have HW1 := Lib.hid h3
  have HB1 := Lib.hid (HBd.out.trans b3)
  clear h3 b3 HWd HBd
  have p0 : wb0.cell? ⟨w.heap.size, 0, none⟩ = some (.pointer (some ⟨g, 0, none⟩)) := guest_cell HW1.out (.tail _ (.head _)) rfl
  have p1 : wb0.cell? ⟨w.heap.size, 1, none⟩ = some (.pointer none) := guest_cell HW1.out (.tail _ (.head _)) rfl
  go_wp2_with fail
  refine wp_region_still_tail 4 (by kernel_rfl) (by kernel_rfl) ?_
  simp only [List.take_succ_cons, List.take_zero, List.drop_succ_cons, List.drop_zero]
  change wpStill _ _ (World.drew wb0) (fun a' => wpList _ _ _ _ a' (World.drew wb0)) _ _
  have s0 : (World.drew wb0).cell? ⟨w.heap.size, 0, none⟩ = some (.pointer (some ⟨g, 0, none⟩)) := p0
  have s1 : (World.drew wb0).cell? ⟨w.heap.size, 1, none⟩ = some (.pointer none) := p1
  have HWd := Lib.hid (WrL.drew HW1.out)
  have HBd := Lib.hid (below_drew' HB1.out)
  clear p0 p1 HW1 HB1
  generalize World.drew wb0 = wa1 at s0 s1 HWd HBd ⊢
  repeat still_step
  refine wpStill_nil ?_
  clear s0 s1
  go_wp2_with fail
  refine (unsigned_w (j := 1) (show Wr _ _ _ _ _ _ from HWd.out) (.tail _ (.tail _ HG.out)) (k := 5) (by omega) (by omega) s c1 (by omega) (by omega) (by omega) (by first | omega | (simp only [List.length_append, List.length_nil, bitsN_length]; have := targetBits_length t; omega))).mono ?_
  rintro e wb1 ⟨rfl, h3, b3⟩
  have HW1 := Lib.hid h3
  have HB1 := Lib.hid (HBd.out.trans b3)
  clear h3 b3 HWd HBd
  have p0 : wb1.cell? ⟨w.heap.size, 0, none⟩ = some (.pointer (some ⟨g, 0, none⟩)) := guest_cell HW1.out (.tail _ (.head _)) rfl
  have p1 : wb1.cell? ⟨w.heap.size, 1, none⟩ = some (.pointer none) := guest_cell HW1.out (.tail _ (.head _)) rfl
  go_wp2_with fail
  refine wp_region_still_tail 4 (by kernel_rfl) (by kernel_rfl) ?_
  simp only [List.take_succ_cons, List.take_zero, List.drop_succ_cons, List.drop_zero]
  change wpStill _ _ (World.drew wb1) (fun a' => wpList _ _ _ _ a' (World.drew wb1)) _ _
  have s0 : (World.drew wb1).cell? ⟨w.heap.size, 0, none⟩ = some (.pointer (some ⟨g, 0, none⟩)) := p0
  have s1 : (World.drew wb1).cell? ⟨w.heap.size, 1, none⟩ = some (.pointer none) := p1
  have HWd := Lib.hid (WrL.drew HW1.out)
  have HBd := Lib.hid (below_drew' HB1.out)
  clear p0 p1 HW1 HB1
  generalize World.drew wb1 = wa2 at s0 s1 HWd HBd ⊢
  repeat still_step
  refine wpStill_nil ?_
  clear s0 s1
  go_wp2_with fail
  refine (target_w (show Wr _ _ _ _ _ _ from HWd.out) (.tail _ (.tail _ HG.out)) t c2 l2 u2 (by simp only [List.length_nil, List.length_append, bitsN_length]; omega)).mono ?_
  rintro e wb2 ⟨rfl, h3, b3⟩
  have HW1 := Lib.hid h3
  have HB1 := Lib.hid (HBd.out.trans b3)
  clear h3 b3 HWd HBd
  have p0 : wb2.cell? ⟨w.heap.size, 0, none⟩ = some (.pointer (some ⟨g, 0, none⟩)) := guest_cell HW1.out (.tail _ (.head _)) rfl
  have p1 : wb2.cell? ⟨w.heap.size, 1, none⟩ = some (.pointer none) := guest_cell HW1.out (.tail _ (.head _)) rfl
  go_wp2_with fail
  refine wp_region_still_tail 4 (by kernel_rfl) (by kernel_rfl) ?_
  simp only [List.take_succ_cons, List.take_zero, List.drop_succ_cons, List.drop_zero]
  change wpStill _ _ (World.drew wb2) (fun a' => wpList _ _ _ _ a' (World.drew wb2)) _ _
  have s0 : (World.drew wb2).cell? ⟨w.heap.size, 0, none⟩ = some (.pointer (some ⟨g, 0, none⟩)) := p0
  have s1 : (World.drew wb2).cell? ⟨w.heap.size, 1, none⟩ = some (.pointer none) := p1
  have HWd := Lib.hid (WrL.drew HW1.out)
  have HBd := Lib.hid (below_drew' HB1.out)
  clear p0 p1 HW1 HB1
  generalize World.drew wb2 = wa3 at s0 s1 HWd HBd ⊢
  repeat still_step
  refine wpStill_nil ?_
  clear s0 s1
  go_wp2_with fail
  refine (unsigned_w (j := 3) (show Wr _ _ _ _ _ _ from HWd.out) (.tail _ (.tail _ HG.out)) (k := 8) (by omega) (by omega) l c3 (by omega) (by omega) (by omega) (by first | omega | (simp only [List.length_append, List.length_nil, bitsN_length]; have := targetBits_length t; omega))).mono ?_
  rintro e wb3 ⟨rfl, h3, b3⟩
  have HW1 := Lib.hid h3
  have HB1 := Lib.hid (HBd.out.trans b3)
  clear h3 b3 HWd HBd
  have p0 : wb3.cell? ⟨w.heap.size, 0, none⟩ = some (.pointer (some ⟨g, 0, none⟩)) := guest_cell HW1.out (.tail _ (.head _)) rfl
  have p1 : wb3.cell? ⟨w.heap.size, 1, none⟩ = some (.pointer none) := guest_cell HW1.out (.tail _ (.head _)) rfl
  go_wp2_with fail
  refine wp_region_still_tail 4 (by kernel_rfl) (by kernel_rfl) ?_
  simp only [List.take_succ_cons, List.take_zero, List.drop_succ_cons, List.drop_zero]
  change wpStill _ _ (World.drew wb3) (fun a' => wpList _ _ _ _ a' (World.drew wb3)) _ _
  have s0 : (World.drew wb3).cell? ⟨w.heap.size, 0, none⟩ = some (.pointer (some ⟨g, 0, none⟩)) := p0
  have s1 : (World.drew wb3).cell? ⟨w.heap.size, 1, none⟩ = some (.pointer none) := p1
  have HWd := Lib.hid (WrL.drew HW1.out)
  have HBd := Lib.hid (below_drew' HB1.out)
  clear p0 p1 HW1 HB1
  generalize World.drew wb3 = wa4 at s0 s1 HWd HBd ⊢
  repeat still_step
  refine wpStill_nil ?_
  clear s0 s1
  go_wp2_with fail
  refine (unsigned_w (j := 4) (show Wr _ _ _ _ _ _ from HWd.out) (.tail _ (.tail _ HG.out)) (k := 8) (by omega) (by omega) q c4 (by omega) (by omega) (by omega) (by first | omega | (simp only [List.length_append, List.length_nil, bitsN_length]; have := targetBits_length t; omega))).mono ?_
  rintro e wb4 ⟨rfl, h3, b3⟩
  have HW1 := Lib.hid h3
  have HB1 := Lib.hid (HBd.out.trans b3)
  clear h3 b3 HWd HBd
  have p0 : wb4.cell? ⟨w.heap.size, 0, none⟩ = some (.pointer (some ⟨g, 0, none⟩)) := guest_cell HW1.out (.tail _ (.head _)) rfl
  have p1 : wb4.cell? ⟨w.heap.size, 1, none⟩ = some (.pointer none) := guest_cell HW1.out (.tail _ (.head _)) rfl
  have k0 : wb4.cell? ⟨gf, 0, none⟩ = some (.int .i64 3) := guest_cell HW1.out (.tail _ (.tail _ HG.out)) c0
  have hl := (HL.out wb4 (WrL.guest HW1.out (.head _))).2.2.1
  go_wp2_with fail
  refine (beacon_w (show Wr _ _ _ _ _ _ from HW1.out) (.tail _ (.tail _ HG.out)) x c8 l8 u8 y c9 l9 u9 z c10 l10 u10 d c11 hd (by first | omega | (simp only [List.length_append, List.length_nil, bitsN_length]; have := targetBits_length t; omega))).mono ?_
  rintro e wz ⟨rfl, h3, b3⟩
  have HWz := Lib.hid h3
  have HBz := Lib.hid (HB1.out.trans b3)
  clear h3 b3 p0 p1 k0 hl
  go_wp2_with fail
  go_ret
  have h9 : Wr B G _ g _ _ := WrL.drop (WrL.drop HWz.out)
  exact ⟨rfl, by unfold headBits; simpa only [List.nil_append, List.append_assoc, List.append_nil] using h9, HBz.out⟩

set_option maxRecDepth 100000 in
set_option maxHeartbeats 8000000 in
theorem frame_beacon_long {B g gf : Nat} {G : List (Nat × Obj)} {w : World} {cs : Array Value} (h : Wr B G w g [] 0) (hG : (gf, .cells cs 23) ∈ G) (c0 : cs[0]? = some (.int .i64 3)) (s : Int) (c1 : cs[1]? = some (.int .i64 s)) (l1 : 0 ≤ s) (u1 : s ≤ 31) (t : Int) (c2 : cs[2]? = some (.int .i64 t)) (l2 : -1 ≤ t) (u2 : t ≤ 31) (l : Int) (c3 : cs[3]? = some (.int .i64 l)) (l3 : 0 ≤ l) (u3 : l ≤ 255) (q : Int) (c4 : cs[4]? = some (.int .i64 q)) (l4 : 0 ≤ q) (u4 : q ≤ 255) (x : Int) (c8 : cs[8]? = some (.int .i64 x)) (l8 : 0 ≤ x) (u8 : x ≤ 109951162) (y : Int) (c9 : cs[9]? = some (.int .i64 y)) (l9 : 0 ≤ y) (u9 : y ≤ 65535) (z : Int) (c10 : cs[10]? = some (.int .i64 z)) (l10 : 0 ≤ z) (u10 : z ≤ 65535) (d : List UInt8) (c11 : cs[11]? = some (.string (Str d))) (hd : 127 < d.length) :
    Calls Try.prog 27 #[Pw g, .pointer (some ⟨gf, 0, none⟩)] w fun e w' => e = .returned (.bool true) ∧ Wr B G w' g (headBits 3 s t l q ++ (bitsN 27 x.toNat ++ bitsN 16 y.toNat ++ bitsN 16 z.toNat)) 8 ∧ Below B w w' := by
  have hlt := WrL.lt h
  have hB := h.1
  have hW0 : Wr B ((w.heap.size, Pb g) :: G) (w.alloc (Pb g)) g [] 0 := WrL.allocG h _ (pb_not8 g)
  have hB0 : Below B w (w.alloc (Pb g)) := Below.alloc (Below.refl B w) (by omega) _
  obtain ⟨m1, m2, m3, m4, o, r1, r2, r3, r4, mb, ms, mo, m8, look⟩ := kinds_map (w.alloc (Pb g))
  have es : (w.alloc (Pb g)).heap.size = w.heap.size + 1 := by simp
  have hW1 : Wr B ((w.heap.size + 1, o) :: (w.heap.size, Pb g) :: G) m4 g [] 0 := addG (WrL.below hW0 mb) (by rw [← es]; exact mo) (by omega) m8
  have hB1 : Below B w m4 := hB0.trans (mb.mono (by rw [es]; omega))
  rw [es] at r1 r2 r3 r4 look
  have HW1 := Lib.hid hW1
  have HB1 := Lib.hid hB1
  have HG := Lib.hid hG
  have HL := Lib.hid look
  have hmm := @run_makeMap Try.prog
  have p0 : m4.cell? ⟨w.heap.size, 0, none⟩ = some (.pointer (some ⟨g, 0, none⟩)) := guest_cell hW1 (.tail _ (.head _)) rfl
  have p1 : m4.cell? ⟨w.heap.size, 1, none⟩ = some (.pointer none) := guest_cell hW1 (.tail _ (.head _)) rfl
  clear hlt hG h hW0 hB0 mb ms mo m8 look es hW1 hB1
  go_enter Try.func27, Try.ntmps27
  go_wp2_with fail
  clear r1 r2 r3 r4 hmm
  refine wp_region_still_tail 4 (by kernel_rfl) (by kernel_rfl) ?_
  simp only [List.take_succ_cons, List.take_zero, List.drop_succ_cons, List.drop_zero]
  change wpStill _ _ (World.drew m4) (fun a' => wpList _ _ _ _ a' (World.drew m4)) _ _
  have s0 : (World.drew m4).cell? ⟨w.heap.size, 0, none⟩ = some (.pointer (some ⟨g, 0, none⟩)) := p0
  have s1 : (World.drew m4).cell? ⟨w.heap.size, 1, none⟩ = some (.pointer none) := p1
  have HWd := Lib.hid (WrL.drew HW1.out)
  have HBd := Lib.hid (below_drew' HB1.out)
  clear p0 p1 HW1 HB1
  generalize World.drew m4 = wa0 at s0 s1 HWd HBd ⊢
  repeat still_step
  refine wpStill_nil ?_
  clear s0 s1
  go_wp2_with fail
  refine (unsigned_w (j := 0) (show Wr _ _ _ _ _ _ from HWd.out) (.tail _ (.tail _ HG.out)) (k := 3) (by omega) (by omega) 3 c0 (by omega) (by omega) (by omega) (by first | omega | (simp only [List.length_append, List.length_nil, bitsN_length]; have := targetBits_length t; omega))).mono ?_
  rintro e wb0 ⟨rfl, h3, b3⟩
  have HW1 := Lib.hid h3
  have HB1 := Lib.hid (HBd.out.trans b3)
  clear h3 b3 HWd HBd
  have p0 : wb0.cell? ⟨w.heap.size, 0, none⟩ = some (.pointer (some ⟨g, 0, none⟩)) := guest_cell HW1.out (.tail _ (.head _)) rfl
  have p1 : wb0.cell? ⟨w.heap.size, 1, none⟩ = some (.pointer none) := guest_cell HW1.out (.tail _ (.head _)) rfl
  go_wp2_with fail
  refine wp_region_still_tail 4 (by kernel_rfl) (by kernel_rfl) ?_
  simp only [List.take_succ_cons, List.take_zero, List.drop_succ_cons, List.drop_zero]
  change wpStill _ _ (World.drew wb0) (fun a' => wpList _ _ _ _ a' (World.drew wb0)) _ _
  have s0 : (World.drew wb0).cell? ⟨w.heap.size, 0, none⟩ = some (.pointer (some ⟨g, 0, none⟩)) := p0
  have s1 : (World.drew wb0).cell? ⟨w.heap.size, 1, none⟩ = some (.pointer none) := p1
  have HWd := Lib.hid (WrL.drew HW1.out)
  have HBd := Lib.hid (below_drew' HB1.out)
  clear p0 p1 HW1 HB1
  generalize World.drew wb0 = wa1 at s0 s1 HWd HBd ⊢
  repeat still_step
  refine wpStill_nil ?_
  clear s0 s1
  go_wp2_with fail
  refine (unsigned_w (j := 1) (show Wr _ _ _ _ _ _ from HWd.out) (.tail _ (.tail _ HG.out)) (k := 5) (by omega) (by omega) s c1 (by omega) (by omega) (by omega) (by first | omega | (simp only [List.length_append, List.length_nil, bitsN_length]; have := targetBits_length t; omega))).mono ?_
  rintro e wb1 ⟨rfl, h3, b3⟩
  have HW1 := Lib.hid h3
  have HB1 := Lib.hid (HBd.out.trans b3)
  clear h3 b3 HWd HBd
  have p0 : wb1.cell? ⟨w.heap.size, 0, none⟩ = some (.pointer (some ⟨g, 0, none⟩)) := guest_cell HW1.out (.tail _ (.head _)) rfl
  have p1 : wb1.cell? ⟨w.heap.size, 1, none⟩ = some (.pointer none) := guest_cell HW1.out (.tail _ (.head _)) rfl
  go_wp2_with fail
  refine wp_region_still_tail 4 (by kernel_rfl) (by kernel_rfl) ?_
  simp only [List.take_succ_cons, List.take_zero, List.drop_succ_cons, List.drop_zero]
  change wpStill _ _ (World.drew wb1) (fun a' => wpList _ _ _ _ a' (World.drew wb1)) _ _
  have s0 : (World.drew wb1).cell? ⟨w.heap.size, 0, none⟩ = some (.pointer (some ⟨g, 0, none⟩)) := p0
  have s1 : (World.drew wb1).cell? ⟨w.heap.size, 1, none⟩ = some (.pointer none) := p1
  have HWd := Lib.hid (WrL.drew HW1.out)
  have HBd := Lib.hid (below_drew' HB1.out)
  clear p0 p1 HW1 HB1
  generalize World.drew wb1 = wa2 at s0 s1 HWd HBd ⊢
  repeat still_step
  refine wpStill_nil ?_
  clear s0 s1
  go_wp2_with fail
  refine (target_w (show Wr _ _ _ _ _ _ from HWd.out) (.tail _ (.tail _ HG.out)) t c2 l2 u2 (by simp only [List.length_nil, List.length_append, bitsN_length]; omega)).mono ?_
  rintro e wb2 ⟨rfl, h3, b3⟩
  have HW1 := Lib.hid h3
  have HB1 := Lib.hid (HBd.out.trans b3)
  clear h3 b3 HWd HBd
  have p0 : wb2.cell? ⟨w.heap.size, 0, none⟩ = some (.pointer (some ⟨g, 0, none⟩)) := guest_cell HW1.out (.tail _ (.head _)) rfl
  have p1 : wb2.cell? ⟨w.heap.size, 1, none⟩ = some (.pointer none) := guest_cell HW1.out (.tail _ (.head _)) rfl
  go_wp2_with fail
  refine wp_region_still_tail 4 (by kernel_rfl) (by kernel_rfl) ?_
  simp only [List.take_succ_cons, List.take_zero, List.drop_succ_cons, List.drop_zero]
  change wpStill _ _ (World.drew wb2) (fun a' => wpList _ _ _ _ a' (World.drew wb2)) _ _
  have s0 : (World.drew wb2).cell? ⟨w.heap.size, 0, none⟩ = some (.pointer (some ⟨g, 0, none⟩)) := p0
  have s1 : (World.drew wb2).cell? ⟨w.heap.size, 1, none⟩ = some (.pointer none) := p1
  have HWd := Lib.hid (WrL.drew HW1.out)
  have HBd := Lib.hid (below_drew' HB1.out)
  clear p0 p1 HW1 HB1
  generalize World.drew wb2 = wa3 at s0 s1 HWd HBd ⊢
  repeat still_step
  refine wpStill_nil ?_
  clear s0 s1
  go_wp2_with fail
  refine (unsigned_w (j := 3) (show Wr _ _ _ _ _ _ from HWd.out) (.tail _ (.tail _ HG.out)) (k := 8) (by omega) (by omega) l c3 (by omega) (by omega) (by omega) (by first | omega | (simp only [List.length_append, List.length_nil, bitsN_length]; have := targetBits_length t; omega))).mono ?_
  rintro e wb3 ⟨rfl, h3, b3⟩
  have HW1 := Lib.hid h3
  have HB1 := Lib.hid (HBd.out.trans b3)
  clear h3 b3 HWd HBd
  have p0 : wb3.cell? ⟨w.heap.size, 0, none⟩ = some (.pointer (some ⟨g, 0, none⟩)) := guest_cell HW1.out (.tail _ (.head _)) rfl
  have p1 : wb3.cell? ⟨w.heap.size, 1, none⟩ = some (.pointer none) := guest_cell HW1.out (.tail _ (.head _)) rfl
  go_wp2_with fail
  refine wp_region_still_tail 4 (by kernel_rfl) (by kernel_rfl) ?_
  simp only [List.take_succ_cons, List.take_zero, List.drop_succ_cons, List.drop_zero]
  change wpStill _ _ (World.drew wb3) (fun a' => wpList _ _ _ _ a' (World.drew wb3)) _ _
  have s0 : (World.drew wb3).cell? ⟨w.heap.size, 0, none⟩ = some (.pointer (some ⟨g, 0, none⟩)) := p0
  have s1 : (World.drew wb3).cell? ⟨w.heap.size, 1, none⟩ = some (.pointer none) := p1
  have HWd := Lib.hid (WrL.drew HW1.out)
  have HBd := Lib.hid (below_drew' HB1.out)
  clear p0 p1 HW1 HB1
  generalize World.drew wb3 = wa4 at s0 s1 HWd HBd ⊢
  repeat still_step
  refine wpStill_nil ?_
  clear s0 s1
  go_wp2_with fail
  refine (unsigned_w (j := 4) (show Wr _ _ _ _ _ _ from HWd.out) (.tail _ (.tail _ HG.out)) (k := 8) (by omega) (by omega) q c4 (by omega) (by omega) (by omega) (by first | omega | (simp only [List.length_append, List.length_nil, bitsN_length]; have := targetBits_length t; omega))).mono ?_
  rintro e wb4 ⟨rfl, h3, b3⟩
  have HW1 := Lib.hid h3
  have HB1 := Lib.hid (HBd.out.trans b3)
  clear h3 b3 HWd HBd
  have p0 : wb4.cell? ⟨w.heap.size, 0, none⟩ = some (.pointer (some ⟨g, 0, none⟩)) := guest_cell HW1.out (.tail _ (.head _)) rfl
  have p1 : wb4.cell? ⟨w.heap.size, 1, none⟩ = some (.pointer none) := guest_cell HW1.out (.tail _ (.head _)) rfl
  have k0 : wb4.cell? ⟨gf, 0, none⟩ = some (.int .i64 3) := guest_cell HW1.out (.tail _ (.tail _ HG.out)) c0
  have hl := (HL.out wb4 (WrL.guest HW1.out (.head _))).2.2.1
  go_wp2_with fail
  refine (beacon_w_long (show Wr _ _ _ _ _ _ from HW1.out) (.tail _ (.tail _ HG.out)) x c8 l8 u8 y c9 l9 u9 z c10 l10 u10 d c11 hd (by first | omega | (simp only [List.length_append, List.length_nil, bitsN_length]; have := targetBits_length t; omega))).mono ?_
  rintro e wz ⟨rfl, h3, b3⟩
  have HWz := Lib.hid h3
  have HBz := Lib.hid (HB1.out.trans b3)
  clear h3 b3 p0 p1 k0 hl
  go_wp2_with fail
  go_ret
  have h9 : Wr B G _ g _ _ := WrL.drop (WrL.drop HWz.out)
  exact ⟨rfl, by unfold headBits; simpa only [List.nil_append, List.append_assoc, List.append_nil] using h9, HBz.out⟩

set_option maxRecDepth 100000 in
set_option maxHeartbeats 8000000 in
theorem frame_message {B g gf : Nat} {G : List (Nat × Obj)} {w : World} {cs : Array Value} (h : Wr B G w g [] 0) (hG : (gf, .cells cs 23) ∈ G) (c0 : cs[0]? = some (.int .i64 4)) (s : Int) (c1 : cs[1]? = some (.int .i64 s)) (l1 : 0 ≤ s) (u1 : s ≤ 31) (t : Int) (c2 : cs[2]? = some (.int .i64 t)) (l2 : -1 ≤ t) (u2 : t ≤ 31) (l : Int) (c3 : cs[3]? = some (.int .i64 l)) (l3 : 0 ≤ l) (u3 : l ≤ 255) (q : Int) (c4 : cs[4]? = some (.int .i64 q)) (l4 : 0 ≤ q) (u4 : q ≤ 255) (d : List UInt8) (c11 : cs[11]? = some (.string (Str d))) (hd : d.length ≤ 127) :
    Calls Try.prog 27 #[Pw g, .pointer (some ⟨gf, 0, none⟩)] w fun e w' => e = .returned (.bool true) ∧ Wr B G w' g (headBits 4 s t l q ++ (textBits d)) 0 ∧ Below B w w' := by
  have hlt := WrL.lt h
  have hB := h.1
  have hW0 : Wr B ((w.heap.size, Pb g) :: G) (w.alloc (Pb g)) g [] 0 := WrL.allocG h _ (pb_not8 g)
  have hB0 : Below B w (w.alloc (Pb g)) := Below.alloc (Below.refl B w) (by omega) _
  obtain ⟨m1, m2, m3, m4, o, r1, r2, r3, r4, mb, ms, mo, m8, look⟩ := kinds_map (w.alloc (Pb g))
  have es : (w.alloc (Pb g)).heap.size = w.heap.size + 1 := by simp
  have hW1 : Wr B ((w.heap.size + 1, o) :: (w.heap.size, Pb g) :: G) m4 g [] 0 := addG (WrL.below hW0 mb) (by rw [← es]; exact mo) (by omega) m8
  have hB1 : Below B w m4 := hB0.trans (mb.mono (by rw [es]; omega))
  rw [es] at r1 r2 r3 r4 look
  have HW1 := Lib.hid hW1
  have HB1 := Lib.hid hB1
  have HG := Lib.hid hG
  have HL := Lib.hid look
  have hmm := @run_makeMap Try.prog
  have p0 : m4.cell? ⟨w.heap.size, 0, none⟩ = some (.pointer (some ⟨g, 0, none⟩)) := guest_cell hW1 (.tail _ (.head _)) rfl
  have p1 : m4.cell? ⟨w.heap.size, 1, none⟩ = some (.pointer none) := guest_cell hW1 (.tail _ (.head _)) rfl
  clear hlt hG h hW0 hB0 mb ms mo m8 look es hW1 hB1
  go_enter Try.func27, Try.ntmps27
  go_wp2_with fail
  clear r1 r2 r3 r4 hmm
  refine wp_region_still_tail 4 (by kernel_rfl) (by kernel_rfl) ?_
  simp only [List.take_succ_cons, List.take_zero, List.drop_succ_cons, List.drop_zero]
  change wpStill _ _ (World.drew m4) (fun a' => wpList _ _ _ _ a' (World.drew m4)) _ _
  have s0 : (World.drew m4).cell? ⟨w.heap.size, 0, none⟩ = some (.pointer (some ⟨g, 0, none⟩)) := p0
  have s1 : (World.drew m4).cell? ⟨w.heap.size, 1, none⟩ = some (.pointer none) := p1
  have HWd := Lib.hid (WrL.drew HW1.out)
  have HBd := Lib.hid (below_drew' HB1.out)
  clear p0 p1 HW1 HB1
  generalize World.drew m4 = wa0 at s0 s1 HWd HBd ⊢
  repeat still_step
  refine wpStill_nil ?_
  clear s0 s1
  go_wp2_with fail
  refine (unsigned_w (j := 0) (show Wr _ _ _ _ _ _ from HWd.out) (.tail _ (.tail _ HG.out)) (k := 3) (by omega) (by omega) 4 c0 (by omega) (by omega) (by omega) (by first | omega | (simp only [List.length_append, List.length_nil, bitsN_length]; have := targetBits_length t; omega))).mono ?_
  rintro e wb0 ⟨rfl, h3, b3⟩
  have HW1 := Lib.hid h3
  have HB1 := Lib.hid (HBd.out.trans b3)
  clear h3 b3 HWd HBd
  have p0 : wb0.cell? ⟨w.heap.size, 0, none⟩ = some (.pointer (some ⟨g, 0, none⟩)) := guest_cell HW1.out (.tail _ (.head _)) rfl
  have p1 : wb0.cell? ⟨w.heap.size, 1, none⟩ = some (.pointer none) := guest_cell HW1.out (.tail _ (.head _)) rfl
  go_wp2_with fail
  refine wp_region_still_tail 4 (by kernel_rfl) (by kernel_rfl) ?_
  simp only [List.take_succ_cons, List.take_zero, List.drop_succ_cons, List.drop_zero]
  change wpStill _ _ (World.drew wb0) (fun a' => wpList _ _ _ _ a' (World.drew wb0)) _ _
  have s0 : (World.drew wb0).cell? ⟨w.heap.size, 0, none⟩ = some (.pointer (some ⟨g, 0, none⟩)) := p0
  have s1 : (World.drew wb0).cell? ⟨w.heap.size, 1, none⟩ = some (.pointer none) := p1
  have HWd := Lib.hid (WrL.drew HW1.out)
  have HBd := Lib.hid (below_drew' HB1.out)
  clear p0 p1 HW1 HB1
  generalize World.drew wb0 = wa1 at s0 s1 HWd HBd ⊢
  repeat still_step
  refine wpStill_nil ?_
  clear s0 s1
  go_wp2_with fail
  refine (unsigned_w (j := 1) (show Wr _ _ _ _ _ _ from HWd.out) (.tail _ (.tail _ HG.out)) (k := 5) (by omega) (by omega) s c1 (by omega) (by omega) (by omega) (by first | omega | (simp only [List.length_append, List.length_nil, bitsN_length]; have := targetBits_length t; omega))).mono ?_
  rintro e wb1 ⟨rfl, h3, b3⟩
  have HW1 := Lib.hid h3
  have HB1 := Lib.hid (HBd.out.trans b3)
  clear h3 b3 HWd HBd
  have p0 : wb1.cell? ⟨w.heap.size, 0, none⟩ = some (.pointer (some ⟨g, 0, none⟩)) := guest_cell HW1.out (.tail _ (.head _)) rfl
  have p1 : wb1.cell? ⟨w.heap.size, 1, none⟩ = some (.pointer none) := guest_cell HW1.out (.tail _ (.head _)) rfl
  go_wp2_with fail
  refine wp_region_still_tail 4 (by kernel_rfl) (by kernel_rfl) ?_
  simp only [List.take_succ_cons, List.take_zero, List.drop_succ_cons, List.drop_zero]
  change wpStill _ _ (World.drew wb1) (fun a' => wpList _ _ _ _ a' (World.drew wb1)) _ _
  have s0 : (World.drew wb1).cell? ⟨w.heap.size, 0, none⟩ = some (.pointer (some ⟨g, 0, none⟩)) := p0
  have s1 : (World.drew wb1).cell? ⟨w.heap.size, 1, none⟩ = some (.pointer none) := p1
  have HWd := Lib.hid (WrL.drew HW1.out)
  have HBd := Lib.hid (below_drew' HB1.out)
  clear p0 p1 HW1 HB1
  generalize World.drew wb1 = wa2 at s0 s1 HWd HBd ⊢
  repeat still_step
  refine wpStill_nil ?_
  clear s0 s1
  go_wp2_with fail
  refine (target_w (show Wr _ _ _ _ _ _ from HWd.out) (.tail _ (.tail _ HG.out)) t c2 l2 u2 (by simp only [List.length_nil, List.length_append, bitsN_length]; omega)).mono ?_
  rintro e wb2 ⟨rfl, h3, b3⟩
  have HW1 := Lib.hid h3
  have HB1 := Lib.hid (HBd.out.trans b3)
  clear h3 b3 HWd HBd
  have p0 : wb2.cell? ⟨w.heap.size, 0, none⟩ = some (.pointer (some ⟨g, 0, none⟩)) := guest_cell HW1.out (.tail _ (.head _)) rfl
  have p1 : wb2.cell? ⟨w.heap.size, 1, none⟩ = some (.pointer none) := guest_cell HW1.out (.tail _ (.head _)) rfl
  go_wp2_with fail
  refine wp_region_still_tail 4 (by kernel_rfl) (by kernel_rfl) ?_
  simp only [List.take_succ_cons, List.take_zero, List.drop_succ_cons, List.drop_zero]
  change wpStill _ _ (World.drew wb2) (fun a' => wpList _ _ _ _ a' (World.drew wb2)) _ _
  have s0 : (World.drew wb2).cell? ⟨w.heap.size, 0, none⟩ = some (.pointer (some ⟨g, 0, none⟩)) := p0
  have s1 : (World.drew wb2).cell? ⟨w.heap.size, 1, none⟩ = some (.pointer none) := p1
  have HWd := Lib.hid (WrL.drew HW1.out)
  have HBd := Lib.hid (below_drew' HB1.out)
  clear p0 p1 HW1 HB1
  generalize World.drew wb2 = wa3 at s0 s1 HWd HBd ⊢
  repeat still_step
  refine wpStill_nil ?_
  clear s0 s1
  go_wp2_with fail
  refine (unsigned_w (j := 3) (show Wr _ _ _ _ _ _ from HWd.out) (.tail _ (.tail _ HG.out)) (k := 8) (by omega) (by omega) l c3 (by omega) (by omega) (by omega) (by first | omega | (simp only [List.length_append, List.length_nil, bitsN_length]; have := targetBits_length t; omega))).mono ?_
  rintro e wb3 ⟨rfl, h3, b3⟩
  have HW1 := Lib.hid h3
  have HB1 := Lib.hid (HBd.out.trans b3)
  clear h3 b3 HWd HBd
  have p0 : wb3.cell? ⟨w.heap.size, 0, none⟩ = some (.pointer (some ⟨g, 0, none⟩)) := guest_cell HW1.out (.tail _ (.head _)) rfl
  have p1 : wb3.cell? ⟨w.heap.size, 1, none⟩ = some (.pointer none) := guest_cell HW1.out (.tail _ (.head _)) rfl
  go_wp2_with fail
  refine wp_region_still_tail 4 (by kernel_rfl) (by kernel_rfl) ?_
  simp only [List.take_succ_cons, List.take_zero, List.drop_succ_cons, List.drop_zero]
  change wpStill _ _ (World.drew wb3) (fun a' => wpList _ _ _ _ a' (World.drew wb3)) _ _
  have s0 : (World.drew wb3).cell? ⟨w.heap.size, 0, none⟩ = some (.pointer (some ⟨g, 0, none⟩)) := p0
  have s1 : (World.drew wb3).cell? ⟨w.heap.size, 1, none⟩ = some (.pointer none) := p1
  have HWd := Lib.hid (WrL.drew HW1.out)
  have HBd := Lib.hid (below_drew' HB1.out)
  clear p0 p1 HW1 HB1
  generalize World.drew wb3 = wa4 at s0 s1 HWd HBd ⊢
  repeat still_step
  refine wpStill_nil ?_
  clear s0 s1
  go_wp2_with fail
  refine (unsigned_w (j := 4) (show Wr _ _ _ _ _ _ from HWd.out) (.tail _ (.tail _ HG.out)) (k := 8) (by omega) (by omega) q c4 (by omega) (by omega) (by omega) (by first | omega | (simp only [List.length_append, List.length_nil, bitsN_length]; have := targetBits_length t; omega))).mono ?_
  rintro e wb4 ⟨rfl, h3, b3⟩
  have HW1 := Lib.hid h3
  have HB1 := Lib.hid (HBd.out.trans b3)
  clear h3 b3 HWd HBd
  have p0 : wb4.cell? ⟨w.heap.size, 0, none⟩ = some (.pointer (some ⟨g, 0, none⟩)) := guest_cell HW1.out (.tail _ (.head _)) rfl
  have p1 : wb4.cell? ⟨w.heap.size, 1, none⟩ = some (.pointer none) := guest_cell HW1.out (.tail _ (.head _)) rfl
  have k0 : wb4.cell? ⟨gf, 0, none⟩ = some (.int .i64 4) := guest_cell HW1.out (.tail _ (.tail _ HG.out)) c0
  have hl := (HL.out wb4 (WrL.guest HW1.out (.head _))).2.2.2.1
  go_wp2_with fail
  refine (message_w (show Wr _ _ _ _ _ _ from HW1.out) (.tail _ (.tail _ HG.out)) d c11 hd (by first | omega | (simp only [List.length_append, List.length_nil, bitsN_length]; have := targetBits_length t; omega))).mono ?_
  rintro e wz ⟨rfl, h3, b3⟩
  have HWz := Lib.hid h3
  have HBz := Lib.hid (HB1.out.trans b3)
  clear h3 b3 p0 p1 k0 hl
  go_wp2_with fail
  go_ret
  have h9 : Wr B G _ g _ _ := WrL.drop (WrL.drop HWz.out)
  exact ⟨rfl, by unfold headBits; simpa only [List.nil_append, List.append_assoc, List.append_nil] using h9, HBz.out⟩

set_option maxRecDepth 100000 in
set_option maxHeartbeats 8000000 in
theorem frame_message_long {B g gf : Nat} {G : List (Nat × Obj)} {w : World} {cs : Array Value} (h : Wr B G w g [] 0) (hG : (gf, .cells cs 23) ∈ G) (c0 : cs[0]? = some (.int .i64 4)) (s : Int) (c1 : cs[1]? = some (.int .i64 s)) (l1 : 0 ≤ s) (u1 : s ≤ 31) (t : Int) (c2 : cs[2]? = some (.int .i64 t)) (l2 : -1 ≤ t) (u2 : t ≤ 31) (l : Int) (c3 : cs[3]? = some (.int .i64 l)) (l3 : 0 ≤ l) (u3 : l ≤ 255) (q : Int) (c4 : cs[4]? = some (.int .i64 q)) (l4 : 0 ≤ q) (u4 : q ≤ 255) (d : List UInt8) (c11 : cs[11]? = some (.string (Str d))) (hd : 127 < d.length) :
    Calls Try.prog 27 #[Pw g, .pointer (some ⟨gf, 0, none⟩)] w fun e w' => e = .returned (.bool true) ∧ Wr B G w' g (headBits 4 s t l q ++ ([])) 8 ∧ Below B w w' := by
  have hlt := WrL.lt h
  have hB := h.1
  have hW0 : Wr B ((w.heap.size, Pb g) :: G) (w.alloc (Pb g)) g [] 0 := WrL.allocG h _ (pb_not8 g)
  have hB0 : Below B w (w.alloc (Pb g)) := Below.alloc (Below.refl B w) (by omega) _
  obtain ⟨m1, m2, m3, m4, o, r1, r2, r3, r4, mb, ms, mo, m8, look⟩ := kinds_map (w.alloc (Pb g))
  have es : (w.alloc (Pb g)).heap.size = w.heap.size + 1 := by simp
  have hW1 : Wr B ((w.heap.size + 1, o) :: (w.heap.size, Pb g) :: G) m4 g [] 0 := addG (WrL.below hW0 mb) (by rw [← es]; exact mo) (by omega) m8
  have hB1 : Below B w m4 := hB0.trans (mb.mono (by rw [es]; omega))
  rw [es] at r1 r2 r3 r4 look
  have HW1 := Lib.hid hW1
  have HB1 := Lib.hid hB1
  have HG := Lib.hid hG
  have HL := Lib.hid look
  have hmm := @run_makeMap Try.prog
  have p0 : m4.cell? ⟨w.heap.size, 0, none⟩ = some (.pointer (some ⟨g, 0, none⟩)) := guest_cell hW1 (.tail _ (.head _)) rfl
  have p1 : m4.cell? ⟨w.heap.size, 1, none⟩ = some (.pointer none) := guest_cell hW1 (.tail _ (.head _)) rfl
  clear hlt hG h hW0 hB0 mb ms mo m8 look es hW1 hB1
  go_enter Try.func27, Try.ntmps27
  go_wp2_with fail
  clear r1 r2 r3 r4 hmm
  refine wp_region_still_tail 4 (by kernel_rfl) (by kernel_rfl) ?_
  simp only [List.take_succ_cons, List.take_zero, List.drop_succ_cons, List.drop_zero]
  change wpStill _ _ (World.drew m4) (fun a' => wpList _ _ _ _ a' (World.drew m4)) _ _
  have s0 : (World.drew m4).cell? ⟨w.heap.size, 0, none⟩ = some (.pointer (some ⟨g, 0, none⟩)) := p0
  have s1 : (World.drew m4).cell? ⟨w.heap.size, 1, none⟩ = some (.pointer none) := p1
  have HWd := Lib.hid (WrL.drew HW1.out)
  have HBd := Lib.hid (below_drew' HB1.out)
  clear p0 p1 HW1 HB1
  generalize World.drew m4 = wa0 at s0 s1 HWd HBd ⊢
  repeat still_step
  refine wpStill_nil ?_
  clear s0 s1
  go_wp2_with fail
  refine (unsigned_w (j := 0) (show Wr _ _ _ _ _ _ from HWd.out) (.tail _ (.tail _ HG.out)) (k := 3) (by omega) (by omega) 4 c0 (by omega) (by omega) (by omega) (by first | omega | (simp only [List.length_append, List.length_nil, bitsN_length]; have := targetBits_length t; omega))).mono ?_
  rintro e wb0 ⟨rfl, h3, b3⟩
  have HW1 := Lib.hid h3
  have HB1 := Lib.hid (HBd.out.trans b3)
  clear h3 b3 HWd HBd
  have p0 : wb0.cell? ⟨w.heap.size, 0, none⟩ = some (.pointer (some ⟨g, 0, none⟩)) := guest_cell HW1.out (.tail _ (.head _)) rfl
  have p1 : wb0.cell? ⟨w.heap.size, 1, none⟩ = some (.pointer none) := guest_cell HW1.out (.tail _ (.head _)) rfl
  go_wp2_with fail
  refine wp_region_still_tail 4 (by kernel_rfl) (by kernel_rfl) ?_
  simp only [List.take_succ_cons, List.take_zero, List.drop_succ_cons, List.drop_zero]
  change wpStill _ _ (World.drew wb0) (fun a' => wpList _ _ _ _ a' (World.drew wb0)) _ _
  have s0 : (World.drew wb0).cell? ⟨w.heap.size, 0, none⟩ = some (.pointer (some ⟨g, 0, none⟩)) := p0
  have s1 : (World.drew wb0).cell? ⟨w.heap.size, 1, none⟩ = some (.pointer none) := p1
  have HWd := Lib.hid (WrL.drew HW1.out)
  have HBd := Lib.hid (below_drew' HB1.out)
  clear p0 p1 HW1 HB1
  generalize World.drew wb0 = wa1 at s0 s1 HWd HBd ⊢
  repeat still_step
  refine wpStill_nil ?_
  clear s0 s1
  go_wp2_with fail
  refine (unsigned_w (j := 1) (show Wr _ _ _ _ _ _ from HWd.out) (.tail _ (.tail _ HG.out)) (k := 5) (by omega) (by omega) s c1 (by omega) (by omega) (by omega) (by first | omega | (simp only [List.length_append, List.length_nil, bitsN_length]; have := targetBits_length t; omega))).mono ?_
  rintro e wb1 ⟨rfl, h3, b3⟩
  have HW1 := Lib.hid h3
  have HB1 := Lib.hid (HBd.out.trans b3)
  clear h3 b3 HWd HBd
  have p0 : wb1.cell? ⟨w.heap.size, 0, none⟩ = some (.pointer (some ⟨g, 0, none⟩)) := guest_cell HW1.out (.tail _ (.head _)) rfl
  have p1 : wb1.cell? ⟨w.heap.size, 1, none⟩ = some (.pointer none) := guest_cell HW1.out (.tail _ (.head _)) rfl
  go_wp2_with fail
  refine wp_region_still_tail 4 (by kernel_rfl) (by kernel_rfl) ?_
  simp only [List.take_succ_cons, List.take_zero, List.drop_succ_cons, List.drop_zero]
  change wpStill _ _ (World.drew wb1) (fun a' => wpList _ _ _ _ a' (World.drew wb1)) _ _
  have s0 : (World.drew wb1).cell? ⟨w.heap.size, 0, none⟩ = some (.pointer (some ⟨g, 0, none⟩)) := p0
  have s1 : (World.drew wb1).cell? ⟨w.heap.size, 1, none⟩ = some (.pointer none) := p1
  have HWd := Lib.hid (WrL.drew HW1.out)
  have HBd := Lib.hid (below_drew' HB1.out)
  clear p0 p1 HW1 HB1
  generalize World.drew wb1 = wa2 at s0 s1 HWd HBd ⊢
  repeat still_step
  refine wpStill_nil ?_
  clear s0 s1
  go_wp2_with fail
  refine (target_w (show Wr _ _ _ _ _ _ from HWd.out) (.tail _ (.tail _ HG.out)) t c2 l2 u2 (by simp only [List.length_nil, List.length_append, bitsN_length]; omega)).mono ?_
  rintro e wb2 ⟨rfl, h3, b3⟩
  have HW1 := Lib.hid h3
  have HB1 := Lib.hid (HBd.out.trans b3)
  clear h3 b3 HWd HBd
  have p0 : wb2.cell? ⟨w.heap.size, 0, none⟩ = some (.pointer (some ⟨g, 0, none⟩)) := guest_cell HW1.out (.tail _ (.head _)) rfl
  have p1 : wb2.cell? ⟨w.heap.size, 1, none⟩ = some (.pointer none) := guest_cell HW1.out (.tail _ (.head _)) rfl
  go_wp2_with fail
  refine wp_region_still_tail 4 (by kernel_rfl) (by kernel_rfl) ?_
  simp only [List.take_succ_cons, List.take_zero, List.drop_succ_cons, List.drop_zero]
  change wpStill _ _ (World.drew wb2) (fun a' => wpList _ _ _ _ a' (World.drew wb2)) _ _
  have s0 : (World.drew wb2).cell? ⟨w.heap.size, 0, none⟩ = some (.pointer (some ⟨g, 0, none⟩)) := p0
  have s1 : (World.drew wb2).cell? ⟨w.heap.size, 1, none⟩ = some (.pointer none) := p1
  have HWd := Lib.hid (WrL.drew HW1.out)
  have HBd := Lib.hid (below_drew' HB1.out)
  clear p0 p1 HW1 HB1
  generalize World.drew wb2 = wa3 at s0 s1 HWd HBd ⊢
  repeat still_step
  refine wpStill_nil ?_
  clear s0 s1
  go_wp2_with fail
  refine (unsigned_w (j := 3) (show Wr _ _ _ _ _ _ from HWd.out) (.tail _ (.tail _ HG.out)) (k := 8) (by omega) (by omega) l c3 (by omega) (by omega) (by omega) (by first | omega | (simp only [List.length_append, List.length_nil, bitsN_length]; have := targetBits_length t; omega))).mono ?_
  rintro e wb3 ⟨rfl, h3, b3⟩
  have HW1 := Lib.hid h3
  have HB1 := Lib.hid (HBd.out.trans b3)
  clear h3 b3 HWd HBd
  have p0 : wb3.cell? ⟨w.heap.size, 0, none⟩ = some (.pointer (some ⟨g, 0, none⟩)) := guest_cell HW1.out (.tail _ (.head _)) rfl
  have p1 : wb3.cell? ⟨w.heap.size, 1, none⟩ = some (.pointer none) := guest_cell HW1.out (.tail _ (.head _)) rfl
  go_wp2_with fail
  refine wp_region_still_tail 4 (by kernel_rfl) (by kernel_rfl) ?_
  simp only [List.take_succ_cons, List.take_zero, List.drop_succ_cons, List.drop_zero]
  change wpStill _ _ (World.drew wb3) (fun a' => wpList _ _ _ _ a' (World.drew wb3)) _ _
  have s0 : (World.drew wb3).cell? ⟨w.heap.size, 0, none⟩ = some (.pointer (some ⟨g, 0, none⟩)) := p0
  have s1 : (World.drew wb3).cell? ⟨w.heap.size, 1, none⟩ = some (.pointer none) := p1
  have HWd := Lib.hid (WrL.drew HW1.out)
  have HBd := Lib.hid (below_drew' HB1.out)
  clear p0 p1 HW1 HB1
  generalize World.drew wb3 = wa4 at s0 s1 HWd HBd ⊢
  repeat still_step
  refine wpStill_nil ?_
  clear s0 s1
  go_wp2_with fail
  refine (unsigned_w (j := 4) (show Wr _ _ _ _ _ _ from HWd.out) (.tail _ (.tail _ HG.out)) (k := 8) (by omega) (by omega) q c4 (by omega) (by omega) (by omega) (by first | omega | (simp only [List.length_append, List.length_nil, bitsN_length]; have := targetBits_length t; omega))).mono ?_
  rintro e wb4 ⟨rfl, h3, b3⟩
  have HW1 := Lib.hid h3
  have HB1 := Lib.hid (HBd.out.trans b3)
  clear h3 b3 HWd HBd
  have p0 : wb4.cell? ⟨w.heap.size, 0, none⟩ = some (.pointer (some ⟨g, 0, none⟩)) := guest_cell HW1.out (.tail _ (.head _)) rfl
  have p1 : wb4.cell? ⟨w.heap.size, 1, none⟩ = some (.pointer none) := guest_cell HW1.out (.tail _ (.head _)) rfl
  have k0 : wb4.cell? ⟨gf, 0, none⟩ = some (.int .i64 4) := guest_cell HW1.out (.tail _ (.tail _ HG.out)) c0
  have hl := (HL.out wb4 (WrL.guest HW1.out (.head _))).2.2.2.1
  go_wp2_with fail
  refine (message_w_long (show Wr _ _ _ _ _ _ from HW1.out) (.tail _ (.tail _ HG.out)) d c11 hd (by first | omega | (simp only [List.length_append, List.length_nil, bitsN_length]; have := targetBits_length t; omega))).mono ?_
  rintro e wz ⟨rfl, h3, b3⟩
  have HWz := Lib.hid h3
  have HBz := Lib.hid (HB1.out.trans b3)
  clear h3 b3 p0 p1 k0 hl
  go_wp2_with fail
  go_ret
  have h9 : Wr B G _ g _ _ := WrL.drop (WrL.drop HWz.out)
  exact ⟨rfl, by unfold headBits; simpa only [List.nil_append, List.append_assoc, List.append_nil] using h9, HBz.out⟩

end Go.Proofs.Ytbgnkjaikbhdoaa.PenFr

-- FrE
namespace Go.Proofs.Ytbgnkjaikbhdoaa.FrE
open Go.RowKit Go.Proofs.Ytbgnkjaikbhdoaa.Pack Go.Proofs.Ytbgnkjaikbhdoaa.Wr Go.Proofs.Ytbgnkjaikbhdoaa.WrPut Go.Proofs.Ytbgnkjaikbhdoaa.WrAll Go.Proofs.Ytbgnkjaikbhdoaa.WrText Go.Proofs.Ytbgnkjaikbhdoaa.PenW Go.Proofs.Ytbgnkjaikbhdoaa.PenF Go.Proofs.Ytbgnkjaikbhdoaa.PenFr Go.Proofs.Ytbgnkjaikbhdoaa.FrA Go.Proofs.Ytbgnkjaikbhdoaa.FrCrc Go.Proofs.Ytbgnkjaikbhdoaa.Alg
open Go.Proofs.Ytbgnkjaikbhdoaa.Bytes (Str)

/-- frame.Check returns c. -/
abbrev Chk (cs : Array Value) (c : Int) : Prop := ∀ w : World, Calls Try.prog 17 #[.agg cs] w fun e w' => e = .returned (.int .i64 c) ∧ Below w.heap.size w w'
/-- frame.pen.frame writes these bits. -/
abbrev Writes (cs : Array Value) (bits : List Bool) (err : Int) : Prop := ∀ (B g gf : Nat) (G : List (Nat × Obj)) (w : World), Wr B G w g [] 0 → (gf, .cells cs TF) ∈ G →
  Calls Try.prog 27 #[Pw g, .pointer (some ⟨gf, 0, none⟩)] w fun e w' => e = .returned (.bool true) ∧ Wr B G w' g bits err ∧ Below B w w'

theorem fr_not8 (cs : Array Value) : ¬ T8 (.cells cs TF) :=
  not8 (by decide)

set_option maxRecDepth 100000 in
set_option maxHeartbeats 4000000 in
theorem enc_bad (k s t l q x y er sl rk ep : Int) (d : List UInt8) (hc : Chk (fr k s t l q x y er sl rk ep d) 1) (w : World) :
    Calls Try.prog 11 #[.agg (fr k s t l q x y er sl rk ep d)] w fun e w' => e = .returned (.tuple #[.string (Str []), .int .i64 1]) ∧ Below w.heap.size w w' := by
  have hb0 : Below w.heap.size w (w.alloc (.cells (fr k s t l q x y er sl rk ep d) TF)) := (Below.refl _ _).alloc (Nat.le_refl _) _
  go_enter Try.func11, Try.ntmps11
  go_wp2_with fail
  refine (hc _).mono ?_
  rintro e w1 ⟨rfl, hb⟩
  have hb' := hb0.trans (hb.mono (by simp))
  clear hb hb0
  go_wp2_with fail
  go_ret2
  exact ⟨rfl, hb'⟩

theorem start (k s t l q x y er sl rk ep : Int) (d : List UInt8) (w w1 w2 : World) (hb : Below (w.alloc (.cells (fr k s t l q x y er sl rk ep d) TF)).heap.size (w.alloc (.cells (fr k s t l q x y er sl rk ep d) TF)) w1)
    (h2 : Wr w.heap.size [] w2 w1.heap.size [] 0) (b2 : Below w1.heap.size w1 w2) :
    Wr w.heap.size [(w.heap.size, .cells (fr k s t l q x y er sl rk ep d) TF)] w2 w1.heap.size [] 0 ∧ Below w.heap.size w w2 := by
  have hs := hb.size
  rw [show (w.alloc (.cells (fr k s t l q x y er sl rk ep d) TF)).heap.size = w.heap.size + 1 by simp] at hs
  have e1 : w1.heap[w.heap.size]? = some (.cells (fr k s t l q x y er sl rk ep d) TF) := by
    rw [hb.block _ (by simp)]; exact heap_alloc_new _ _
  have e2 : w2.heap[w.heap.size]? = some (.cells (fr k s t l q x y er sl rk ep d) TF) := by
    rw [b2.block _ (by omega)]; exact e1
  refine ⟨addG h2 e2 (by omega) (fr_not8 _), ?_⟩
  have hb0 : Below w.heap.size w (w.alloc (.cells (fr k s t l q x y er sl rk ep d) TF)) := (Below.refl _ _).alloc (Nat.le_refl _) _
  exact (hb0.trans (hb.mono (by simp))).trans (b2.mono (by omega))

set_option maxRecDepth 100000 in
set_option maxHeartbeats 4000000 in
theorem enc_long (k s t l q x y er sl rk ep : Int) (d : List UInt8) (hc : Chk (fr k s t l q x y er sl rk ep d) 0) (bits : List Bool) (hp : Writes (fr k s t l q x y er sl rk ep d) bits 8) (w : World) :
    Calls Try.prog 11 #[.agg (fr k s t l q x y er sl rk ep d)] w fun e w' => e = .returned (.tuple #[.string (Str []), .int .i64 8]) ∧ Below w.heap.size w w' := by
  go_enter Try.func11, Try.ntmps11
  go_wp2_with fail
  refine (hc _).mono ?_
  rintro e w1 ⟨rfl, hb⟩
  have HB := Lib.hid hb
  have hsz := hb.size
  rw [show (w.alloc (.cells (fr k s t l q x y er sl rk ep d) TF)).heap.size = w.heap.size + 1 by simp] at hsz
  clear hb
  go_wp2_with fail
  refine (new_any (B := w.heap.size) w1 (by omega)).mono ?_
  rintro e w2 ⟨rfl, h2, b2⟩
  have HS := Lib.hid (start _ _ _ _ _ _ _ _ _ _ _ _ _ _ _ HB.out h2 b2)
  clear h2 b2 HB hsz
  go_wp2_with fail
  refine (hp _ _ _ _ _ HS.out.1 (.head _)).mono ?_
  rintro e w3 ⟨rfl, h3, b3⟩
  have HS3 := Lib.hid (And.intro h3 (HS.out.2.trans b3))
  clear h3 b3 HS
  go_wp2_with fail
  refine (bytes_err HS3.out.1).mono ?_
  rintro e w4 ⟨rfl, n4, rfl⟩
  go_wp2_with fail
  go_ret2
  exact ⟨rfl, HS3.out.2.trans (Below.drewN' _ _ _)⟩

set_option maxRecDepth 100000 in
set_option maxHeartbeats 4000000 in
theorem enc_big (k s t l q x y er sl rk ep : Int) (d : List UInt8) (hc : Chk (fr k s t l q x y er sl rk ep d) 0) (bits : List Bool) (hp : Writes (fr k s t l q x y er sl rk ep d) bits 0) (p : List UInt8) (hpk : pack bits = p) (h1 : 125 < p.length) (h2 : p.length ≤ 1000) (w : World) :
    Calls Try.prog 11 #[.agg (fr k s t l q x y er sl rk ep d)] w fun e w' => e = .returned (.tuple #[.string (Str []), .int .i64 8]) ∧ Below w.heap.size w w' := by
  go_enter Try.func11, Try.ntmps11
  go_wp2_with fail
  refine (hc _).mono ?_
  rintro e w1 ⟨rfl, hb⟩
  have HB := Lib.hid hb
  have hsz := hb.size
  rw [show (w.alloc (.cells (fr k s t l q x y er sl rk ep d) TF)).heap.size = w.heap.size + 1 by simp] at hsz
  clear hb
  go_wp2_with fail
  refine (new_any (B := w.heap.size) w1 (by omega)).mono ?_
  rintro e w2 ⟨rfl, h2, b2⟩
  have HS := Lib.hid (start _ _ _ _ _ _ _ _ _ _ _ _ _ _ _ HB.out h2 b2)
  clear h2 b2 HB hsz
  go_wp2_with fail
  refine (hp _ _ _ _ _ HS.out.1 (.head _)).mono ?_
  rintro e w3 ⟨rfl, h3, b3⟩
  have HS3 := Lib.hid (And.intro h3 (HS.out.2.trans b3))
  clear h3 b3 HS
  go_wp2_with fail
  refine (bytes_ok HS3.out.1).mono ?_
  rintro e w4 ⟨rfl, rfl⟩
  rw [hpk]
  have e1 : (Str p).size = p.length := str_size p
  have e2 : IntKind.i64.wrap ((p.length : Int) + 2) = (p.length : Int) + 2 := by rw [IntKind.wrap_i64]; omega
  have e3 : decide ((127 : Int) < (p.length : Int) + 2) = true := decide_eq_true (by omega)
  clear hc hp hpk
  go_wp2_with fail
  go_ret2
  exact ⟨rfl, HS3.out.2⟩

set_option maxRecDepth 100000 in
set_option maxHeartbeats 4000000 in
theorem enc_ok (k s t l q x y er sl rk ep : Int) (d : List UInt8) (hc : Chk (fr k s t l q x y er sl rk ep d) 0) (bits : List Bool) (hp : Writes (fr k s t l q x y er sl rk ep d) bits 0) (p : List UInt8) (hpk : pack bits = p) (h1 : p.length ≤ 125) (w : World) :
    Calls Try.prog 11 #[.agg (fr k s t l q x y er sl rk ep d)] w fun e w' => e = .returned (.tuple #[.string (Str (protect p)), .int .i64 0]) ∧ Below w.heap.size w w' := by
  go_enter Try.func11, Try.ntmps11
  go_wp2_with fail
  refine (hc _).mono ?_
  rintro e w1 ⟨rfl, hb⟩
  have HB := Lib.hid hb
  have hsz := hb.size
  rw [show (w.alloc (.cells (fr k s t l q x y er sl rk ep d) TF)).heap.size = w.heap.size + 1 by simp] at hsz
  clear hb
  go_wp2_with fail
  refine (new_any (B := w.heap.size) w1 (by omega)).mono ?_
  rintro e w2 ⟨rfl, h2, b2⟩
  have HS := Lib.hid (start _ _ _ _ _ _ _ _ _ _ _ _ _ _ _ HB.out h2 b2)
  clear h2 b2 HB hsz
  go_wp2_with fail
  refine (hp _ _ _ _ _ HS.out.1 (.head _)).mono ?_
  rintro e w3 ⟨rfl, h3, b3⟩
  have HS3 := Lib.hid (And.intro h3 (HS.out.2.trans b3))
  clear h3 b3 HS
  go_wp2_with fail
  refine (bytes_ok HS3.out.1).mono ?_
  rintro e w4 ⟨rfl, rfl⟩
  rw [hpk]
  have e1 : (Str p).size = p.length := str_size p
  have e2 : IntKind.i64.wrap ((p.length : Int) + 2) = (p.length : Int) + 2 := by rw [IntKind.wrap_i64]; omega
  have e3 : decide ((127 : Int) < (p.length : Int) + 2) = false := decide_eq_false (by omega)
  clear hc hp hpk
  go_wp2_with fail
  refine (protect_any p (by omega) _).mono ?_
  rintro e w5 ⟨rfl, b5⟩
  have HS5 := Lib.hid (HS3.out.2.trans (b5.mono HS3.out.2.size))
  clear b5 HS3
  go_wp2_with fail
  go_ret2
  exact ⟨rfl, HS5.out⟩
end Go.Proofs.Ytbgnkjaikbhdoaa.FrE

-- FrF
namespace Go.Proofs.Ytbgnkjaikbhdoaa.FrF
open Go.RowKit Go.Proofs.Ytbgnkjaikbhdoaa.FrA Go.Proofs.YtbgnkjaikbhdoaaW.PrintWords
open Go.Proofs.Ytbgnkjaikbhdoaa.Bytes (Str)

/-- THREE BLOCKS OF FRAMES b, b + 1, b + 2; all that lies below b is as in w0. -/
structure Tri (w0 w : World) (b : Nat) (c1 c2 c3 : Array Value) : Prop where
  bel : Below b w0 w
  one : w.heap[b]? = some (.cells c1 TF (0, 0))
  two : w.heap[b + 1]? = some (.cells c2 TF (0, 0))
  three : w.heap[b + 2]? = some (.cells c3 TF (0, 0))
theorem Tri.start (w : World) (c1 c2 c3 : Array Value) : Tri w (((w.alloc (.cells c1 TF)).alloc (.cells c2 TF)).alloc (.cells c3 TF)) w.heap.size c1 c2 c3 := by
  refine ⟨(((Below.refl _ _).alloc (Nat.le_refl _) _).alloc (by simp) _).alloc (by simp; omega) _, ?_, ?_, ?_⟩
  · have := heap_alloc_old ((w.alloc (.cells c1 TF)).alloc (.cells c2 TF)) (.cells c3 TF) (r := w.heap.size) (by simp; omega)
    rw [this]; exact heap_alloc2_old _ _ _
  · have := heap_alloc_new (w.alloc (.cells c1 TF)) (.cells c2 TF)
    have h2 := heap_alloc_old ((w.alloc (.cells c1 TF)).alloc (.cells c2 TF)) (.cells c3 TF) (r := w.heap.size + 1) (by simp)
    rw [h2]; simpa using this
  · have := heap_alloc_new ((w.alloc (.cells c1 TF)).alloc (.cells c2 TF)) (.cells c3 TF)
    simpa using this
theorem Tri.later {w0 w w' : World} {b : Nat} {c1 c2 c3 : Array Value} (h : Tri w0 w b c1 c2 c3) (hb : Below w.heap.size w w') : Tri w0 w' b c1 c2 c3 := by
  have l3 : b + 2 < w.heap.size := (Array.getElem?_eq_some_iff.1 h.three).1
  exact ⟨h.bel.trans (hb.mono (by omega)), by rw [hb.block _ (by omega)]; exact h.one, by rw [hb.block _ (by omega)]; exact h.two, by rw [hb.block _ (by omega)]; exact h.three⟩
theorem Tri.set {w0 w : World} {b : Nat} {c1 c2 c3 : Array Value} (h : Tri w0 w b c1 c2 c3) (i : Nat) (v : Value) : Tri w0 (w.setCell ⟨b + 2, i, none⟩ v) b c1 c2 (c3.setIfInBounds i v) := by
  refine ⟨?_, ?_, ?_, heap_setCell_same _ _ _ _ _ _ h.three⟩
  · rw [setCell_eq_setRow _ _ _ _ _ _ _ h.three]; exact below_setRow h.bel (by omega) _
  · rw [heap_setCell_other _ _ _ _ (by simp)]; exact h.one
  · rw [heap_setCell_other _ _ _ _ (by simp)]; exact h.two
theorem Tri.row2 {w0 w : World} {b : Nat} {c1 c2 c3 : Array Value} (h : Tri w0 w b c1 c2 c3) (c : Array Value) : Below b w0 (w.setRow (b + 1) c) ∧ (w.setRow (b + 1) c).heap[b + 1]? = some (.cells c TF (0, 0)) :=
  ⟨below_setRow h.bel (by omega) _, setRow_heap _ _ _ _ _ _ h.two⟩
theorem Tri.cell {w0 w : World} {b : Nat} {c1 c2 c3 : Array Value} (h : Tri w0 w b c1 c2 c3) (i : Nat) {v : Value} (hv : c1[i]? = some v) : w.cell? ⟨b, i, none⟩ = some v := by
  rw [cell_of_row _ _ _ _ _ _ h.one]; exact hv

section
variable {ops : Array Oper} {rest : List Oper} {o : Oper} {a : Act} {w : World} {Q : Exit → Act → World → Prop}
/-- A store into a field of the third block. -/
theorem wpList_store_tri (hgd : o.guard = none) (ty : TypeId) (x y : Operand) (ho : o.op = .store ty x y) (hd : o.dst = none) {w0 : World} {b : Nat} {c1 c2 c3 : Array Value} (hT : Hid (Tri w0 w b c1 c2 c3))
    (i : Nat) (hi : i < c3.size) (v : Value) (hx : a.eval x = .pointer (some ⟨b + 2, i, none⟩)) (hy : a.eval y = v) (h1 : v.oneCell' = true) (hs : (Try.prog.info? ty).map (·.size) = some 1)
    (c4 : Array Value) (h4 : c3.setIfInBounds i v = c4) (h : ∀ w', Hid (Tri w0 w' b c1 c2 c4) → wpList Try.prog ops Q rest a w') : wpList Try.prog ops Q (o :: rest) a w :=
  wpList_plain hgd fun _ hK => by
    have hcell : w.cell? ⟨b + 2, i, none⟩ = some c3[i] := by rw [cell_of_row _ _ _ _ _ _ hT.out.three]; simp [hi]
    have hfro : w.frozen? ⟨b + 2, i, none⟩ = false := frozen_of_row _ _ _ _ _ hT.out.three
    have hst : (storeVar ty ⟨b + 2, i, none⟩ v).run Try.prog w = .ok () (w.setCell ⟨b + 2, i, none⟩ v) := by
      have hc : v.cells = #[v] := by cases v <;> first | rfl | cases h1
      cases hq : Try.prog.info? ty with
      | none => simp [hq] at hs
      | some d =>
        have hz : d.size = 1 := by simpa [hq] using hs
        have hst : (store ⟨b + 2, i, none⟩ v).run Try.prog w = .ok () (w.setCell ⟨b + 2, i, none⟩ v) := by
          rw [run_store Try.prog w _ v _ h1, hcell]; simp [hfro]
        have hadd : (⟨b + 2, i, none⟩ : Addr).add 0 = ⟨b + 2, i, none⟩ := by simp [Addr.add]
        simp [storeVar, sizeOf, typeInfo, hq, hc, hz, storeCells, hadd, hst, Sem.run_bind]
    unfold Oper.wp execOp
    simp only [ho, hx, hy, Instr.storeAt, Instr.sureAddr, Sem.run_bind, Sem.run_pure, Result.andThen_ok, hst]
    exact hK _ _ (by rw [hd]; exact h _ (Lib.hid (h4 ▸ hT.out.set i v)))
end

theorem results_cv {fn : Func} {p u : Tmp} {ty : TypeId} (h : fn.results = #[.cell p ty, .tmp u]) (tmps : Array Value) (w : World) (g : Nat) (t : TypeId) (cs : Array Value) (fr : Nat × Nat) (d : TypeDesc) (v : Value) (hv : tmps.getD u undef = v)
    (hp : tmps.getD p undef = .pointer (some ⟨g, 0, none⟩)) (hg : w.heap[g]? = some (.cells cs t fr))
    (hu : Try.prog.underlying ty = some d) (hd : (match d with | .struct _ | .array _ _ => true | _ => false) = true) (hi : (Try.prog.info? ty).map (·.size) = some cs.size) :
    (results fn tmps).run Try.prog w = .ok (.tuple #[.agg cs, v]) w := by
  rw [← hv]; exact results_ct h tmps w g t cs fr d hp hg hu (by cases d <;> first | rfl | exact absurd hd (by simp)) hi
abbrev zs : Array Value := fr 0 0 0 0 0 0 0 0 0 0 0 []
theorem fr_one (k s t l q x y er sl rk ep : Int) (d : List UInt8) : (fr k s t l q x y er sl rk ep d).all (·.oneCell') = true := by simp [Value.oneCell']
theorem fr_size (k s t l q x y er sl rk ep : Int) (d : List UInt8) : zs.size = (fr k s t l q x y er sl rk ep d).size := rfl

set_option maxRecDepth 100000 in
set_option maxHeartbeats 4000000 in
theorem fields_1 (s t l q x y er sl rk ep : Int) (d : List UInt8) (w : World) :
    Calls Try.prog 36 #[.agg (fr 1 s t l q x y er sl rk ep d)] w fun e w' => e = .returned (.tuple #[.agg (fr 1 s t l q 0 0 er sl rk ep []), .bool (tgB s t && inB x 255 && inB y 65535)]) ∧ Below w.heap.size w w' := by
  have HT0 := Lib.hid (Tri.start w (fr 1 s t l q x y er sl rk ep d) zs (fr 1 s t l q x y er sl rk ep d))
  go_enter Try.func36, Try.ntmps36
  go_wp2_with fail
  refine (isTarget_any _ _ _ _ _ _ _ _ _ _ _ _ _).mono ?_
  rintro e w1 ⟨rfl, hw1⟩
  have HT1 := Lib.hid (HT0.out.later (w' := w1) (by rw [hw1]; exact (Below.refl _ _).alloc (Nat.le_refl _) _))
  clear hw1 HT0
  have k5 := HT1.out.cell 5 (v := .int .i64 x) rfl
  have k6 := HT1.out.cell 6 (v := .int .i64 y) rfl
  generalize hb : w.heap.size = b at *
  have HBB := Lib.hid hb
  clear hb
  cases g1 : tgB s t
  · have G1 := Lib.hid g1
    clear k5 k6 g1
    go_wp2_with (first | (refine wpList_store_tri rfl _ _ _ rfl rfl HT1 5 (by simp) (.int .i64 0) rfl rfl rfl (by kernel_rfl) (fr 1 s t l q 0 y er sl rk ep d) rfl ?_; clear HT1; intro w5 HT) | (refine wpList_store_tri rfl _ _ _ rfl rfl HT 6 (by simp) (.int .i64 0) rfl rfl rfl (by kernel_rfl) (fr 1 s t l q 0 0 er sl rk ep d) rfl ?_; clear HT; intro w6 HT) | (refine wpList_store_tri rfl _ _ _ rfl rfl HT 11 (by simp) (.string ⟨#[]⟩) rfl rfl rfl (by kernel_rfl) (fr 1 s t l q 0 0 er sl rk ep []) rfl ?_; clear HT; intro w7 HT) | (refine wpList_load_row rfl TF _ rfl (b + 2) rfl TF (fr 1 s t l q 0 0 er sl rk ep []) (0, 0) _ HT.out.three Try.underlying23 rfl (by kernel_rfl) ?_) | (refine wpList_store_row rfl TF _ _ rfl (b + 1) (fr 1 s t l q 0 0 er sl rk ep []) rfl rfl TF zs HT.out.two (by kernel_rfl) (fr_size ..) (fr_one ..) ?_))
    exact bodyPost_ret (v := .tuple #[.agg (fr 1 s t l q 0 0 er sl rk ep []), .bool (false)]) (results_cv (p := 2) (u := 3) rfl _ _ (b + 1) TF (fr 1 s t l q 0 0 er sl rk ep []) (0, 0) _ _ rfl rfl (HT.out.row2 _).2 Try.underlying23 rfl (by kernel_rfl)) rfl ⟨by rw [G1.out]; rfl, by rw [HBB.out]; exact (HT.out.row2 _).1⟩
  · have G1 := Lib.hid g1
    clear g1
    go_wp2_with fail
    refine (in_any x 255 _).mono ?_
    rintro e w' ⟨rfl, rfl⟩
    cases g2 : inB x 255
    · have G2 := Lib.hid g2
      clear k5 k6 g2
      go_wp2_with (first | (refine wpList_store_tri rfl _ _ _ rfl rfl HT1 5 (by simp) (.int .i64 0) rfl rfl rfl (by kernel_rfl) (fr 1 s t l q 0 y er sl rk ep d) rfl ?_; clear HT1; intro w5 HT) | (refine wpList_store_tri rfl _ _ _ rfl rfl HT 6 (by simp) (.int .i64 0) rfl rfl rfl (by kernel_rfl) (fr 1 s t l q 0 0 er sl rk ep d) rfl ?_; clear HT; intro w6 HT) | (refine wpList_store_tri rfl _ _ _ rfl rfl HT 11 (by simp) (.string ⟨#[]⟩) rfl rfl rfl (by kernel_rfl) (fr 1 s t l q 0 0 er sl rk ep []) rfl ?_; clear HT; intro w7 HT) | (refine wpList_load_row rfl TF _ rfl (b + 2) rfl TF (fr 1 s t l q 0 0 er sl rk ep []) (0, 0) _ HT.out.three Try.underlying23 rfl (by kernel_rfl) ?_) | (refine wpList_store_row rfl TF _ _ rfl (b + 1) (fr 1 s t l q 0 0 er sl rk ep []) rfl rfl TF zs HT.out.two (by kernel_rfl) (fr_size ..) (fr_one ..) ?_))
      exact bodyPost_ret (v := .tuple #[.agg (fr 1 s t l q 0 0 er sl rk ep []), .bool (false)]) (results_cv (p := 2) (u := 3) rfl _ _ (b + 1) TF (fr 1 s t l q 0 0 er sl rk ep []) (0, 0) _ _ rfl rfl (HT.out.row2 _).2 Try.underlying23 rfl (by kernel_rfl)) rfl ⟨by rw [G1.out, G2.out]; rfl, by rw [HBB.out]; exact (HT.out.row2 _).1⟩
    · have G2 := Lib.hid g2
      clear g2
      go_wp2_with fail
      refine (in_any y 65535 _).mono ?_
      rintro e w' ⟨rfl, rfl⟩
      generalize g3 : inB y 65535 = r
      have G3 := Lib.hid g3
      clear k5 k6 g3
      go_wp2_with (first | (refine wpList_store_tri rfl _ _ _ rfl rfl HT1 5 (by simp) (.int .i64 0) rfl rfl rfl (by kernel_rfl) (fr 1 s t l q 0 y er sl rk ep d) rfl ?_; clear HT1; intro w5 HT) | (refine wpList_store_tri rfl _ _ _ rfl rfl HT 6 (by simp) (.int .i64 0) rfl rfl rfl (by kernel_rfl) (fr 1 s t l q 0 0 er sl rk ep d) rfl ?_; clear HT; intro w6 HT) | (refine wpList_store_tri rfl _ _ _ rfl rfl HT 11 (by simp) (.string ⟨#[]⟩) rfl rfl rfl (by kernel_rfl) (fr 1 s t l q 0 0 er sl rk ep []) rfl ?_; clear HT; intro w7 HT) | (refine wpList_load_row rfl TF _ rfl (b + 2) rfl TF (fr 1 s t l q 0 0 er sl rk ep []) (0, 0) _ HT.out.three Try.underlying23 rfl (by kernel_rfl) ?_) | (refine wpList_store_row rfl TF _ _ rfl (b + 1) (fr 1 s t l q 0 0 er sl rk ep []) rfl rfl TF zs HT.out.two (by kernel_rfl) (fr_size ..) (fr_one ..) ?_))
      exact bodyPost_ret (v := .tuple #[.agg (fr 1 s t l q 0 0 er sl rk ep []), .bool (r)]) (results_cv (p := 2) (u := 3) rfl _ _ (b + 1) TF (fr 1 s t l q 0 0 er sl rk ep []) (0, 0) _ _ rfl rfl (HT.out.row2 _).2 Try.underlying23 rfl (by kernel_rfl)) rfl ⟨by rw [G1.out, G2.out, G3.out]; rfl, by rw [HBB.out]; exact (HT.out.row2 _).1⟩
set_option maxRecDepth 100000 in
set_option maxHeartbeats 4000000 in
theorem fields_2 (s t l q x y er sl rk ep : Int) (d : List UInt8) (w : World) :
    Calls Try.prog 36 #[.agg (fr 2 s t l q x y er sl rk ep d)] w fun e w' => e = .returned (.tuple #[.agg (fr 2 s t l q x y 0 sl rk ep d), .bool (tgB s t && errB er)]) ∧ Below w.heap.size w w' := by
  have HT0 := Lib.hid (Tri.start w (fr 2 s t l q x y er sl rk ep d) zs (fr 2 s t l q x y er sl rk ep d))
  go_enter Try.func36, Try.ntmps36
  go_wp2_with fail
  refine (isTarget_any _ _ _ _ _ _ _ _ _ _ _ _ _).mono ?_
  rintro e w1 ⟨rfl, hw1⟩
  have HT1 := Lib.hid (HT0.out.later (w' := w1) (by rw [hw1]; exact (Below.refl _ _).alloc (Nat.le_refl _) _))
  clear hw1 HT0
  have k7 := HT1.out.cell 7 (v := .int .i64 er) rfl
  generalize hb : w.heap.size = b at *
  have HBB := Lib.hid hb
  clear hb
  cases g1 : tgB s t
  · have G1 := Lib.hid g1
    clear k7 g1
    go_wp2_with (first | (refine wpList_store_tri rfl _ _ _ rfl rfl HT1 7 (by simp) (.int .i64 0) rfl rfl rfl (by kernel_rfl) (fr 2 s t l q x y 0 sl rk ep d) rfl ?_; clear HT1; intro w5 HT) | (refine wpList_load_row rfl TF _ rfl (b + 2) rfl TF (fr 2 s t l q x y 0 sl rk ep d) (0, 0) _ HT.out.three Try.underlying23 rfl (by kernel_rfl) ?_) | (refine wpList_store_row rfl TF _ _ rfl (b + 1) (fr 2 s t l q x y 0 sl rk ep d) rfl rfl TF zs HT.out.two (by kernel_rfl) (fr_size ..) (fr_one ..) ?_))
    exact bodyPost_ret (v := .tuple #[.agg (fr 2 s t l q x y 0 sl rk ep d), .bool (false)]) (results_cv (p := 2) (u := 3) rfl _ _ (b + 1) TF (fr 2 s t l q x y 0 sl rk ep d) (0, 0) _ _ rfl rfl (HT.out.row2 _).2 Try.underlying23 rfl (by kernel_rfl)) rfl ⟨by rw [G1.out]; rfl, by rw [HBB.out]; exact (HT.out.row2 _).1⟩
  · have G1 := Lib.hid g1
    clear g1
    go_wp2_with fail
    refine (isError_any er _).mono ?_
    rintro e w' ⟨rfl, rfl⟩
    generalize g3 : errB er = r
    have G3 := Lib.hid g3
    clear k7 g3
    go_wp2_with (first | (refine wpList_store_tri rfl _ _ _ rfl rfl HT1 7 (by simp) (.int .i64 0) rfl rfl rfl (by kernel_rfl) (fr 2 s t l q x y 0 sl rk ep d) rfl ?_; clear HT1; intro w5 HT) | (refine wpList_load_row rfl TF _ rfl (b + 2) rfl TF (fr 2 s t l q x y 0 sl rk ep d) (0, 0) _ HT.out.three Try.underlying23 rfl (by kernel_rfl) ?_) | (refine wpList_store_row rfl TF _ _ rfl (b + 1) (fr 2 s t l q x y 0 sl rk ep d) rfl rfl TF zs HT.out.two (by kernel_rfl) (fr_size ..) (fr_one ..) ?_))
    exact bodyPost_ret (v := .tuple #[.agg (fr 2 s t l q x y 0 sl rk ep d), .bool (r)]) (results_cv (p := 2) (u := 3) rfl _ _ (b + 1) TF (fr 2 s t l q x y 0 sl rk ep d) (0, 0) _ _ rfl rfl (HT.out.row2 _).2 Try.underlying23 rfl (by kernel_rfl)) rfl ⟨by rw [G1.out, G3.out]; rfl, by rw [HBB.out]; exact (HT.out.row2 _).1⟩
set_option maxRecDepth 100000 in
set_option maxHeartbeats 4000000 in
theorem fields_3no (s t l q x y er sl rk ep : Int) (d : List UInt8) (h1 : decide (t = -1) = false) (w : World) :
    Calls Try.prog 36 #[.agg (fr 3 s t l q x y er sl rk ep d)] w fun e w' => e = .returned (.tuple #[.agg (fr 3 s t l q x y er 0 0 0 []), .bool (false)]) ∧ Below w.heap.size w w' := by
  have HT0 := Lib.hid (Tri.start w (fr 3 s t l q x y er sl rk ep d) zs (fr 3 s t l q x y er sl rk ep d))
  have h2 : (t == -1) = false := h1
  go_enter Try.func36, Try.ntmps36
  go_wp2_with fail
  exact bodyPost_ret (v := .tuple #[.agg (fr 3 s t l q x y er 0 0 0 []), .bool (false)]) (results_cv (p := 2) (u := 3) rfl _ _ (w.heap.size + 1) TF (fr 3 s t l q x y er 0 0 0 []) (0, 0) _ _ rfl rfl (Tri.start w (fr 3 s t l q x y er sl rk ep d) (fr 3 s t l q x y er 0 0 0 []) (fr 3 s t l q x y er 0 0 0 [])).two Try.underlying23 rfl (by kernel_rfl)) rfl ⟨rfl, (Tri.start w (fr 3 s t l q x y er sl rk ep d) (fr 3 s t l q x y er 0 0 0 []) (fr 3 s t l q x y er 0 0 0 [])).bel⟩
set_option maxRecDepth 100000 in
set_option maxHeartbeats 4000000 in
theorem fields_3yes (s l q x y er sl rk ep : Int) (d : List UInt8) (w : World) :
    Calls Try.prog 36 #[.agg (fr 3 s (-1) l q x y er sl rk ep d)] w fun e w' => e = .returned (.tuple #[.agg (fr 3 s (-1) l q x y er 0 0 0 []), .bool (inB sl 109951162 && inB rk 65535 && inB ep 65535)]) ∧ Below w.heap.size w w' := by
  have HT0 := Lib.hid (Tri.start w (fr 3 s (-1) l q x y er sl rk ep d) zs (fr 3 s (-1) l q x y er sl rk ep d))
  go_enter Try.func36, Try.ntmps36
  go_wp2_with fail
  refine (in_any sl 109951162 _).mono ?_
  rintro e w1 ⟨rfl, hw1⟩
  have HT1 := Lib.hid (HT0.out.later (w' := w1) (by rw [hw1]; exact Below.refl _ _))
  clear hw1 HT0
  have k9 := HT1.out.cell 9 (v := .int .i64 rk) rfl
  have k10 := HT1.out.cell 10 (v := .int .i64 ep) rfl
  generalize hb : w.heap.size = b at *
  have HBB := Lib.hid hb
  clear hb
  cases g1 : inB sl 109951162
  · have G1 := Lib.hid g1
    clear k9 k10 g1
    go_wp2_with (first | (refine wpList_store_tri rfl _ _ _ rfl rfl HT1 8 (by simp) (.int .i64 0) rfl rfl rfl (by kernel_rfl) (fr 3 s (-1) l q x y er 0 rk ep d) rfl ?_; clear HT1; intro w5 HT) | (refine wpList_store_tri rfl _ _ _ rfl rfl HT 9 (by simp) (.int .i64 0) rfl rfl rfl (by kernel_rfl) (fr 3 s (-1) l q x y er 0 0 ep d) rfl ?_; clear HT; intro w6 HT) | (refine wpList_store_tri rfl _ _ _ rfl rfl HT 10 (by simp) (.int .i64 0) rfl rfl rfl (by kernel_rfl) (fr 3 s (-1) l q x y er 0 0 0 d) rfl ?_; clear HT; intro w7 HT) | (refine wpList_store_tri rfl _ _ _ rfl rfl HT 11 (by simp) (.string ⟨#[]⟩) rfl rfl rfl (by kernel_rfl) (fr 3 s (-1) l q x y er 0 0 0 []) rfl ?_; clear HT; intro w8 HT) | (refine wpList_load_row rfl TF _ rfl (b + 2) rfl TF (fr 3 s (-1) l q x y er 0 0 0 []) (0, 0) _ HT.out.three Try.underlying23 rfl (by kernel_rfl) ?_) | (refine wpList_store_row rfl TF _ _ rfl (b + 1) (fr 3 s (-1) l q x y er 0 0 0 []) rfl rfl TF zs HT.out.two (by kernel_rfl) (fr_size ..) (fr_one ..) ?_))
    exact bodyPost_ret (v := .tuple #[.agg (fr 3 s (-1) l q x y er 0 0 0 []), .bool (false)]) (results_cv (p := 2) (u := 3) rfl _ _ (b + 1) TF (fr 3 s (-1) l q x y er 0 0 0 []) (0, 0) _ _ rfl rfl (HT.out.row2 _).2 Try.underlying23 rfl (by kernel_rfl)) rfl ⟨by rw [G1.out]; rfl, by rw [HBB.out]; exact (HT.out.row2 _).1⟩
  · have G1 := Lib.hid g1
    clear g1
    go_wp2_with fail
    refine (in_any rk 65535 _).mono ?_
    rintro e w' ⟨rfl, rfl⟩
    cases g2 : inB rk 65535
    · have G2 := Lib.hid g2
      clear k9 k10 g2
      go_wp2_with (first | (refine wpList_store_tri rfl _ _ _ rfl rfl HT1 8 (by simp) (.int .i64 0) rfl rfl rfl (by kernel_rfl) (fr 3 s (-1) l q x y er 0 rk ep d) rfl ?_; clear HT1; intro w5 HT) | (refine wpList_store_tri rfl _ _ _ rfl rfl HT 9 (by simp) (.int .i64 0) rfl rfl rfl (by kernel_rfl) (fr 3 s (-1) l q x y er 0 0 ep d) rfl ?_; clear HT; intro w6 HT) | (refine wpList_store_tri rfl _ _ _ rfl rfl HT 10 (by simp) (.int .i64 0) rfl rfl rfl (by kernel_rfl) (fr 3 s (-1) l q x y er 0 0 0 d) rfl ?_; clear HT; intro w7 HT) | (refine wpList_store_tri rfl _ _ _ rfl rfl HT 11 (by simp) (.string ⟨#[]⟩) rfl rfl rfl (by kernel_rfl) (fr 3 s (-1) l q x y er 0 0 0 []) rfl ?_; clear HT; intro w8 HT) | (refine wpList_load_row rfl TF _ rfl (b + 2) rfl TF (fr 3 s (-1) l q x y er 0 0 0 []) (0, 0) _ HT.out.three Try.underlying23 rfl (by kernel_rfl) ?_) | (refine wpList_store_row rfl TF _ _ rfl (b + 1) (fr 3 s (-1) l q x y er 0 0 0 []) rfl rfl TF zs HT.out.two (by kernel_rfl) (fr_size ..) (fr_one ..) ?_))
      exact bodyPost_ret (v := .tuple #[.agg (fr 3 s (-1) l q x y er 0 0 0 []), .bool (false)]) (results_cv (p := 2) (u := 3) rfl _ _ (b + 1) TF (fr 3 s (-1) l q x y er 0 0 0 []) (0, 0) _ _ rfl rfl (HT.out.row2 _).2 Try.underlying23 rfl (by kernel_rfl)) rfl ⟨by rw [G1.out, G2.out]; rfl, by rw [HBB.out]; exact (HT.out.row2 _).1⟩
    · have G2 := Lib.hid g2
      clear g2
      go_wp2_with fail
      refine (in_any ep 65535 _).mono ?_
      rintro e w' ⟨rfl, rfl⟩
      generalize g3 : inB ep 65535 = r
      have G3 := Lib.hid g3
      clear k9 k10 g3
      go_wp2_with (first | (refine wpList_store_tri rfl _ _ _ rfl rfl HT1 8 (by simp) (.int .i64 0) rfl rfl rfl (by kernel_rfl) (fr 3 s (-1) l q x y er 0 rk ep d) rfl ?_; clear HT1; intro w5 HT) | (refine wpList_store_tri rfl _ _ _ rfl rfl HT 9 (by simp) (.int .i64 0) rfl rfl rfl (by kernel_rfl) (fr 3 s (-1) l q x y er 0 0 ep d) rfl ?_; clear HT; intro w6 HT) | (refine wpList_store_tri rfl _ _ _ rfl rfl HT 10 (by simp) (.int .i64 0) rfl rfl rfl (by kernel_rfl) (fr 3 s (-1) l q x y er 0 0 0 d) rfl ?_; clear HT; intro w7 HT) | (refine wpList_store_tri rfl _ _ _ rfl rfl HT 11 (by simp) (.string ⟨#[]⟩) rfl rfl rfl (by kernel_rfl) (fr 3 s (-1) l q x y er 0 0 0 []) rfl ?_; clear HT; intro w8 HT) | (refine wpList_load_row rfl TF _ rfl (b + 2) rfl TF (fr 3 s (-1) l q x y er 0 0 0 []) (0, 0) _ HT.out.three Try.underlying23 rfl (by kernel_rfl) ?_) | (refine wpList_store_row rfl TF _ _ rfl (b + 1) (fr 3 s (-1) l q x y er 0 0 0 []) rfl rfl TF zs HT.out.two (by kernel_rfl) (fr_size ..) (fr_one ..) ?_))
      exact bodyPost_ret (v := .tuple #[.agg (fr 3 s (-1) l q x y er 0 0 0 []), .bool (r)]) (results_cv (p := 2) (u := 3) rfl _ _ (b + 1) TF (fr 3 s (-1) l q x y er 0 0 0 []) (0, 0) _ _ rfl rfl (HT.out.row2 _).2 Try.underlying23 rfl (by kernel_rfl)) rfl ⟨by rw [G1.out, G2.out, G3.out]; rfl, by rw [HBB.out]; exact (HT.out.row2 _).1⟩
set_option maxRecDepth 100000 in
set_option maxHeartbeats 4000000 in
theorem fields_4all (s l q x y er sl rk ep : Int) (d : List UInt8) (w : World) :
    Calls Try.prog 36 #[.agg (fr 4 s (-1) l q x y er sl rk ep d)] w fun e w' => e = .returned (.tuple #[.agg (fr 4 s (-1) l q x y er sl rk ep []), .bool (true)]) ∧ Below w.heap.size w w' := by
  have HT0 := Lib.hid (Tri.start w (fr 4 s (-1) l q x y er sl rk ep d) zs (fr 4 s (-1) l q x y er sl rk ep d))
  go_enter Try.func36, Try.ntmps36
  go_wp2_with fail
  exact bodyPost_ret (v := .tuple #[.agg (fr 4 s (-1) l q x y er sl rk ep []), .bool (true)]) (results_cv (p := 2) (u := 3) rfl _ _ (w.heap.size + 1) TF (fr 4 s (-1) l q x y er sl rk ep []) (0, 0) _ _ rfl rfl (Tri.start w (fr 4 s (-1) l q x y er sl rk ep d) (fr 4 s (-1) l q x y er sl rk ep []) (fr 4 s (-1) l q x y er sl rk ep [])).two Try.underlying23 rfl (by kernel_rfl)) rfl ⟨rfl, (Tri.start w (fr 4 s (-1) l q x y er sl rk ep d) (fr 4 s (-1) l q x y er sl rk ep []) (fr 4 s (-1) l q x y er sl rk ep [])).bel⟩
set_option maxRecDepth 100000 in
set_option maxHeartbeats 4000000 in
theorem fields_4one (s t l q x y er sl rk ep : Int) (d : List UInt8) (h1 : decide (t = -1) = false) (w : World) :
    Calls Try.prog 36 #[.agg (fr 4 s t l q x y er sl rk ep d)] w fun e w' => e = .returned (.tuple #[.agg (fr 4 s t l q x y er sl rk ep []), .bool (tgB s t)]) ∧ Below w.heap.size w w' := by
  have HT0 := Lib.hid (Tri.start w (fr 4 s t l q x y er sl rk ep d) zs (fr 4 s t l q x y er sl rk ep d))
  have h2 : (t == -1) = false := h1
  go_enter Try.func36, Try.ntmps36
  go_wp2_with fail
  refine (isTarget_any _ _ _ _ _ _ _ _ _ _ _ _ _).mono ?_
  rintro e w1 ⟨rfl, hw1⟩
  have HT1 := Lib.hid (HT0.out.later (w' := w1) (by rw [hw1]; exact (Below.refl _ _).alloc (Nat.le_refl _) _))
  clear hw1 HT0
  generalize hb : w.heap.size = b at *
  have HBB := Lib.hid hb
  clear hb
  generalize g3 : tgB s t = r
  have G3 := Lib.hid g3
  clear g3
  go_wp2_with (first | (refine wpList_store_tri rfl _ _ _ rfl rfl HT1 11 (by simp) (.string ⟨#[]⟩) rfl rfl rfl (by kernel_rfl) (fr 4 s t l q x y er sl rk ep []) rfl ?_; clear HT1; intro w5 HT) | (refine wpList_load_row rfl TF _ rfl (b + 2) rfl TF (fr 4 s t l q x y er sl rk ep []) (0, 0) _ HT.out.three Try.underlying23 rfl (by kernel_rfl) ?_) | (refine wpList_store_row rfl TF _ _ rfl (b + 1) (fr 4 s t l q x y er sl rk ep []) rfl rfl TF zs HT.out.two (by kernel_rfl) (fr_size ..) (fr_one ..) ?_))
  exact bodyPost_ret (v := .tuple #[.agg (fr 4 s t l q x y er sl rk ep []), .bool (r)]) (results_cv (p := 2) (u := 3) rfl _ _ (b + 1) TF (fr 4 s t l q x y er sl rk ep []) (0, 0) _ _ rfl rfl (HT.out.row2 _).2 Try.underlying23 rfl (by kernel_rfl)) rfl ⟨by rw [G3.out], by rw [HBB.out]; exact (HT.out.row2 _).1⟩
set_option maxRecDepth 100000 in
set_option maxHeartbeats 4000000 in
theorem fields_no (k s t l q x y er sl rk ep : Int) (d : List UInt8) (j1 : decide (k = 1) = false) (j2 : decide (k = 2) = false) (j3 : decide (k = 3) = false) (j4 : decide (k = 4) = false) (w : World) :
    Calls Try.prog 36 #[.agg (fr k s t l q x y er sl rk ep d)] w fun e w' => e = .returned (.tuple #[.agg (fr k s t l q x y er sl rk ep d), .bool (false)]) ∧ Below w.heap.size w w' := by
  have HT0 := Lib.hid (Tri.start w (fr k s t l q x y er sl rk ep d) zs (fr k s t l q x y er sl rk ep d))
  have i1 : (k == 1) = false := j1
  have i2 : (k == 2) = false := j2
  have i3 : (k == 3) = false := j3
  have i4 : (k == 4) = false := j4
  go_enter Try.func36, Try.ntmps36
  go_wp2_with fail
  exact bodyPost_ret (v := .tuple #[.agg (fr k s t l q x y er sl rk ep d), .bool (false)]) (results_cv (p := 2) (u := 3) rfl _ _ (w.heap.size + 1) TF (fr k s t l q x y er sl rk ep d) (0, 0) _ _ rfl rfl (Tri.start w (fr k s t l q x y er sl rk ep d) (fr k s t l q x y er sl rk ep d) (fr k s t l q x y er sl rk ep d)).two Try.underlying23 rfl (by kernel_rfl)) rfl ⟨rfl, (Tri.start w (fr k s t l q x y er sl rk ep d) (fr k s t l q x y er sl rk ep d) (fr k s t l q x y er sl rk ep d)).bel⟩
end Go.Proofs.Ytbgnkjaikbhdoaa.FrF

-- FrC
namespace Go.Proofs.Ytbgnkjaikbhdoaa.FrC
open Go.RowKit Go.Proofs.Ytbgnkjaikbhdoaa.FrA Go.Proofs.Ytbgnkjaikbhdoaa.FrF Go.Proofs.YtbgnkjaikbhdoaaW.PrintWords Go.Proofs.YtbgnkjaikbhdoaaW.PrintWords
open Go.Proofs.Ytbgnkjaikbhdoaa.Bytes (Str)

/-- Two frames are alike. -/
def eqF (x0 y0 x1 y1 x2 y2 x3 y3 x4 y4 x5 y5 x6 y6 x7 y7 x8 y8 x9 y9 x10 y10 : Int) (x11 y11 : ByteArray) : Bool :=
  x0 == y0 && (x1 == y1 && (x2 == y2 && (x3 == y3 && (x4 == y4 && (x5 == y5 && (x6 == y6 && (x7 == y7 && (x8 == y8 && (x9 == y9 && (x10 == y10 && (x11.toList == y11.toList)))))))))))
theorem eqFr (d : Nat) (w : World) (x0 y0 x1 y1 x2 y2 x3 y3 x4 y4 x5 y5 x6 y6 x7 y7 x8 y8 x9 y9 x10 y10 : Int) (x11 y11 : ByteArray) :
    (Op.equalIn (d + 2) TF (.agg #[.int .i64 x0, .int .i64 x1, .int .i64 x2, .int .i64 x3, .int .i64 x4, .int .i64 x5, .int .i64 x6, .int .i64 x7, .int .i64 x8, .int .i64 x9, .int .i64 x10, .string x11]) (.agg #[.int .i64 y0, .int .i64 y1, .int .i64 y2, .int .i64 y3, .int .i64 y4, .int .i64 y5, .int .i64 y6, .int .i64 y7, .int .i64 y8, .int .i64 y9, .int .i64 y10, .string y11])).run Try.prog w = .ok (eqF x0 y0 x1 y1 x2 y2 x3 y3 x4 y4 x5 y5 x6 y6 x7 y7 x8 y8 x9 y9 x10 y10 x11 y11) w := by
  unfold eqF
  refine eqA_of Try.underlying23 (by kernel_rfl) ?_
  refine eqf_cons (by rfl) (by go_simp; rfl) (by go_simp; rfl) (by go_simp) ?_
  refine eqf_cons (by rfl) (by go_simp; rfl) (by go_simp; rfl) (by go_simp) ?_
  refine eqf_cons (by rfl) (by go_simp; rfl) (by go_simp; rfl) (by go_simp) ?_
  refine eqf_cons (by rfl) (by go_simp; rfl) (by go_simp; rfl) (by go_simp) ?_
  refine eqf_cons (by rfl) (by go_simp; rfl) (by go_simp; rfl) (by go_simp) ?_
  refine eqf_cons (by rfl) (by go_simp; rfl) (by go_simp; rfl) (by go_simp) ?_
  refine eqf_cons (by rfl) (by go_simp; rfl) (by go_simp; rfl) (by go_simp) ?_
  refine eqf_cons (by rfl) (by go_simp; rfl) (by go_simp; rfl) (by go_simp) ?_
  refine eqf_cons (by rfl) (by go_simp; rfl) (by go_simp; rfl) (by go_simp) ?_
  refine eqf_cons (by rfl) (by go_simp; rfl) (by go_simp; rfl) (by go_simp) ?_
  refine eqf_cons (by rfl) (by go_simp; rfl) (by go_simp; rfl) (by go_simp) ?_
  exact eqf_last (by rfl) (by go_simp; rfl) (by go_simp; rfl) (by go_simp)
theorem str_eq (a b : List UInt8) : ((Str a).toList == (Str b).toList) = decide (a = b) := by
  have e : ∀ l : List UInt8, (Str l).toList = l := fun l => by rw [ByteArray.toList_eq]
  rw [e, e]; by_cases h : a = b <;> simp [h]
/-- All fields that no frame's kind has are 0. -/
def zeroB (x y er sl rk ep : Int) (d : List UInt8) : Bool := decide (x = 0 ∧ y = 0 ∧ er = 0 ∧ sl = 0 ∧ rk = 0 ∧ ep = 0 ∧ d = [])
theorem eqF_zero (k s t l q x y er sl rk ep : Int) (d : List UInt8) : eqF k k s s t t l l q q x 0 y 0 er 0 sl 0 rk 0 ep 0 (Str d) (⟨#[]⟩ : ByteArray) = zeroB x y er sl rk ep d := by
  unfold eqF zeroB
  rw [show (⟨#[]⟩ : ByteArray) = Str [] from rfl, str_eq]
  simp [Bool.beq_eq_decide_eq]

attribute [local go_sem high] eqFr
set_option maxRecDepth 100000 in
set_option maxHeartbeats 4000000 in
theorem check_of (k s t l q x y er sl rk ep : Int) (d : List UInt8) (x' y' er' sl' rk' ep' : Int) (d' : List UInt8) (ok : Bool)
    (hf : ∀ w, Calls Try.prog 36 #[.agg (fr k s t l q x y er sl rk ep d)] w fun e w' => e = .returned (.tuple #[.agg (fr k s t l q x' y' er' sl' rk' ep' d'), .bool ok]) ∧ Below w.heap.size w w') (c : Int) (hc : (if ok && zeroB x' y' er' sl' rk' ep' d' && inB s 31 && inB l 255 && inB q 255 then 0 else 1) = c) (w : World) :
    Calls Try.prog 17 #[.agg (fr k s t l q x y er sl rk ep d)] w fun e w' => e = .returned (.int .i64 c) ∧ Below w.heap.size w w' := by
  have HC := Lib.hid hc
  clear hc
  have hb0 : Below w.heap.size w (w.alloc (.cells (fr k s t l q x y er sl rk ep d) TF)) := (Below.refl _ _).alloc (Nat.le_refl _) _
  go_enter Try.func17, Try.ntmps17
  go_wp2_with fail
  refine (hf _).mono ?_
  rintro e w1 ⟨rfl, hb⟩
  have hw1 : w1.heap[w.heap.size]? = some (.cells (fr k s t l q x y er sl rk ep d) TF) := by rw [hb.block _ (by simp)]; exact heap_alloc_new _ _
  have HB := Lib.hid (hb0.trans (hb.mono (by simp)))
  have hlt : w.heap.size < w1.heap.size := (Array.getElem?_eq_some_iff.1 hw1).1
  have c0 := cell_of_row w1 _ 0 _ _ _ hw1
  have c1 := cell_of_row w1 _ 1 _ _ _ hw1
  have c2 := cell_of_row w1 _ 2 _ _ _ hw1
  have c3 := cell_of_row w1 _ 3 _ _ _ hw1
  have c4 := cell_of_row w1 _ 4 _ _ _ hw1
  simp only [fr] at c0 c1 c2 c3 c4
  clear hw1 hb hb0 hf
  have fin : ∀ o1 o2 : Obj, Below w.heap.size w ((w1.alloc o1).alloc o2) := fun o1 o2 => (HB.out.alloc (by omega) _).alloc (by simp; omega) _
  have FIN := Lib.hid fin
  clear HB fin
  cases ok
  · go_wp2_with fail
    go_ret
    exact ⟨by rw [← HC.out]; rfl, FIN.out _ _⟩
  · have hq := eqF_zero k s t l q x' y' er' sl' rk' ep' d'
    cases g : zeroB x' y' er' sl' rk' ep' d'
    · rw [g] at hq
      have G0 := Lib.hid g
      clear g
      go_wp2_with fail
      go_ret
      exact ⟨by rw [← HC.out, G0.out]; rfl, FIN.out _ _⟩
    · rw [g] at hq
      have G0 := Lib.hid g
      clear g
      go_wp2_with fail
      refine (in_any s 31 _).mono ?_
      rintro e w' ⟨rfl, rfl⟩
      cases g : inB s 31
      · have G1 := Lib.hid g
        clear g
        go_wp2_with fail
        go_ret
        exact ⟨by rw [← HC.out, G0.out, G1.out]; rfl, FIN.out _ _⟩
      · have G1 := Lib.hid g
        clear g
        go_wp2_with fail
        refine (in_any l 255 _).mono ?_
        rintro e w' ⟨rfl, rfl⟩
        cases g : inB l 255
        · have G2 := Lib.hid g
          clear g
          go_wp2_with fail
          go_ret
          exact ⟨by rw [← HC.out, G0.out, G1.out, G2.out]; rfl, FIN.out _ _⟩
        · have G2 := Lib.hid g
          clear g
          go_wp2_with fail
          refine (in_any q 255 _).mono ?_
          rintro e w' ⟨rfl, rfl⟩
          cases g : inB q 255
          · have G3 := Lib.hid g
            clear g
            go_wp2_with fail
            go_ret
            exact ⟨by rw [← HC.out, G0.out, G1.out, G2.out, G3.out]; rfl, FIN.out _ _⟩
          · have G3 := Lib.hid g
            clear g
            go_wp2_with fail
            go_ret
            exact ⟨by rw [← HC.out, G0.out, G1.out, G2.out, G3.out]; rfl, FIN.out _ _⟩

/-- WHAT frame.Check RETURNS: a frame is right. -/
def okF (k s t l q x y er sl rk ep : Int) (d : List UInt8) : Bool :=
  (if k = 1 then tgB s t && inB x 255 && inB y 65535 && zeroB 0 0 er sl rk ep []
   else if k = 2 then tgB s t && errB er && zeroB x y 0 sl rk ep d
   else if k = 3 then decide (t = -1) && inB sl 109951162 && inB rk 65535 && inB ep 65535 && zeroB x y er 0 0 0 []
   else if k = 4 then (decide (t = -1) || tgB s t) && zeroB x y er sl rk ep []
   else false) && inB s 31 && inB l 255 && inB q 255
/-- The same with 0 for right and 1 for wrong. -/
def ckF (k s t l q x y er sl rk ep : Int) (d : List UInt8) : Int := if okF k s t l q x y er sl rk ep d then 0 else 1

theorem check_any (k s t l q x y er sl rk ep : Int) (d : List UInt8) (w : World) :
    Calls Try.prog 17 #[.agg (fr k s t l q x y er sl rk ep d)] w fun e w' => e = .returned (.int .i64 (ckF k s t l q x y er sl rk ep d)) ∧ Below w.heap.size w w' := by
  unfold ckF okF
  by_cases h1 : k = 1
  · subst h1
    simpa [Bool.and_assoc] using check_of 1 s t l q x y er sl rk ep d _ _ _ _ _ _ _ _ (fun w => fields_1 s t l q x y er sl rk ep d w) _ rfl w
  by_cases h2 : k = 2
  · subst h2
    simpa [Bool.and_assoc] using check_of 2 s t l q x y er sl rk ep d _ _ _ _ _ _ _ _ (fun w => fields_2 s t l q x y er sl rk ep d w) _ rfl w
  by_cases h3 : k = 3
  · subst h3
    by_cases h : t = -1
    · subst h
      simpa [Bool.and_assoc] using check_of 3 s (-1) l q x y er sl rk ep d _ _ _ _ _ _ _ _ (fun w => fields_3yes s l q x y er sl rk ep d w) _ rfl w
    · simpa [h, Bool.and_assoc] using check_of 3 s t l q x y er sl rk ep d _ _ _ _ _ _ _ _ (fun w => fields_3no s t l q x y er sl rk ep d (decide_eq_false h) w) _ rfl w
  by_cases h4 : k = 4
  · subst h4
    by_cases h : t = -1
    · subst h
      simpa [Bool.and_assoc] using check_of 4 s (-1) l q x y er sl rk ep d _ _ _ _ _ _ _ _ (fun w => fields_4all s l q x y er sl rk ep d w) _ rfl w
    · simpa [h, Bool.and_assoc] using check_of 4 s t l q x y er sl rk ep d _ _ _ _ _ _ _ _ (fun w => fields_4one s t l q x y er sl rk ep d (decide_eq_false h) w) _ rfl w
  · simpa [h1, h2, h3, h4] using check_of k s t l q x y er sl rk ep d _ _ _ _ _ _ _ _ (fun w => fields_no k s t l q x y er sl rk ep d (decide_eq_false h1) (decide_eq_false h2) (decide_eq_false h3) (decide_eq_false h4) w) _ rfl w
end Go.Proofs.Ytbgnkjaikbhdoaa.FrC

-- FrEn
namespace Go.Proofs.Ytbgnkjaikbhdoaa.FrEn
set_option linter.unusedSimpArgs false
set_option linter.unusedVariables false
open Go.RowKit Go.Proofs.Ytbgnkjaikbhdoaa.Pack Go.Proofs.Ytbgnkjaikbhdoaa.Wr Go.Proofs.Ytbgnkjaikbhdoaa.WrPut Go.Proofs.Ytbgnkjaikbhdoaa.WrAll Go.Proofs.Ytbgnkjaikbhdoaa.WrText Go.Proofs.Ytbgnkjaikbhdoaa.PenW Go.Proofs.Ytbgnkjaikbhdoaa.PenF Go.Proofs.Ytbgnkjaikbhdoaa.PenFr Go.Proofs.Ytbgnkjaikbhdoaa.FrA Go.Proofs.Ytbgnkjaikbhdoaa.FrCrc Go.Proofs.Ytbgnkjaikbhdoaa.FrE Go.Proofs.Ytbgnkjaikbhdoaa.FrC Go.Proofs.Ytbgnkjaikbhdoaa.Alg
open Go.Proofs.Ytbgnkjaikbhdoaa.Bytes (Str)

/-- The bits of a frame. -/
def moreBits (k x y er sl rk ep : Int) (d : List UInt8) : List Bool :=
  if k = 1 then bitsN 8 x.toNat ++ bitsN 16 y.toNat ++ textBits d
  else if k = 2 then bitsN 16 (er % 18446744073709551616).toNat
  else if k = 3 then bitsN 27 sl.toNat ++ bitsN 16 rk.toNat ++ bitsN 16 ep.toNat ++ textBits d
  else textBits d
def frBits (k s t l q x y er sl rk ep : Int) (d : List UInt8) : List Bool := headBits k s t l q ++ moreBits k x y er sl rk ep d
/-- WHAT frame.Encode RETURNS. -/
def encF (k s t l q x y er sl rk ep : Int) (d : List UInt8) : List UInt8 × Int :=
  if okF k s t l q x y er sl rk ep d = false then ([], 1)
  else if k ≠ 2 ∧ 127 < d.length then ([], 8)
  else if 125 < (pack (frBits k s t l q x y er sl rk ep d)).length then ([], 8)
  else (protect (pack (frBits k s t l q x y er sl rk ep d)), 0)

theorem inB_iff (n m : Int) : inB n m = true ↔ 0 ≤ n ∧ n ≤ m := by simp [inB]
theorem errB_iff (n : Int) : errB n = true ↔ -32768 ≤ n ∧ n ≤ 32767 := by simp [errB]
theorem tgB_iff (s t : Int) : tgB s t = true ↔ (0 ≤ t ∧ t ≤ 31) ∧ t ≠ s := by simp [tgB, inB_iff]
theorem zeroB_iff (x y er sl rk ep : Int) (d : List UInt8) : zeroB x y er sl rk ep d = true ↔ x = 0 ∧ y = 0 ∧ er = 0 ∧ sl = 0 ∧ rk = 0 ∧ ep = 0 ∧ d = [] := by simp [zeroB]

theorem headBits_length (k s t l q : Int) : (headBits k s t l q).length ≤ 30 := by
  unfold headBits
  have := targetBits_length t
  simp only [List.length_append, bitsN_length]; omega
theorem byteBits_length (d : List UInt8) : (byteBits d).length = 8 * d.length := by
  induction d with
  | nil => rfl
  | cons a d ih => simp only [byteBits, List.flatMap_cons, List.length_append, bitsN_length, List.length_cons] at ih ⊢; omega
theorem textBits_length (d : List UInt8) : (textBits d).length = 7 + 8 * d.length := by
  simp only [textBits, List.length_append, bitsN_length, byteBits_length]
theorem frBits_length (k s t l q x y er sl rk ep : Int) (d : List UInt8) : (frBits k s t l q x y er sl rk ep d).length ≤ 100 + 8 * d.length := by
  have h := headBits_length k s t l q
  have ht := textBits_length d
  unfold frBits moreBits
  rw [List.length_append]
  split
  · simp only [List.length_append, bitsN_length]; omega
  · split
    · simp only [bitsN_length]; omega
    · split
      · simp only [List.length_append, bitsN_length]; omega
      · omega
theorem pack_small (k s t l q x y er sl rk ep : Int) (d : List UInt8) (h : d.length ≤ 127) : (pack (frBits k s t l q x y er sl rk ep d)).length ≤ 1000 := by
  have := frBits_length k s t l q x y er sl rk ep d
  rw [pack_length]; omega

theorem ok_1 {s t l q x y er sl rk ep : Int} {d : List UInt8} (h : okF 1 s t l q x y er sl rk ep d = true) : ((0 ≤ t ∧ t ≤ 31) ∧ t ≠ s) ∧ (0 ≤ x ∧ x ≤ 255) ∧ (0 ≤ y ∧ y ≤ 65535) ∧ (er = 0 ∧ sl = 0 ∧ rk = 0 ∧ ep = 0) ∧ (0 ≤ s ∧ s ≤ 31) ∧ (0 ≤ l ∧ l ≤ 255) ∧ (0 ≤ q ∧ q ≤ 255) := by
  simp only [okF, if_pos, Bool.and_eq_true, inB_iff, tgB_iff, zeroB_iff] at h
  omega
theorem ok_2 {s t l q x y er sl rk ep : Int} {d : List UInt8} (h : okF 2 s t l q x y er sl rk ep d = true) : ((0 ≤ t ∧ t ≤ 31) ∧ t ≠ s) ∧ (-32768 ≤ er ∧ er ≤ 32767) ∧ (x = 0 ∧ y = 0 ∧ sl = 0 ∧ rk = 0 ∧ ep = 0) ∧ d = [] ∧ (0 ≤ s ∧ s ≤ 31) ∧ (0 ≤ l ∧ l ≤ 255) ∧ (0 ≤ q ∧ q ≤ 255) := by
  simp only [okF, if_neg (show ¬ (2 : Int) = 1 by decide), if_pos, Bool.and_eq_true, inB_iff, tgB_iff, errB_iff, zeroB_iff] at h
  obtain ⟨⟨⟨⟨⟨⟨a1, a2⟩, a3⟩, b1, b2, b3, b4, b5, b6, b7⟩, c⟩, d1⟩, e⟩ := h
  exact ⟨⟨a1, a2⟩, a3, ⟨b1, b2, b4, b5, b6⟩, b7, c, d1, e⟩
theorem ok_3 {s t l q x y er sl rk ep : Int} {d : List UInt8} (h : okF 3 s t l q x y er sl rk ep d = true) : t = -1 ∧ (0 ≤ sl ∧ sl ≤ 109951162) ∧ (0 ≤ rk ∧ rk ≤ 65535) ∧ (0 ≤ ep ∧ ep ≤ 65535) ∧ (x = 0 ∧ y = 0 ∧ er = 0) ∧ (0 ≤ s ∧ s ≤ 31) ∧ (0 ≤ l ∧ l ≤ 255) ∧ (0 ≤ q ∧ q ≤ 255) := by
  simp only [okF, if_neg (show ¬ (3 : Int) = 1 by decide), if_neg (show ¬ (3 : Int) = 2 by decide), if_pos, Bool.and_eq_true, inB_iff, zeroB_iff, decide_eq_true_eq] at h
  omega
theorem ok_4 {s t l q x y er sl rk ep : Int} {d : List UInt8} (h : okF 4 s t l q x y er sl rk ep d = true) : (t = -1 ∨ (0 ≤ t ∧ t ≤ 31) ∧ t ≠ s) ∧ (x = 0 ∧ y = 0 ∧ er = 0 ∧ sl = 0 ∧ rk = 0 ∧ ep = 0) ∧ (0 ≤ s ∧ s ≤ 31) ∧ (0 ≤ l ∧ l ≤ 255) ∧ (0 ≤ q ∧ q ≤ 255) := by
  simp only [okF, if_neg (show ¬ (4 : Int) = 1 by decide), if_neg (show ¬ (4 : Int) = 2 by decide), if_neg (show ¬ (4 : Int) = 3 by decide), if_pos, Bool.and_eq_true, Bool.or_eq_true, inB_iff, tgB_iff, zeroB_iff, decide_eq_true_eq] at h
  omega
theorem ok_kind {k s t l q x y er sl rk ep : Int} {d : List UInt8} (h : okF k s t l q x y er sl rk ep d = true) : k = 1 ∨ k = 2 ∨ k = 3 ∨ k = 4 := by
  by_cases h1 : k = 1
  · exact .inl h1
  by_cases h2 : k = 2
  · exact .inr (.inl h2)
  by_cases h3 : k = 3
  · exact .inr (.inr (.inl h3))
  by_cases h4 : k = 4
  · exact .inr (.inr (.inr h4))
  · simp [okF, h1, h2, h3, h4] at h

theorem chk_ok {k s t l q x y er sl rk ep : Int} {d : List UInt8} (h : okF k s t l q x y er sl rk ep d = true) : Chk (fr k s t l q x y er sl rk ep d) 0 := fun w => by
  have := check_any k s t l q x y er sl rk ep d w
  rwa [ckF, h, if_pos rfl] at this
theorem chk_no {k s t l q x y er sl rk ep : Int} {d : List UInt8} (h : okF k s t l q x y er sl rk ep d = false) : Chk (fr k s t l q x y er sl rk ep d) 1 := fun w => by
  have := check_any k s t l q x y er sl rk ep d w
  rwa [ckF, h, if_neg (by decide)] at this

/-- A frame without its text. -/
def shortBits (k s t l q x y er sl rk ep : Int) : List Bool := headBits k s t l q ++ (if k = 1 then bitsN 8 x.toNat ++ bitsN 16 y.toNat else if k = 3 then bitsN 27 sl.toNat ++ bitsN 16 rk.toNat ++ bitsN 16 ep.toNat else [])
theorem writes_ok {k s t l q x y er sl rk ep : Int} {d : List UInt8} (h : okF k s t l q x y er sl rk ep d = true) (hd : k ≠ 2 → d.length ≤ 127) : Writes (fr k s t l q x y er sl rk ep d) (frBits k s t l q x y er sl rk ep d) 0 := by
  intro B g gf G w hW hG
  rcases ok_kind h with rfl | rfl | rfl | rfl
  · obtain ⟨⟨⟨a1, a2⟩, a3⟩, ⟨b1, b2⟩, ⟨c1, c2⟩, _, ⟨d1, d2⟩, ⟨e1, e2⟩, f1, f2⟩ := ok_1 h
    simpa [frBits, moreBits] using frame_data hW hG rfl s rfl d1 d2 t rfl (by omega) a2 l rfl e1 e2 q rfl f1 f2 x rfl b1 b2 y rfl c1 c2 d rfl (hd (by decide))
  · obtain ⟨⟨⟨a1, a2⟩, a3⟩, ⟨b1, b2⟩, _, _, ⟨d1, d2⟩, ⟨e1, e2⟩, f1, f2⟩ := ok_2 h
    simpa [frBits, moreBits] using frame_ack hW hG rfl s rfl d1 d2 t rfl (by omega) a2 l rfl e1 e2 q rfl f1 f2 er rfl b1 b2
  · obtain ⟨a1, ⟨b1, b2⟩, ⟨c1, c2⟩, ⟨g1, g2⟩, _, ⟨d1, d2⟩, ⟨e1, e2⟩, f1, f2⟩ := ok_3 h
    simpa [frBits, moreBits] using frame_beacon hW hG rfl s rfl d1 d2 t rfl (by omega) (by omega) l rfl e1 e2 q rfl f1 f2 sl rfl b1 b2 rk rfl c1 c2 ep rfl g1 g2 d rfl (hd (by decide))
  · obtain ⟨a1, _, ⟨d1, d2⟩, ⟨e1, e2⟩, f1, f2⟩ := ok_4 h
    simpa [frBits, moreBits] using frame_message hW hG rfl s rfl d1 d2 t rfl (by omega) (by omega) l rfl e1 e2 q rfl f1 f2 d rfl (hd (by decide))
theorem writes_long {k s t l q x y er sl rk ep : Int} {d : List UInt8} (h : okF k s t l q x y er sl rk ep d = true) (hk : k ≠ 2) (hd : 127 < d.length) : Writes (fr k s t l q x y er sl rk ep d) (shortBits k s t l q x y er sl rk ep) 8 := by
  intro B g gf G w hW hG
  rcases ok_kind h with rfl | rfl | rfl | rfl
  · obtain ⟨⟨⟨a1, a2⟩, a3⟩, ⟨b1, b2⟩, ⟨c1, c2⟩, _, ⟨d1, d2⟩, ⟨e1, e2⟩, f1, f2⟩ := ok_1 h
    simpa [shortBits] using frame_data_long hW hG rfl s rfl d1 d2 t rfl (by omega) a2 l rfl e1 e2 q rfl f1 f2 x rfl b1 b2 y rfl c1 c2 d rfl hd
  · exact absurd rfl hk
  · obtain ⟨a1, ⟨b1, b2⟩, ⟨c1, c2⟩, ⟨g1, g2⟩, _, ⟨d1, d2⟩, ⟨e1, e2⟩, f1, f2⟩ := ok_3 h
    simpa [shortBits] using frame_beacon_long hW hG rfl s rfl d1 d2 t rfl (by omega) (by omega) l rfl e1 e2 q rfl f1 f2 sl rfl b1 b2 rk rfl c1 c2 ep rfl g1 g2 d rfl hd
  · obtain ⟨a1, _, ⟨d1, d2⟩, ⟨e1, e2⟩, f1, f2⟩ := ok_4 h
    simpa [shortBits] using frame_message_long hW hG rfl s rfl d1 d2 t rfl (by omega) (by omega) l rfl e1 e2 q rfl f1 f2 d rfl hd

theorem encode_any (k s t l q x y er sl rk ep : Int) (d : List UInt8) (r : List UInt8 × Int) (hr : encF k s t l q x y er sl rk ep d = r) (w : World) :
    Calls Try.prog 11 #[.agg (fr k s t l q x y er sl rk ep d)] w fun e w' => e = .returned (.tuple #[.string (Str r.1), .int .i64 r.2]) ∧ Below w.heap.size w w' := by
  subst hr
  unfold encF
  by_cases h : okF k s t l q x y er sl rk ep d = false
  · rw [if_pos h]; exact enc_bad _ _ _ _ _ _ _ _ _ _ _ _ (chk_no h) w
  · rw [if_neg h]
    have h : okF k s t l q x y er sl rk ep d = true := by simpa using h
    by_cases h2 : k ≠ 2 ∧ 127 < d.length
    · rw [if_pos h2]; exact enc_long _ _ _ _ _ _ _ _ _ _ _ _ (chk_ok h) _ (writes_long h h2.1 h2.2) w
    · rw [if_neg h2]
      have hd : d.length ≤ 127 := by
        by_cases hk : k = 2
        · subst hk; rw [(ok_2 h).2.2.2.1]; decide
        · simp [hk] at h2; omega
      by_cases h3 : 125 < (pack (frBits k s t l q x y er sl rk ep d)).length
      · rw [if_pos h3]; exact enc_big _ _ _ _ _ _ _ _ _ _ _ _ (chk_ok h) _ (writes_ok h (fun _ => hd)) _ rfl h3 (pack_small _ _ _ _ _ _ _ _ _ _ _ _ hd) w
      · rw [if_neg h3]; exact enc_ok _ _ _ _ _ _ _ _ _ _ _ _ (chk_ok h) _ (writes_ok h (fun _ => hd)) _ rfl (by omega) w
end Go.Proofs.Ytbgnkjaikbhdoaa.FrEn

-- Dec
namespace Go.Proofs.Ytbgnkjaikbhdoaa.Dec
set_option linter.unusedSimpArgs false
set_option linter.unusedVariables false
open Go.RowKit Go.Proofs.Ytbgnkjaikbhdoaa.Pack Go.Proofs.Ytbgnkjaikbhdoaa.WrPut Go.Proofs.Ytbgnkjaikbhdoaa.Rd Go.Proofs.Ytbgnkjaikbhdoaa.RdC Go.Proofs.Ytbgnkjaikbhdoaa.RdT Go.Proofs.Ytbgnkjaikbhdoaa.PenR Go.Proofs.Ytbgnkjaikbhdoaa.PenRd Go.Proofs.Ytbgnkjaikbhdoaa.FrCrc Go.Proofs.Ytbgnkjaikbhdoaa.FrF Go.Proofs.Ytbgnkjaikbhdoaa.FrC Go.Proofs.Ytbgnkjaikbhdoaa.Alg
open Go.Proofs.Ytbgnkjaikbhdoaa.Bytes (Str)
open Go.Proofs.Ytbgnkjaikbhdoaa.FrA (fr)

/-- A frame, field by field. -/
structure Fm where
  (k s t a q x y er sl rk ep : Int)
  (d : List UInt8)
/-- Its cells. -/
abbrev Fm.cells (f : Fm) : Array Value := fr f.k f.s f.t f.a f.q f.x f.y f.er f.sl f.rk f.ep f.d
def Fm.zero : Fm := ⟨0, 0, 0, 0, 0, 0, 0, 0, 0, 0, 0, []⟩
def Fm.ok (f : Fm) : Bool := okF f.k f.s f.t f.a f.q f.x f.y f.er f.sl f.rk f.ep f.d
/-- What pen.frame reads: is there such a kind, the frame, the place, the error. -/
def rdF (p : List UInt8) : Bool × Fm × Nat × Int :=
  let h1 := rdf p 3 0 0
  let h2 := rdf p 5 h1.2.1 h1.2.2
  let h3 := rdTg p h2.2.1 h2.2.2
  let h4 := rdf p 8 h3.2.1 h3.2.2
  let h5 := rdf p 8 h4.2.1 h4.2.2
  if h1.1 = 1 then
    let h6 := rdf p 8 h5.2.1 h5.2.2
    let h7 := rdf p 16 h6.2.1 h6.2.2
    let h8 := rdText p h7.2.1 h7.2.2
    (true, ⟨1, h2.1, h3.1, h4.1, h5.1, h6.1, h7.1, 0, 0, 0, 0, h8.1⟩, h8.2)
  else if h1.1 = 2 then
    (true, ⟨2, h2.1, h3.1, h4.1, h5.1, 0, 0, rdS p h5.2.1 h5.2.2, 0, 0, 0, []⟩, (rdf p 16 h5.2.1 h5.2.2).2)
  else if h1.1 = 3 then
    let h6 := rdf p 27 h5.2.1 h5.2.2
    let h7 := rdf p 16 h6.2.1 h6.2.2
    let h8 := rdf p 16 h7.2.1 h7.2.2
    let h9 := rdText p h8.2.1 h8.2.2
    (true, ⟨3, h2.1, h3.1, h4.1, h5.1, 0, 0, 0, h6.1, h7.1, h8.1, h9.1⟩, h9.2)
  else if h1.1 = 4 then
    let h6 := rdText p h5.2.1 h5.2.2
    (true, ⟨4, h2.1, h3.1, h4.1, h5.1, 0, 0, 0, 0, 0, 0, h6.1⟩, h6.2)
  else (false, ⟨h1.1, h2.1, h3.1, h4.1, h5.1, 0, 0, 0, 0, 0, 0, []⟩, h5.2)
theorem eta3 {α β γ : Type} (x : α × β × γ) : x = (x.1, x.2.1, x.2.2) := rfl
attribute [local irreducible] rdf rdText rdTg rdS in
set_option maxHeartbeats 1000000 in
theorem frame_rd (p : List UInt8) (hp : p.length ≤ 65536) {B g gf : Nat} {G : List (Nat × Obj)} {w : World} (h : Rf B G w g p 0 0 gf (fr 0 0 0 0 0 0 0 0 0 0 0 [])) :
    Calls Try.prog 27 #[Pr g, .pointer (some ⟨gf, 0, none⟩)] w fun r w' => r = .returned (.bool (rdF p).1) ∧ Rf B G w' g p (rdF p).2.2.1 (rdF p).2.2.2 gf (rdF p).2.1.cells ∧ Below B w w' := by
  unfold rdF Fm.cells
  by_cases c1 : (rdf p 3 0 0).1 = 1
  · simp only [c1, if_pos]
    have h1 : rdf p 3 0 0 = (1, (rdf p 3 0 0).2.1, (rdf p 3 0 0).2.2) := Prod.ext c1 rfl
    exact frame_data h hp h1 (eta3 _) (eta3 _) (eta3 _) (eta3 _) (eta3 _) (eta3 _) (eta3 _)
  · by_cases c2 : (rdf p 3 0 0).1 = 2
    · simp only [c2, if_pos, if_neg (show ¬ (2 : Nat) = 1 by decide)]
      have h1 : rdf p 3 0 0 = (2, (rdf p 3 0 0).2.1, (rdf p 3 0 0).2.2) := Prod.ext c2 rfl
      exact frame_ack h hp h1 (eta3 _) (eta3 _) (eta3 _) (eta3 _) (eta3 _) rfl
    · by_cases c3 : (rdf p 3 0 0).1 = 3
      · simp only [c3, if_pos, if_neg (show ¬ (3 : Nat) = 1 by decide), if_neg (show ¬ (3 : Nat) = 2 by decide)]
        have h1 : rdf p 3 0 0 = (3, (rdf p 3 0 0).2.1, (rdf p 3 0 0).2.2) := Prod.ext c3 rfl
        exact frame_beacon h hp h1 (eta3 _) (eta3 _) (eta3 _) (eta3 _) (eta3 _) (eta3 _) (eta3 _) (eta3 _)
      · by_cases c4 : (rdf p 3 0 0).1 = 4
        · simp only [c4, if_pos, if_neg (show ¬ (4 : Nat) = 1 by decide), if_neg (show ¬ (4 : Nat) = 2 by decide), if_neg (show ¬ (4 : Nat) = 3 by decide)]
          have h1 : rdf p 3 0 0 = (4, (rdf p 3 0 0).2.1, (rdf p 3 0 0).2.2) := Prod.ext c4 rfl
          exact frame_message h hp h1 (eta3 _) (eta3 _) (eta3 _) (eta3 _) (eta3 _)
        · simp only [if_neg c1, if_neg c2, if_neg c3, if_neg c4]
          exact frame_none h hp c1 c2 c3 c4 (eta3 _) (eta3 _) (eta3 _) (eta3 _) (eta3 _)
theorem rdF_le (p : List UInt8) : (rdF p).2.2.1 ≤ 8 * p.length := by
  have h1 := rdf_le p 3 0 0 (by omega)
  have h2 := rdf_le p 5 _ (rdf p 3 0 0).2.2 h1
  have h3 := rdTg_le p _ (rdf p 5 (rdf p 3 0 0).2.1 (rdf p 3 0 0).2.2).2.2 h2
  unfold rdF
  simp only
  generalize rdTg p (rdf p 5 (rdf p 3 0 0).2.1 (rdf p 3 0 0).2.2).2.1 (rdf p 5 (rdf p 3 0 0).2.1 (rdf p 3 0 0).2.2).2.2 = z at *
  have h4 := rdf_le p 8 _ z.2.2 h3
  have h5 := rdf_le p 8 _ (rdf p 8 z.2.1 z.2.2).2.2 h4
  generalize rdf p 8 (rdf p 8 z.2.1 z.2.2).2.1 (rdf p 8 z.2.1 z.2.2).2.2 = y at *
  split
  · exact rdText_le _ _ _ (rdf_le _ _ _ _ (rdf_le _ _ _ _ h5))
  · split
    · exact rdf_le _ _ _ _ h5
    · split
      · exact rdText_le _ _ _ (rdf_le _ _ _ _ (rdf_le _ _ _ _ (rdf_le _ _ _ _ h5)))
      · split
        · exact rdText_le _ _ _ h5
        · exact h5
/-- WHAT frame.Decode RETURNS. -/
def decF (l : List UInt8) : Fm × Int :=
  if 127 < l.length then (.zero, 8)
  else if (chk l).2 ≠ 0 then (.zero, (chk l).2)
  else if (rdF (chk l).1).1 = true ∧ closeF (chk l).1 (rdF (chk l).1).2.2.1 (rdF (chk l).1).2.2.2 = 0 ∧ (rdF (chk l).1).2.1.ok = true then ((rdF (chk l).1).2.1, 0)
  else (.zero, 10)
abbrev zc : Array Value := fr 0 0 0 0 0 0 0 0 0 0 0 []

set_option maxRecDepth 100000 in
set_option maxHeartbeats 4000000 in
theorem dec_long (l : List UInt8) (h : 127 < l.length) (w : World) :
    Calls Try.prog 22 #[.string (Str l)] w fun r w' => r = .returned (.tuple #[.agg zc, .int .i64 8]) ∧ Below w.heap.size w w' := by
  have hd : decide ((127 : Int) < (l.length : Int)) = true := decide_eq_true (by omega)
  have hs2 := str_size l
  have hz : (w.alloc (.cells zc TF)).heap[w.heap.size]? = some (.cells zc TF (0, 0)) := heap_alloc_new _ _
  have HZ := Lib.hid hz
  have HB := Lib.hid ((Below.refl _ w).alloc (Nat.le_refl _) (.cells zc TF))
  clear h hz
  go_enter Try.func22, Try.ntmps22
  go_wp2_with fail
  exact bodyPost_ret (v := .tuple #[.agg zc, .int .i64 8]) (results_cv (p := 2) (u := 3) rfl _ _ w.heap.size TF zc (0, 0) _ _ rfl rfl HZ.out Try.underlying23 rfl (by kernel_rfl)) rfl ⟨rfl, HB.out⟩

/-- The result's block, and what lies below. -/
def Res (w w1 : World) (cs : Array Value) : Prop := w1.heap[w.heap.size]? = some (.cells cs TF (0, 0)) ∧ Below w.heap.size w w1
theorem Res.start (w : World) : Res w (w.alloc (.cells zc TF)) zc := ⟨heap_alloc_new _ _, (Below.refl _ w).alloc (Nat.le_refl _) _⟩
theorem Res.later {w w1 w2 : World} {cs : Array Value} {B : Nat} (h : Res w w1 cs) (hb : Below B w1 w2) (hB : w.heap.size < B) : Res w w2 cs :=
  ⟨by rw [hb.block _ hB]; exact h.1, h.2.trans (hb.mono (by omega))⟩
theorem Res.row {w w1 : World} {cs : Array Value} (h : Res w w1 cs) (c : Array Value) : Res w (w1.setRow w.heap.size c) c :=
  ⟨setRow_heap _ _ _ _ _ _ h.1, below_setRow h.2 (Nat.le_refl _) _⟩
theorem Res.lt {w w1 : World} {cs : Array Value} (h : Res w w1 cs) : w.heap.size < w1.heap.size := (Array.getElem?_eq_some_iff.1 h.1).1

set_option maxRecDepth 100000 in
set_option maxHeartbeats 4000000 in
theorem dec_crc (l : List UInt8) (h : l.length ≤ 127) (p : List UInt8) (c : Int) (hc : chk l = (p, c)) (h0 : c ≠ 0) (w : World) :
    Calls Try.prog 22 #[.string (Str l)] w fun r w' => r = .returned (.tuple #[.agg zc, .int .i64 c]) ∧ Below w.heap.size w w' := by
  have hd : decide ((127 : Int) < (l.length : Int)) = false := decide_eq_false (by omega)
  have hs2 := str_size l
  have h02 : (c == 0) = false := by simpa using h0
  have h03 : (c != 0) = true := by simpa using h0
  have HR := Lib.hid (Res.start w)
  have HC := Lib.hid (fun w => check_any l (by omega) _ hc w)
  clear h hc h0
  go_enter Try.func22, Try.ntmps22
  go_wp2_with fail
  ((with_reducible refine (HC.out _).mono ?_); rintro r w1 ⟨rfl, b1⟩)
  have HR1 := Lib.hid (HR.out.later b1 HR.out.lt)
  clear b1
  go_wp2_with (first | (refine wpList_store_row rfl TF _ _ rfl w.heap.size zc rfl rfl TF zc HR1.out.1 (by kernel_rfl) rfl (Go.Proofs.Ytbgnkjaikbhdoaa.FrF.fr_one ..) ?_))
  exact bodyPost_ret (v := .tuple #[.agg zc, .int .i64 c]) (results_cv (p := 2) (u := 3) rfl _ _ w.heap.size TF zc (0, 0) _ _ rfl rfl (HR1.out.row zc).1 Try.underlying23 rfl (by kernel_rfl)) rfl ⟨rfl, (HR1.out.row zc).2⟩

theorem start (p : List UInt8) {w w1 w2 : World} (h : Res w w1 zc) (h2 : Rd (w.heap.size + 1) [] w2 w1.heap.size p 0 0) (b2 : Below w1.heap.size w1 w2) :
    Res w (w2.alloc (.cells zc TF)) zc ∧ Rf (w.heap.size + 1) [] (w2.alloc (.cells zc TF)) w1.heap.size p 0 0 w2.heap.size zc := by
  have hlt := h.lt
  have h3 := h2.lt
  refine ⟨(h.later b2 hlt).later ((Below.refl w2.heap.size w2).alloc (Nat.le_refl _) (.cells zc TF)) (by omega), h2.allocG _, by omega, fun p hp => by cases hp⟩

set_option maxRecDepth 100000 in
set_option maxHeartbeats 4000000 in
theorem dec_kind (l : List UInt8) (h : l.length ≤ 127) (p : List UInt8) (hp : p.length ≤ 1000) (hc : chk l = (p, 0)) (f : Fm) (ok : Bool) (i : Nat) (e : Int) (hr : rdF p = (ok, f, i, e)) (hi : i ≤ 8 * p.length) (hok : ok = false) (w : World) :
    Calls Try.prog 22 #[.string (Str l)] w fun r w' => r = .returned (.tuple #[.agg zc, .int .i64 10]) ∧ Below w.heap.size w w' := by
  have hd : decide ((127 : Int) < (l.length : Int)) = false := decide_eq_false (by omega)
  have hs2 := str_size l
  have HR := Lib.hid (Res.start w)
  have HC := Lib.hid (fun w => check_any l (by omega) _ hc w)
  have HF := fun (g gf : Nat) (w' : World) (h : Rf (w.heap.size + 1) [] w' g p 0 0 gf zc) => frame_rd p (by omega) h
  rw [hr] at HF
  have HF := Lib.hid HF
  subst hok
  clear h hc hr
  go_enter Try.func22, Try.ntmps22
  go_wp2_with fail
  ((with_reducible refine (HC.out _).mono ?_); rintro r w1 ⟨rfl, b1⟩)
  have HR1 := Lib.hid (HR.out.later b1 HR.out.lt)
  clear b1 HR HC
  go_wp2_with fail
  ((with_reducible refine (newr_any p (by omega) w1 (B := w.heap.size + 1) (Nat.succ_le_of_lt HR1.out.lt)).mono ?_); rintro r w2 ⟨rfl, h2, b2⟩)
  have HS := Lib.hid (start p HR1.out h2 b2)
  clear h2 b2 HR1
  go_wp2_with fail
  ((with_reducible refine (HF.out _ _ _ HS.out.2).mono ?_); rintro r w3 ⟨rfl, h3, b3⟩)
  have HR3 := Lib.hid (HS.out.1.later b3 (by omega))
  have H3 := Lib.hid h3
  clear h3 b3 HS HF
  go_wp2_with (first | (refine wpList_store_row rfl TF _ _ rfl w.heap.size zc rfl rfl TF zc HR3.out.1 (by kernel_rfl) rfl (Go.Proofs.Ytbgnkjaikbhdoaa.FrF.fr_one ..) ?_))
  exact bodyPost_ret (v := .tuple #[.agg zc, .int .i64 10]) (results_cv (p := 2) (u := 3) rfl _ _ w.heap.size TF zc (0, 0) _ _ rfl rfl (HR3.out.row zc).1 Try.underlying23 rfl (by kernel_rfl)) rfl ⟨rfl, (HR3.out.row zc).2⟩

set_option maxRecDepth 100000 in
set_option maxHeartbeats 4000000 in
theorem dec_close (l : List UInt8) (h : l.length ≤ 127) (p : List UInt8) (hp : p.length ≤ 1000) (hc : chk l = (p, 0)) (f : Fm) (ok : Bool) (i : Nat) (e : Int) (hr : rdF p = (ok, f, i, e)) (hi : i ≤ 8 * p.length) (hok : ok = true) (c : Int) (hcl : closeF p i e = c) (h0 : c ≠ 0) (w : World) :
    Calls Try.prog 22 #[.string (Str l)] w fun r w' => r = .returned (.tuple #[.agg zc, .int .i64 10]) ∧ Below w.heap.size w w' := by
  have hd : decide ((127 : Int) < (l.length : Int)) = false := decide_eq_false (by omega)
  have hs2 := str_size l
  have HR := Lib.hid (Res.start w)
  have HC := Lib.hid (fun w => check_any l (by omega) _ hc w)
  have HF := fun (g gf : Nat) (w' : World) (h : Rf (w.heap.size + 1) [] w' g p 0 0 gf zc) => frame_rd p (by omega) h
  rw [hr] at HF
  have HF := Lib.hid HF
  subst hok
  have HCL := Lib.hid hcl
  have h02 : (c == 0) = false := by simpa using h0
  have h03 : (c != 0) = true := by simpa using h0
  clear h0 hcl
  clear h hc hr
  go_enter Try.func22, Try.ntmps22
  go_wp2_with fail
  ((with_reducible refine (HC.out _).mono ?_); rintro r w1 ⟨rfl, b1⟩)
  have HR1 := Lib.hid (HR.out.later b1 HR.out.lt)
  clear b1 HR HC
  go_wp2_with fail
  ((with_reducible refine (newr_any p (by omega) w1 (B := w.heap.size + 1) (Nat.succ_le_of_lt HR1.out.lt)).mono ?_); rintro r w2 ⟨rfl, h2, b2⟩)
  have HS := Lib.hid (start p HR1.out h2 b2)
  clear h2 b2 HR1
  go_wp2_with fail
  ((with_reducible refine (HF.out _ _ _ HS.out.2).mono ?_); rintro r w3 ⟨rfl, h3, b3⟩)
  have HR3 := Lib.hid (HS.out.1.later b3 (by omega))
  have H3 := Lib.hid h3
  clear h3 b3 HS HF
  go_wp2_with fail
  have HCA := Lib.hid (close_any H3.out.1 (by omega) hi)
  ((with_reducible refine HCA.out.mono ?_); rintro r w4 ⟨rfl, b4⟩)
  rw [HCL.out]
  have HR4 := Lib.hid (HR3.out.later b4 HR3.out.lt)
  have HG4 := Lib.hid (show w4.heap[w2.heap.size]? = some (.cells f.cells TF (0, 0)) by rw [b4.block _ (H3.out.1.guest_lt (.head _))]; exact H3.out.1.guest (.head _))
  clear b4 H3 HR3 HCA
  go_wp2_with (first | (refine wpList_store_row rfl TF _ _ rfl w.heap.size zc rfl rfl TF zc HR4.out.1 (by kernel_rfl) rfl (Go.Proofs.Ytbgnkjaikbhdoaa.FrF.fr_one ..) ?_))
  exact bodyPost_ret (v := .tuple #[.agg zc, .int .i64 10]) (results_cv (p := 2) (u := 3) rfl _ _ w.heap.size TF zc (0, 0) _ _ rfl rfl (HR4.out.row zc).1 Try.underlying23 rfl (by kernel_rfl)) rfl ⟨rfl, (HR4.out.row zc).2⟩

set_option maxRecDepth 100000 in
set_option maxHeartbeats 4000000 in
theorem dec_check (l : List UInt8) (h : l.length ≤ 127) (p : List UInt8) (hp : p.length ≤ 1000) (hc : chk l = (p, 0)) (f : Fm) (ok : Bool) (i : Nat) (e : Int) (hr : rdF p = (ok, f, i, e)) (hi : i ≤ 8 * p.length) (hok : ok = true) (hcl : closeF p i e = 0) (hf : f.ok = false) (w : World) :
    Calls Try.prog 22 #[.string (Str l)] w fun r w' => r = .returned (.tuple #[.agg zc, .int .i64 10]) ∧ Below w.heap.size w w' := by
  have hd : decide ((127 : Int) < (l.length : Int)) = false := decide_eq_false (by omega)
  have hs2 := str_size l
  have HR := Lib.hid (Res.start w)
  have HC := Lib.hid (fun w => check_any l (by omega) _ hc w)
  have HF := fun (g gf : Nat) (w' : World) (h : Rf (w.heap.size + 1) [] w' g p 0 0 gf zc) => frame_rd p (by omega) h
  rw [hr] at HF
  have HF := Lib.hid HF
  subst hok
  have HCL := Lib.hid hcl
  have HCK := Lib.hid (fun w => check_any f.k f.s f.t f.a f.q f.x f.y f.er f.sl f.rk f.ep f.d w)
  rw [show ckF f.k f.s f.t f.a f.q f.x f.y f.er f.sl f.rk f.ep f.d = 1 from by unfold ckF; rw [show okF f.k f.s f.t f.a f.q f.x f.y f.er f.sl f.rk f.ep f.d = false from hf]; rfl] at HCK
  clear hcl hf
  clear h hc hr
  go_enter Try.func22, Try.ntmps22
  go_wp2_with fail
  ((with_reducible refine (HC.out _).mono ?_); rintro r w1 ⟨rfl, b1⟩)
  have HR1 := Lib.hid (HR.out.later b1 HR.out.lt)
  clear b1 HR HC
  go_wp2_with fail
  ((with_reducible refine (newr_any p (by omega) w1 (B := w.heap.size + 1) (Nat.succ_le_of_lt HR1.out.lt)).mono ?_); rintro r w2 ⟨rfl, h2, b2⟩)
  have HS := Lib.hid (start p HR1.out h2 b2)
  clear h2 b2 HR1
  go_wp2_with fail
  ((with_reducible refine (HF.out _ _ _ HS.out.2).mono ?_); rintro r w3 ⟨rfl, h3, b3⟩)
  have HR3 := Lib.hid (HS.out.1.later b3 (by omega))
  have H3 := Lib.hid h3
  clear h3 b3 HS HF
  go_wp2_with fail
  have HCA := Lib.hid (close_any H3.out.1 (by omega) hi)
  ((with_reducible refine HCA.out.mono ?_); rintro r w4 ⟨rfl, b4⟩)
  rw [HCL.out]
  have HR4 := Lib.hid (HR3.out.later b4 HR3.out.lt)
  have HG4 := Lib.hid (show w4.heap[w2.heap.size]? = some (.cells f.cells TF (0, 0)) by rw [b4.block _ (H3.out.1.guest_lt (.head _))]; exact H3.out.1.guest (.head _))
  clear b4 H3 HR3 HCA
  have c0 := cell_of_row w4 _ 0 _ _ _ HG4.out
  have c1 := cell_of_row w4 _ 1 _ _ _ HG4.out
  have c2 := cell_of_row w4 _ 2 _ _ _ HG4.out
  have c3 := cell_of_row w4 _ 3 _ _ _ HG4.out
  have c4 := cell_of_row w4 _ 4 _ _ _ HG4.out
  have c5 := cell_of_row w4 _ 5 _ _ _ HG4.out
  have c6 := cell_of_row w4 _ 6 _ _ _ HG4.out
  have c7 := cell_of_row w4 _ 7 _ _ _ HG4.out
  have c8 := cell_of_row w4 _ 8 _ _ _ HG4.out
  have c9 := cell_of_row w4 _ 9 _ _ _ HG4.out
  have c10 := cell_of_row w4 _ 10 _ _ _ HG4.out
  have c11 := cell_of_row w4 _ 11 _ _ _ HG4.out
  simp only [fr, Fm.cells] at c0 c1 c2 c3 c4 c5 c6 c7 c8 c9 c10 c11
  go_wp2_with fail
  ((with_reducible refine (HCK.out _).mono ?_); rintro r w5 ⟨rfl, b5⟩)
  have HR5 := Lib.hid (HR4.out.later b5 HR4.out.lt)
  have HG5 := Lib.hid (show w5.heap[w2.heap.size]? = some (.cells f.cells TF (0, 0)) by rw [b5.block _ (Array.getElem?_eq_some_iff.1 HG4.out).1]; exact HG4.out)
  clear b5 HR4 HG4 HCK c0 c1 c2 c3 c4 c5 c6 c7 c8 c9 c10 c11
  go_wp2_with (first | (refine wpList_store_row rfl TF _ _ rfl w.heap.size zc rfl rfl TF zc HR5.out.1 (by kernel_rfl) rfl (Go.Proofs.Ytbgnkjaikbhdoaa.FrF.fr_one ..) ?_))
  exact bodyPost_ret (v := .tuple #[.agg zc, .int .i64 10]) (results_cv (p := 2) (u := 3) rfl _ _ w.heap.size TF zc (0, 0) _ _ rfl rfl (HR5.out.row zc).1 Try.underlying23 rfl (by kernel_rfl)) rfl ⟨rfl, (HR5.out.row zc).2⟩

set_option maxRecDepth 100000 in
set_option maxHeartbeats 4000000 in
theorem dec_ok (l : List UInt8) (h : l.length ≤ 127) (p : List UInt8) (hp : p.length ≤ 1000) (hc : chk l = (p, 0)) (f : Fm) (ok : Bool) (i : Nat) (e : Int) (hr : rdF p = (ok, f, i, e)) (hi : i ≤ 8 * p.length) (hok : ok = true) (hcl : closeF p i e = 0) (hf : f.ok = true) (w : World) :
    Calls Try.prog 22 #[.string (Str l)] w fun r w' => r = .returned (.tuple #[.agg f.cells, .int .i64 0]) ∧ Below w.heap.size w w' := by
  have hd : decide ((127 : Int) < (l.length : Int)) = false := decide_eq_false (by omega)
  have hs2 := str_size l
  have HR := Lib.hid (Res.start w)
  have HC := Lib.hid (fun w => check_any l (by omega) _ hc w)
  have HF := fun (g gf : Nat) (w' : World) (h : Rf (w.heap.size + 1) [] w' g p 0 0 gf zc) => frame_rd p (by omega) h
  rw [hr] at HF
  have HF := Lib.hid HF
  subst hok
  have HCL := Lib.hid hcl
  have HCK := Lib.hid (fun w => check_any f.k f.s f.t f.a f.q f.x f.y f.er f.sl f.rk f.ep f.d w)
  rw [show ckF f.k f.s f.t f.a f.q f.x f.y f.er f.sl f.rk f.ep f.d = 0 from by unfold ckF; rw [show okF f.k f.s f.t f.a f.q f.x f.y f.er f.sl f.rk f.ep f.d = true from hf]; rfl] at HCK
  clear hcl hf
  clear h hc hr
  go_enter Try.func22, Try.ntmps22
  go_wp2_with fail
  ((with_reducible refine (HC.out _).mono ?_); rintro r w1 ⟨rfl, b1⟩)
  have HR1 := Lib.hid (HR.out.later b1 HR.out.lt)
  clear b1 HR HC
  go_wp2_with fail
  ((with_reducible refine (newr_any p (by omega) w1 (B := w.heap.size + 1) (Nat.succ_le_of_lt HR1.out.lt)).mono ?_); rintro r w2 ⟨rfl, h2, b2⟩)
  have HS := Lib.hid (start p HR1.out h2 b2)
  clear h2 b2 HR1
  go_wp2_with fail
  ((with_reducible refine (HF.out _ _ _ HS.out.2).mono ?_); rintro r w3 ⟨rfl, h3, b3⟩)
  have HR3 := Lib.hid (HS.out.1.later b3 (by omega))
  have H3 := Lib.hid h3
  clear h3 b3 HS HF
  go_wp2_with fail
  have HCA := Lib.hid (close_any H3.out.1 (by omega) hi)
  ((with_reducible refine HCA.out.mono ?_); rintro r w4 ⟨rfl, b4⟩)
  rw [HCL.out]
  have HR4 := Lib.hid (HR3.out.later b4 HR3.out.lt)
  have HG4 := Lib.hid (show w4.heap[w2.heap.size]? = some (.cells f.cells TF (0, 0)) by rw [b4.block _ (H3.out.1.guest_lt (.head _))]; exact H3.out.1.guest (.head _))
  clear b4 H3 HR3 HCA
  have c0 := cell_of_row w4 _ 0 _ _ _ HG4.out
  have c1 := cell_of_row w4 _ 1 _ _ _ HG4.out
  have c2 := cell_of_row w4 _ 2 _ _ _ HG4.out
  have c3 := cell_of_row w4 _ 3 _ _ _ HG4.out
  have c4 := cell_of_row w4 _ 4 _ _ _ HG4.out
  have c5 := cell_of_row w4 _ 5 _ _ _ HG4.out
  have c6 := cell_of_row w4 _ 6 _ _ _ HG4.out
  have c7 := cell_of_row w4 _ 7 _ _ _ HG4.out
  have c8 := cell_of_row w4 _ 8 _ _ _ HG4.out
  have c9 := cell_of_row w4 _ 9 _ _ _ HG4.out
  have c10 := cell_of_row w4 _ 10 _ _ _ HG4.out
  have c11 := cell_of_row w4 _ 11 _ _ _ HG4.out
  simp only [fr, Fm.cells] at c0 c1 c2 c3 c4 c5 c6 c7 c8 c9 c10 c11
  go_wp2_with fail
  ((with_reducible refine (HCK.out _).mono ?_); rintro r w5 ⟨rfl, b5⟩)
  have HR5 := Lib.hid (HR4.out.later b5 HR4.out.lt)
  have HG5 := Lib.hid (show w5.heap[w2.heap.size]? = some (.cells f.cells TF (0, 0)) by rw [b5.block _ (Array.getElem?_eq_some_iff.1 HG4.out).1]; exact HG4.out)
  clear b5 HR4 HG4 HCK c0 c1 c2 c3 c4 c5 c6 c7 c8 c9 c10 c11
  go_wp2_with (first | (refine wpList_load_row rfl TF _ rfl w2.heap.size rfl TF f.cells (0, 0) _ HG5.out Try.underlying23 rfl (by kernel_rfl) ?_) | (refine wpList_store_row rfl TF _ _ rfl w.heap.size f.cells rfl rfl TF zc HR5.out.1 (by kernel_rfl) rfl (Go.Proofs.Ytbgnkjaikbhdoaa.FrF.fr_one ..) ?_))
  exact bodyPost_ret (v := .tuple #[.agg f.cells, .int .i64 0]) (results_cv (p := 2) (u := 3) rfl _ _ w.heap.size TF f.cells (0, 0) _ _ rfl rfl (HR5.out.row f.cells).1 Try.underlying23 rfl (by kernel_rfl)) rfl ⟨rfl, (HR5.out.row f.cells).2⟩

theorem chk_len (l : List UInt8) (h : l.length ≤ 127) : (chk l).1.length ≤ 1000 := by
  unfold chk
  split
  · simp
  · split
    · simp; omega
    · simp
theorem decode_any (l : List UInt8) (r : Fm × Int) (hr : decF l = r) (w : World) :
    Calls Try.prog 22 #[.string (Str l)] w fun e w' => e = .returned (.tuple #[.agg r.1.cells, .int .i64 r.2]) ∧ Below w.heap.size w w' := by
  subst hr
  unfold decF
  by_cases h : 127 < l.length
  · rw [if_pos h]; exact dec_long l h w
  · rw [if_neg h]
    by_cases h0 : (chk l).2 ≠ 0
    · rw [if_pos h0]; exact dec_crc l (by omega) _ _ rfl h0 w
    · rw [if_neg h0]
      have hc : chk l = ((chk l).1, 0) := Prod.ext rfl (by simpa using h0)
      have hl := chk_len l (by omega)
      have hle := rdF_le (chk l).1
      generalize (chk l).1 = p at *
      have hr : rdF p = ((rdF p).1, (rdF p).2.1, (rdF p).2.2.1, (rdF p).2.2.2) := rfl
      by_cases g1 : (rdF p).1 = true
      · by_cases g2 : closeF p (rdF p).2.2.1 (rdF p).2.2.2 = 0
        · by_cases g3 : (rdF p).2.1.ok = true
          · rw [if_pos ⟨g1, g2, g3⟩]; exact dec_ok l (by omega) p hl hc _ _ _ _ hr hle g1 g2 g3 w
          · rw [if_neg (fun h => g3 h.2.2)]; exact dec_check l (by omega) p hl hc _ _ _ _ hr hle g1 g2 (by simpa using g3) w
        · rw [if_neg (fun h => g2 h.2.1)]; exact dec_close l (by omega) p hl hc _ _ _ _ hr hle g1 _ rfl g2 w
      · rw [if_neg (fun h => g1 h.1)]; exact dec_kind l (by omega) p hl hc _ _ _ _ hr hle (by simpa using g1) w
end Go.Proofs.Ytbgnkjaikbhdoaa.Dec

-- Back
namespace Go.Proofs.Ytbgnkjaikbhdoaa.Back
set_option linter.unusedSimpArgs false
set_option linter.unusedVariables false
open Go.Proofs.Ytbgnkjaikbhdoaa.Pack Go.Proofs.Ytbgnkjaikbhdoaa.Rd Go.Proofs.Ytbgnkjaikbhdoaa.RdC Go.Proofs.Ytbgnkjaikbhdoaa.RdT Go.Proofs.Ytbgnkjaikbhdoaa.PenR Go.Proofs.Ytbgnkjaikbhdoaa.PenF Go.Proofs.Ytbgnkjaikbhdoaa.PenFr Go.Proofs.Ytbgnkjaikbhdoaa.WrText Go.Proofs.Ytbgnkjaikbhdoaa.FrCrc Go.Proofs.Ytbgnkjaikbhdoaa.FrC Go.Proofs.Ytbgnkjaikbhdoaa.FrE Go.Proofs.Ytbgnkjaikbhdoaa.FrEn Go.Proofs.Ytbgnkjaikbhdoaa.Alg Go.Proofs.Ytbgnkjaikbhdoaa.Dec

theorem bitsAt_pack (bs : List Bool) (i k : Nat) (h : i + k ≤ bs.length) : bitsAt (pack bs) i k = (bs.drop i).take k := by
  apply List.ext_getElem
  · simp [bitsAt]; omega
  · intro j h1 h2
    simp [bitsAt] at h1
    simp [bitsAt, bitAt_pack, List.getD, List.getElem?_eq_getElem (show i + j < bs.length by omega)]
theorem pack_room (bs : List Bool) : bs.length ≤ 8 * (pack bs).length := by rw [pack_length]; omega
/-- A number that was written is read. -/
theorem rdf_back (pre post : List Bool) (k n : Nat) (hn : n < 2 ^ k) : rdf (pack (pre ++ bitsN k n ++ post)) k pre.length 0 = (n, pre.length + k, 0) := by
  have hl : pre.length + k ≤ (pre ++ bitsN k n ++ post).length := by simp [bitsN_length]
  have hr := pack_room (pre ++ bitsN k n ++ post)
  unfold rdf
  rw [if_pos rfl, if_neg (by omega), bitsAt_pack _ _ _ hl]
  have : ((pre ++ bitsN k n ++ post).drop pre.length).take k = bitsN k n := by
    rw [List.append_assoc, List.drop_left, List.take_left' (by rw [bitsN_length])]
  rw [this, valN_bitsN _ _ hn]
theorem rdf_back' (bs pre post : List Bool) (k n i : Nat) (hb : bs = pre ++ bitsN k n ++ post) (hi : i = pre.length) (hn : n < 2 ^ k) : rdf (pack bs) k i 0 = (n, i + k, 0) := by
  subst hb hi; exact rdf_back pre post k n hn
theorem bytes_back (pre post : List Bool) (d : List UInt8) : ∀ m, m ≤ d.length → bytesAt (pack (pre ++ byteBits d ++ post)) pre.length m = d.take m := by
  intro m
  induction m with
  | zero => intro _; simp [bytesAt]
  | succ m ih =>
    intro hm
    rw [bytesAt_succ, ih (by omega), List.take_succ_eq_append_getElem (by omega)]
    congr 1
    have h1 : d.take m ++ d[m]'(by omega) :: d.drop (m + 1) = d := by
      rw [← List.drop_eq_getElem_cons, List.take_append_drop]
    have eg : ∀ (a c : List UInt8) (b : UInt8), byteBits (a ++ b :: c) = byteBits a ++ bitsN 8 b.toNat ++ byteBits c := by intro a c b; simp [byteBits]
    have e := eg (d.take m) (d.drop (m + 1)) (d[m]'(by omega))
    rw [h1] at e
    have hl : (pre ++ byteBits (d.take m)).length = pre.length + 8 * m := by
      rw [List.length_append, FrEn.byteBits_length, List.length_take]; omega
    have := rdf_back (pre ++ byteBits (d.take m)) (byteBits (d.drop (m + 1)) ++ post) 8 (d[m]'(by omega)).toNat (d[m]'(by omega)).toNat_lt
    rw [show pre ++ byteBits (d.take m) ++ bitsN 8 (d[m]'(by omega)).toNat ++ (byteBits (d.drop (m + 1)) ++ post) = pre ++ byteBits d ++ post by rw [e]; simp] at this
    rw [hl] at this
    unfold rdf at this
    rw [if_pos rfl] at this
    split at this
    · have := congrArg (·.2.2) this; simp at this
    · have h1 : valN (bitsAt (pack (pre ++ byteBits d ++ post)) (pre.length + 8 * m) 8) = (d[m]'(by omega)).toNat := congrArg (·.1) this
      rw [h1]; simp
theorem text_back (bs pre post : List Bool) (d : List UInt8) (i : Nat) (hd : d.length ≤ 127) (hb : bs = pre ++ textBits d ++ post) (hi : i = pre.length) : rdText (pack bs) i 0 = (d, i + 7 + 8 * d.length, 0) := by
  subst hi
  have h7 := rdf_back' bs pre (byteBits d ++ post) 7 d.length pre.length (by rw [hb]; simp [textBits]) rfl (by omega)
  have hr := pack_room bs
  have hl : pre.length + 7 + 8 * d.length ≤ bs.length := by rw [hb]; simp [FrEn.textBits_length]; omega
  unfold rdText
  rw [h7]
  simp only [if_pos]
  rw [if_neg (by omega)]
  have := bytes_back (pre ++ bitsN 7 d.length) post d d.length (Nat.le_refl _)
  rw [show pre ++ bitsN 7 d.length ++ byteBits d ++ post = bs by rw [hb]; simp [textBits], List.length_append, bitsN_length, List.take_length] at this
  rw [this]
theorem bitsN_mod (k n : Nat) : bitsN k n = bitsN k (n % 2 ^ k) := by
  induction k generalizing n with
  | zero => rfl
  | succ k ih =>
    rw [bitsN, bitsN, ih (n / 2), ih (n % 2 ^ (k + 1) / 2)]
    have e1 : n % 2 ^ (k + 1) / 2 % 2 ^ k = n / 2 % 2 ^ k := by
      rw [Nat.pow_succ, Nat.mul_comm, Nat.mod_mul_right_div_self, Nat.mod_mod]
    have e2 : n % 2 ^ (k + 1) % 2 = n % 2 := by rw [Nat.pow_succ, Nat.mul_comm, Nat.mod_mul_right_mod]
    rw [e1, e2]
theorem signed_num (er : Int) (h0 : -32768 ≤ er) (h1 : er ≤ 32767) : (er % 18446744073709551616).toNat % 2 ^ 16 = (er % 65536).toNat := by omega
theorem signed_back (bs pre post : List Bool) (er : Int) (i : Nat) (h0 : -32768 ≤ er) (h1 : er ≤ 32767) (hb : bs = pre ++ bitsN 16 (er % 18446744073709551616).toNat ++ post) (hi : i = pre.length) :
    rdf (pack bs) 16 i 0 = ((er % 65536).toNat, i + 16, 0) ∧ rdS (pack bs) i 0 = er := by
  rw [bitsN_mod, signed_num er h0 h1] at hb
  have h := rdf_back' bs pre post 16 (er % 65536).toNat i hb hi (by omega)
  refine ⟨h, ?_⟩
  unfold rdS
  rw [h]
  simp only
  by_cases hz : 32768 ≤ (er % 65536).toNat
  · rw [if_pos ⟨trivial, hz⟩]; omega
  · rw [if_neg (fun h => hz h.2)]; omega
theorem target_back (bs pre post : List Bool) (t : Int) (i : Nat) (h0 : -1 ≤ t) (h1 : t ≤ 31) (hb : bs = pre ++ targetBits t ++ post) (hi : i = pre.length) :
    rdTg (pack bs) i 0 = (t, i + (targetBits t).length, 0) := by
  unfold targetBits at hb ⊢
  unfold rdTg
  by_cases ht : 0 ≤ t
  · rw [if_pos ht] at hb ⊢
    have ha := rdf_back' bs pre (bitsN 5 t.toNat ++ post) 1 1 i (by rw [hb]; simp [bitsN]) hi (by omega)
    have hc := rdf_back' bs (pre ++ [true]) post 5 t.toNat (i + 1) (by rw [hb]; simp) (by rw [hi]; simp) (by omega)
    rw [ha]; simp only [if_pos]; rw [hc]
    simp only [List.length_cons, bitsN_length]
    exact Prod.ext (by simp; omega) (Prod.ext (by simp) rfl)
  · rw [if_neg ht] at hb ⊢
    have ha := rdf_back' bs pre post 1 0 i (by rw [hb]; simp [bitsN]) hi (by omega)
    rw [ha]; simp only
    rw [if_neg (by decide)]
    exact Prod.ext (by simp; omega) rfl
theorem val_false (bs : List Bool) (h : ∀ b ∈ bs, b = false) : valN bs = 0 := by
  induction bs using Pack.snoc_ind with
  | h0 => rfl
  | h1 bs b ih =>
    rw [valN_snoc, ih (fun c hc => h c (by simp [hc])), h b (by simp)]; simp
theorem close_back (bs : List Bool) : closeF (pack bs) bs.length 0 = 0 := by
  unfold closeF
  have hl : 8 * (pack bs).length - bs.length < 8 := by rw [pack_length]; omega
  rw [if_pos rfl, if_neg (by omega), if_neg ?_]
  rw [Classical.not_not]
  apply val_false
  intro b hb
  simp only [bitsAt, List.mem_map, List.mem_range] at hb
  obtain ⟨j, _, rfl⟩ := hb
  rw [bitAt_pack]
  simp [List.getD, List.getElem?_eq_none]
end Go.Proofs.Ytbgnkjaikbhdoaa.Back
