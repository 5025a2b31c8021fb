/- CellmsgBent: the walk. (cut to what is reached: wip/tools/slimout2.py) -/
import Derived.Test.YtjjcgjpmhhkeaaaSNCmRd
import Derived.Test.YtjjcgjpmhhkeaaaSNCmHd
import Derived.RegionTactic
import Derived.BigRegion
import Derived.Deep.QuietTactic
import Derived.BigQuiet
namespace Go.Proofs.Ytjjcgjpmhhkeaaa.CmBe
set_option linter.unusedSimpArgs false
set_option linter.unusedVariables false
open Go.RowKit Go.Proofs.Ytjjcgjpmhhkeaaa.Pack Go.Proofs.Ytjjcgjpmhhkeaaa.CmF Go.Proofs.Ytjjcgjpmhhkeaaa.CmS Go.Proofs.Ytjjcgjpmhhkeaaa.CmO Go.Proofs.Ytjjcgjpmhhkeaaa.CmP Go.Proofs.Ytjjcgjpmhhkeaaa.CmK Go.Proofs.Ytjjcgjpmhhkeaaa.CmBk Go.Proofs.Ytjjcgjpmhhkeaaa.CmRd Go.Proofs.YtjjcgjpmhhkeaaaW.PrintWords Go.Proofs.YtjjcgjpmhhkeaaaW.PrintMore Go.Proofs.YtjjcgjpmhhkeaaaW.PrintLast
open Go.Proofs.Ytjjcgjpmhhkeaaa.I (S37 k37 hopmeshref25_sameUpTo.l0 hopmeshref25_sameUpTo.f hopmeshref25_SameSpots.f hopmeshref25_Same.f)
open Go.Proofs.Ytjjcgjpmhhkeaaa.Bytes (Str ByteRow)
theorem rd_get (l : List S37) (i : Nat) : Go.Proofs.Ytjjcgjpmhhkeaaa.I.rd_T37 l (i : Int) = l.getD i Go.Proofs.Ytjjcgjpmhhkeaaa.I.z37 := rfl
theorem drop_cons (l : List S37) (i : Nat) (h : i < l.length) : l.drop i = l.getD i Go.Proofs.Ytjjcgjpmhhkeaaa.I.z37 :: l.drop (i + 1) := by
  rw [List.drop_eq_getElem_cons h, List.getD_eq_getElem?_getD, List.getElem?_eq_getElem h]; rfl
theorem s37_eq (x y : S37) (h1 : x.f0 = y.f0) (h2 : x.f1 = y.f1) : x = y := by cases x; cases y; simp_all
theorem upto_ne (l m : List S37) (hl : l.length ≤ 1000) (hlm : l.length = m.length) : ∀ n i k : Nat, i + n = l.length → n < k → l.drop i ≠ m.drop i → hopmeshref25_sameUpTo.l0 k l m (i : Int) = some false := by
  intro n
  induction n with
  | zero =>
    intro i k hi hk h
    exact absurd (by rw [List.drop_of_length_le (by omega), List.drop_of_length_le (by omega)]) h
  | succ n ih =>
    intro i k hi hk h
    obtain ⟨k, rfl⟩ : ∃ m, k = m + 1 := ⟨k - 1, by omega⟩
    simp only [hopmeshref25_sameUpTo.l0]
    rw [if_pos (by omega), if_pos (by omega), if_pos (by omega), rd_get, rd_get]
    by_cases he : (l.getD i Go.Proofs.Ytjjcgjpmhhkeaaa.I.z37) = (m.getD i Go.Proofs.Ytjjcgjpmhhkeaaa.I.z37)
    · rw [he, if_neg (by simp), wr (by omega) (by omega), show (i : Int) + 1 = ((i + 1 : Nat) : Int) by omega]
      refine ih (i + 1) k (by omega) (by omega) fun e => h ?_
      rw [drop_cons l i (by omega), drop_cons m i (by omega), he, e]
    · rw [if_pos ?_]
      generalize l.getD i Go.Proofs.Ytjjcgjpmhhkeaaa.I.z37 = a at he
      generalize m.getD i Go.Proofs.Ytjjcgjpmhhkeaaa.I.z37 = b at he
      by_cases h1 : a.f0 = b.f0
      · have h2 : ¬ a.f1 = b.f1 := fun h2 => he (s37_eq _ _ h1 h2)
        simp [h2]
      · simp [h1]
theorem spots_ne (l m : List S37) (hl : l.length ≤ 12) (h : l ≠ m) (k : Nat) (hk : 20 < k) : hopmeshref25_SameSpots.f k l m = some false := by
  unfold hopmeshref25_SameSpots.f hopmeshref25_sameUpTo.f
  by_cases hlm : l.length = m.length
  · rw [if_pos (by omega), show (0 : Int) = ((0 : Nat) : Int) from rfl, upto_ne l m (by omega) hlm l.length 0 k (by omega) (by omega) (by simpa using h)]
    rfl
  · rw [if_neg (by omega)]
theorem same_ne (x y : Ms) (h : x ≠ y) (hl : x.l.length ≤ 12) (hm : x.m.length ≤ 12) (k : Nat) (hk : 20 < k) : hopmeshref25_Same.f k x.k x.r x.n x.cd x.ct (x.l.map un) (x.m.map un) y.k y.r y.n y.cd y.ct (y.l.map un) (y.m.map un) = some false := by
  obtain ⟨a, b, c, d, e, l, m⟩ := x
  obtain ⟨a', b', c', d', e', l', m'⟩ := y
  unfold hopmeshref25_Same.f
  dsimp only at hl hm ⊢
  have inj : ∀ {p q : List (Int × Int)}, p.map un = q.map un → p = q := fun {p q} e => by rw [← pq_un p, ← pq_un q, e]
  by_cases h1 : a = a'
  · rw [if_pos h1]
    by_cases h2 : b = b'
    · rw [if_pos (by simp [h2])]
      by_cases h3 : c = c'
      · rw [if_pos h3]
        by_cases h4 : d = d'
        · rw [if_pos h4]
          by_cases h5 : e = e'
          · rw [if_pos h5]
            by_cases h6 : l = l'
            · rw [← h6, spots_self _ (by rw [List.length_map]; exact hl) k hk, Option.bind_some, if_pos rfl, spots_ne _ _ (by rw [List.length_map]; exact hm) (fun e => h (by rw [h1, h2, h3, h4, h5, h6, inj e])) k hk]
              rfl
            · rw [spots_ne _ _ (by rw [List.length_map]; exact hl) (fun e => h6 (inj e)) k hk, Option.bind_some, if_neg (by decide)]
          · rw [if_neg h5]
        · rw [if_neg h4]
      · rw [if_neg h3]
    · rw [if_neg (by simp [h2])]
  · rw [if_neg h1]
theorem eta2 {α β : Type} (x : α × β) : ∃ a b, x = (a, b) := ⟨x.1, x.2, rfl⟩
theorem cut_off (m : Ms) (hm : m.chk = 0) (k : Nat) (hk : k < (pack m.bits).length) : decA ((pack m.bits).take k) = (.zero, 10) := by
  obtain ⟨x, e, hd⟩ := eta2 (decA ((pack m.bits).take k))
  rw [hd]
  rcases decA_inv hd with ⟨rfl, hc, hp⟩ | ⟨rfl, rfl⟩
  · have := (dec_mono (p := (pack m.bits).take k) (q := (pack m.bits).drop k) hc hm hp (List.take_append_drop k _).symm).2
    have h2 := congrArg List.length this
    rw [List.length_drop] at h2
    simp at h2
    omega
  · rfl
theorem put_on (m : Ms) (hm : m.chk = 0) (q : List UInt8) (hq : q ≠ []) : decA (pack m.bits ++ q) = (.zero, 10) := by
  obtain ⟨x, e, hd⟩ := eta2 (decA (pack m.bits ++ q))
  rw [hd]
  rcases decA_inv hd with ⟨rfl, hc, hp⟩ | ⟨rfl, rfl⟩
  · exact absurd (dec_mono (p := pack m.bits) (q := q) hm hc rfl hp).2 hq
  · rfl
theorem other_bit (m : Ms) (b : List UInt8) (hb : b ≠ pack m.bits) : (decA b).2 = 10 ∨ ((decA b).2 = 0 ∧ (decA b).1 ≠ m) := by
  obtain ⟨x, e, hd⟩ := eta2 (decA b)
  rw [hd]
  rcases decA_inv hd with ⟨rfl, hc, hp⟩ | ⟨rfl, rfl⟩
  · refine .inr ⟨rfl, fun h => hb ?_⟩
    simp only at h
    rw [← hp, h]
  · exact .inl rfl
theorem one_shl : ∀ k, k < 8 → ((1 : UInt8) <<< UInt8.ofNat k).toNat = 2 ^ k := by decide
theorem xor_bit (c : UInt8) (k : Nat) (hk : k < 8) : Go.bits .xor .u8 (c.toNat : Int) (2 ^ k % 256) = ((c ^^^ (1 <<< UInt8.ofNat k)).toNat : Int) := by
  have h : ((2 : Int) ^ k % 256) = (((1 : UInt8) <<< UInt8.ofNat k).toNat : Int) := by
    rw [one_shl k hk]; revert k; decide
  rw [h, u8_xor_nat _ _ c.toNat_lt (UInt8.toNat_lt _), UInt8.toNat_xor]
theorem xor_ne (c : UInt8) (k : Nat) (hk : k < 8) : c ^^^ (1 <<< UInt8.ofNat k) ≠ c := by
  intro h
  have h2 := congrArg (c ^^^ ·) h
  simp only [← UInt8.xor_assoc, UInt8.xor_self, UInt8.zero_xor] at h2
  have h3 := one_shl k hk
  rw [h2] at h3
  have := Nat.two_pow_pos k
  simp at h3
  omega
def turn (p : List UInt8) (q r : Nat) : List UInt8 := p.set q (p.getD q 0 ^^^ (1 <<< UInt8.ofNat r))
theorem turn_length (p : List UInt8) (q r : Nat) : (turn p q r).length = p.length := by simp [turn]
theorem turn_ne (p : List UInt8) (q r : Nat) (hq : q < p.length) (hr : r < 8) : turn p q r ≠ p := by
  intro h
  have := congrArg (fun l => l.getD q 0) h
  simp [turn, List.getD, hq] at this
  exact xor_ne _ r hr this
theorem decode_m (l : List UInt8) (hs : l.length ≤ 65536) (x : Ms) (e : Int) (h : decA l = (x, e)) (w : World) :
    Calls Try.prog 25 #[.string (Str l)] w fun r w' => ∃ A c A' c', r = .returned (.tuple #[.agg (ms x.k x.r x.n x.cd x.ct A x.l.length c A' x.m.length c'), .int .i64 e]) ∧ x.l.length ≤ c ∧ x.m.length ≤ c' ∧ Sp w' A x.l ∧ Sp w' A' x.m ∧ Below w.heap.size w w' := by
  refine (CmHd.decode_any l hs w).mono ?_
  rw [h]
  rintro r w' ⟨v5, v6, rfl, h5, h6, hb⟩
  obtain ⟨A, c, rfl, hc, hC⟩ := Kd.R_reads h5
  obtain ⟨A', c', rfl, hc', hC'⟩ := Kd.R_reads h6
  exact ⟨A, c, A', c', rfl, hc, hc', hC, hC', hb⟩
theorem same_no (x y : Ms) (h : x ≠ y) (hl : x.l.length ≤ 12) (hm : x.m.length ≤ 12) (A : Option Addr) (c : Nat) (A' : Option Addr) (c' : Nat) (B : Option Addr) (d : Nat) (B' : Option Addr) (d' : Nat) (w : World) (h1 : Sp w A x.l) (k1 : x.l.length ≤ c) (h2 : Sp w A' x.m) (k2 : x.m.length ≤ c') (h3 : Sp w B y.l) (k3 : y.l.length ≤ d) (h4 : Sp w B' y.m) (k4 : y.m.length ≤ d') :
    Calls Try.prog 23 #[.agg (ms x.k x.r x.n x.cd x.ct A x.l.length c A' x.m.length c'), .agg (ms y.k y.r y.n y.cd y.ct B y.l.length d B' y.m.length d')] w fun e w' => e = .returned (.bool false) ∧ Below w.heap.size w w' := by
  have := Go.Proofs.Ytjjcgjpmhhkeaaa.I.hopmeshref25_Same.calls 40 x.k x.r x.n x.cd x.ct A c (x.l.map un) A' c' (x.m.map un) y.k y.r y.n y.cd y.ct B d (y.l.map un) B' d' (y.m.map un) false w (toI h1) (by simpa using k1) (toI h2) (by simpa using k2) (toI h3) (by simpa using k3) (toI h4) (by simpa using k4) (same_ne x y h hl hm 40 (by omega))
  simp only [List.length_map] at this
  exact this
theorem bits_length (x : Ms) : x.bits.length = 32 + 13 * x.l.length + 13 * x.m.length := by
  simp only [Ms.bits, msBits, List.length_append, hdBits_length, lsBits_length]
  omega
abbrev At (w w1 : World) (b : Nat) (cs : Array Value) : Prop := w1.heap[b]? = some (.cells cs TMs (0, 0)) ∧ Below w.heap.size w w1
theorem At.lt {w w1 : World} {b : Nat} {cs : Array Value} (h : At w w1 b cs) : b < w1.heap.size := (Array.getElem?_eq_some_iff.1 h.1).1
theorem At.later {w w1 w2 : World} {b : Nat} {cs : Array Value} (h : At w w1 b cs) (hb : Below w1.heap.size w1 w2) : At w w2 b cs :=
  ⟨by rw [hb.block _ h.lt]; exact h.1, h.2.trans (hb.mono h.2.size)⟩
theorem At.boxed {w w1 : World} {cs : Array Value} (hb : Below (w.alloc (.cells cs TMs)).heap.size (w.alloc (.cells cs TMs)) w1) : At w w1 w.heap.size cs :=
  ⟨by rw [hb.block _ (by simp)]; exact heap_alloc_new _ _, ((Below.refl _ _).alloc (Nat.le_refl _) _).trans (hb.mono (by simp))⟩
theorem At.box {w w1 : World} {b : Nat} {cs : Array Value} (h : At w w1 b cs) (o : Obj) : At w (w1.alloc o) b cs := h.later ((Below.refl _ _).alloc (Nat.le_refl _) _)
theorem awake_any (w : World) : Calls Try.prog 11 #[] w fun e w' => e = .returned (.bool true) ∧ Below w.heap.size w w' :=
  Go.Proofs.Ytjjcgjpmhhkeaaa.I.hopmeshlaw25_awake.calls 40 true w Go.Proofs.Ytjjcgjpmhhkeaaa.I.hopmeshlaw25_awake.is
set_option maxRecDepth 100000 in
set_option maxHeartbeats 8000000 in
theorem main (m : Ms) (A : Option Addr) (c : Nat) (A' : Option Addr) (c' : Nat) (a : Nat) (ha : a < 256) (q : List UInt8) (hq : q.length ≤ 20) (w : World) (hl : Sp w A m.l) (hc : m.l.length ≤ c) (hm : Sp w A' m.m) (hc' : m.m.length ≤ c') (hk : m.chk = 0) (hl12 : m.l.length ≤ 12) (hm12 : m.m.length ≤ 12) (p : List UInt8) (hp : pack m.bits = p) :
    Calls Try.prog 10 #[.agg (ms m.k m.r m.n m.cd m.ct A m.l.length c A' m.m.length c'), .int .u8 (a : Int), .string (Str q)] w fun r w' => r = .returned (.bool true) ∧ Below w.heap.size w w' := by
  have pl0 : 0 < p.length := by rw [← hp, pack_length, bits_length]; omega
  have pl1 : p.length ≤ 32 := by rw [← hp]; exact bits_len m hk
  have HD1 : Hid (∀ w' : World, Calls Try.prog 25 #[.string ((Str p).extract 0 (a % p.length))] w' fun r w'' => ∃ A c A' c', r = .returned (.tuple #[.agg (ms 0 false 0 0 0 A 0 c A' 0 c'), .int .i64 10]) ∧ Below w'.heap.size w' w'') := Lib.hid (by
    intro w'
    have hx : (Str p).extract 0 (a % p.length) = Str (p.take (a % p.length)) := by rw [Lib.extract_eq]; simp
    have hd := cut_off m hk (a % p.length) (by rw [hp]; exact Nat.mod_lt _ pl0)
    rw [hp] at hd
    rw [hx]
    refine (decode_m _ (by rw [List.length_take]; omega) _ _ hd w').mono ?_
    rintro r w'' ⟨A, c, A', c', rfl, _, _, _, _, hb⟩
    exact ⟨A, c, A', c', rfl, hb⟩)
  obtain ⟨y, e2, hy⟩ := eta2 (decA (p ++ q))
  obtain ⟨b0, hb0⟩ : ∃ b0, q.isEmpty = b0 := ⟨_, rfl⟩
  have f1 : (e2 == 0) = b0 := by
    by_cases h : q = []
    · subst h
      have := decA_back m hk
      rw [hp] at this
      rw [List.append_nil, this] at hy
      rw [← (Prod.mk.inj hy).2, ← hb0]; rfl
    · have := put_on m hk q h
      rw [hp, hy] at this
      rw [(Prod.mk.inj this).2, ← hb0]
      cases q
      · exact absurd rfl h
      · rfl
  have HD2 : Hid (∀ w' : World, Calls Try.prog 25 #[.string (Str p ++ Str q)] w' fun r w'' => ∃ A c A' c', r = .returned (.tuple #[.agg (ms y.k y.r y.n y.cd y.ct A y.l.length c A' y.m.length c'), .int .i64 e2]) ∧ Below w'.heap.size w' w'') := Lib.hid (by
    intro w'
    have hx : Str p ++ Str q = Str (p ++ q) := by apply ByteArray.ext; simp
    rw [hx]
    refine (decode_m _ (by rw [List.length_append]; omega) _ _ hy w').mono ?_
    rintro r w'' ⟨A, c, A', c', rfl, _, _, _, _, hb⟩
    exact ⟨A, c, A', c', rfl, hb⟩)
  clear hy
  have HE : Hid (∀ w' : World, Below w.heap.size w w' → Calls Try.prog 15 #[.agg (ms m.k m.r m.n m.cd m.ct A m.l.length c A' m.m.length c')] w' fun x w'' => x = .returned (.tuple #[.string (Str p), .int .i64 0]) ∧ Below w'.heap.size w' w'') := Lib.hid (by
    intro w' hb
    have := encode_any m.k m.r m.n m.cd m.ct A c A' c' m.l m.m w' (hl.below hb) hc (hm.below hb) hc'
    rw [show encF m.k m.r m.n m.cd m.ct m.l m.m = (p, 0) from (if_pos hk).trans (by rw [← hp]; rfl)] at this
    exact this)
  have HF : Hid (∀ w' : World, Below w.heap.size w w' → Calls Try.prog 12 #[.agg (ms m.k m.r m.n m.cd m.ct A m.l.length c A' m.m.length c')] w' fun x w'' => x = .returned (.bool true) ∧ Below w'.heap.size w' w'') := Lib.hid (by
    intro w' hb
    have hF : Go.Proofs.Ytjjcgjpmhhkeaaa.I.hopmeshref25_Few.f m.k m.r m.n m.cd m.ct (m.l.map un) (m.m.map un) = some true := by
      unfold Go.Proofs.Ytjjcgjpmhhkeaaa.I.hopmeshref25_Few.f
      rw [List.length_map, List.length_map, if_pos (by omega), decide_eq_true (by omega)]
    have := Go.Proofs.Ytjjcgjpmhhkeaaa.I.hopmeshref25_Few.calls m.k m.r m.n m.cd m.ct A c (m.l.map un) A' c' (m.m.map un) true w' (toI (hl.below hb)) (by simpa using hc) (toI (hm.below hb)) (by simpa using hc') hF
    simp only [List.length_map] at this
    exact this)
  have HL := Lib.hid hl
  have HM := Lib.hid hm
  have HC := Lib.hid hc
  have HC' := Lib.hid hc'
  have HOB : Hid (∀ b, b ≠ p → (decA b).2 = 10 ∨ ((decA b).2 = 0 ∧ (decA b).1 ≠ m)) := Lib.hid (fun b hb => other_bit m b (by rw [hp]; exact hb))
  clear hl hc hm hc'
  go_enter Try.func10, Try.ntmps10
  go_wp2_with fail
  ((with_reducible refine (awake_any _).mono ?_); rintro r w1 ⟨rfl, hb⟩)
  have A1 := Lib.hid (At.boxed hb)
  clear hb
  go_wp2_with ((refine wpList_load_row rfl TMs _ rfl w.heap.size rfl TMs (ms m.k m.r m.n m.cd m.ct A m.l.length c A' m.m.length c') (0, 0) _ A1.out.1 Try.underlying24 rfl (by kernel_rfl) ?_))
  ((with_reducible refine (HE.out _ A1.out.2).mono ?_); rintro r w2 ⟨rfl, hb⟩)
  have A2 := Lib.hid (A1.out.later hb)
  clear hb A1
  go_wp2_with ((refine wpList_load_row rfl TMs _ rfl w.heap.size rfl TMs (ms m.k m.r m.n m.cd m.ct A m.l.length c A' m.m.length c') (0, 0) _ A2.out.1 Try.underlying24 rfl (by kernel_rfl) ?_))
  ((with_reducible refine (HF.out _ A2.out.2).mono ?_); rintro r w3 ⟨rfl, hb⟩)
  have A3 := Lib.hid (A2.out.later hb)
  clear hb A2 HF HE
  have sq : (Str q).size = q.length := by show q.toArray.size = _; simp
  have sp : (Str p).size = p.length := by show p.toArray.size = _; simp
  have d1 : decide ((20 : Int) < (q.length : Int)) = false := decide_eq_false (by omega)
  have e1 : (Str p).toList = p := str_toList p
  have ep : p.isEmpty = false := by cases p; simp at pl0; rfl
  have m0 : (0 ≤ (a : Int) % (p.length : Int)) = True := eq_true (Int.emod_nonneg _ (by omega))
  have m1 : ((a : Int) % (p.length : Int) ≤ (p.length : Int)) = True := eq_true (by have := Int.emod_lt_of_pos (a : Int) (show (0 : Int) < p.length by omega); omega)
  clear hp
  go_wp2_with fail
  ((with_reducible refine (HD1.out _).mono ?_); rintro r w4 ⟨B1, b1, B2, b2, rfl, hb⟩)
  have A4 := Lib.hid ((A3.out.later hb).box (.cells (ms 0 false 0 0 0 B1 0 b1 B2 0 b2) TMs))
  clear hb A3 HD1 m0 m1 d1 ep
  go_wp2_with fail
  ((with_reducible refine (HD2.out _).mono ?_); rintro r w5 ⟨B3, b3, B4, b4, rfl, hb⟩)
  have A5 := Lib.hid ((A4.out.later hb).box (.cells (ms y.k y.r y.n y.cd y.ct B3 y.l.length b3 B4 y.m.length b4) TMs))
  clear hb A4 HD2
  have eq1 : (Str q).toList = q := str_toList q
  go_upto_region 12 with (fail)
  generalize World.alloc w5 _ = w6 at A5 ⊢
  have kc := fun (w : World) => Lib.run_convert_string_bytes (P := Try.prog) w 9 43 5 (Str p) Try.underlying9 Try.underlying43 Try.underlying5
  go_upto_region 13 with (fail)
  have A6 := Lib.hid (A5.out.later (Joins.below_bytesWorld w6.heap.size w6 5 (Str p) (Nat.le_refl _)))
  have HR := Lib.hid (ByteRow.conv w6 5 p)
  have HGB : Hid (w.heap.size ≤ w6.heap.size ∧ w.heap.size ≠ w6.heap.size) := Lib.hid ⟨A5.out.2.size, by have := A5.out.lt; omega⟩
  clear kc A5
  generalize Lib.bytesWorld w6 5 (Str p) = W1 at HR A6 ⊢
  obtain ⟨gr, hgr⟩ : ∃ gr, w6.heap.size = gr := ⟨_, rfl⟩
  obtain ⟨cap, hcap⟩ : ∃ cap, grownCap w6 p.length 0 5 = cap := ⟨_, rfl⟩
  rw [hgr] at HR HGB
  rw [hgr, hcap]
  clear hgr hcap
  have hqi : a / 8 % p.length < p.length := Nat.mod_lt _ pl0
  obtain ⟨hc, hf⟩ := HR.out (a / 8 % p.length) hqi
  have iq : (a : Int) / 8 % (p.length : Int) = ((a / 8 % p.length : Nat) : Int) := by rw [show (a : Int) / 8 = ((a / 8 : Nat) : Int) by omega, ← Int.natCast_emod]
  have HT : Hid (p.set (a / 8 % p.length) (p.getD (a / 8 % p.length) 0 ^^^ (1 <<< UInt8.ofNat (a % 8))) = turn p (a / 8 % p.length) (a % 8)) := Lib.hid rfl
  have HN : Hid (turn p (a / 8 % p.length) (a % 8) ≠ p) := Lib.hid (turn_ne p _ _ hqi (by omega))
  generalize a / 8 % p.length = qi at *
  generalize p.getD qi 0 = cqi at hc HT
  have i1 : ((0 : Int) ≤ (qi : Int)) = True := eq_true (by omega)
  have i2 : ((qi : Int) < (p.length : Int)) = True := eq_true (by omega)
  go_upto_region 14 with (fail)
  rw [xor_bit cqi (a % 8) (by omega)]
  have H2 := HR.out.set qi hqi (cqi ^^^ (1 <<< UInt8.ofNat (a % 8)))
  rw [HT.out] at H2
  have kt := H2.text (P := Try.prog) cap 43 5 9 Try.underlying43 Try.underlying5 Try.underlying9
  rw [turn_length] at kt
  have A7 := Lib.hid (show At w (W1.setCell ⟨gr, qi, none⟩ (.int .u8 ((cqi ^^^ (1 <<< UInt8.ofNat (a % 8))).toNat : Int))) w.heap.size _ from ⟨by rw [heap_setCell_other _ _ _ _ (by simpa using HGB.out.2)]; exact A6.out.1, A6.out.2.setCell (p := ⟨gr, qi, none⟩) HGB.out.1 _⟩)
  clear H2 hc hf HR A6 HT iq i1 i2 HGB
  have hbl : (turn p qi (a % 8)).length ≤ 65536 := by rw [turn_length]; omega
  generalize turn p qi (a % 8) = b at *
  generalize World.setCell W1 _ _ = W2 at kt A7 ⊢
  go_upto_region 14 with (fail)
  rcases HOB.out b HN.out with h10 | ⟨h0, hne⟩
  · have HD3 := Lib.hid (fun w' => decode_m b hbl (decA b).1 10 (Prod.ext rfl h10) w')
    clear h10 HOB HN
    generalize (decA b).1 = x at HD3
    go_wp2_with fail
    ((with_reducible refine (HD3.out _).mono ?_); rintro r w8 ⟨B5, b5, B6, b6, rfl, _, _, _, _, hb⟩)
    have A8 := Lib.hid ((A7.out.later hb).box (.cells (ms x.k x.r x.n x.cd x.ct B5 x.l.length b5 B6 x.m.length b6) TMs))
    clear hb A7 kt
    go_wp2_with fail
    go_ret
    exact ⟨rfl, A8.out.2⟩
  · have HD3 := Lib.hid (fun w' => decode_m b hbl (decA b).1 0 (Prod.ext rfl h0) w')
    have HX := Lib.hid (CmRd.dec_len b)
    have HNE := Lib.hid hne
    clear h0 hne HOB HN
    generalize (decA b).1 = x at HD3 HX HNE
    go_wp2_with fail
    ((with_reducible refine (HD3.out _).mono ?_); rintro r w8 ⟨B5, b5, B6, b6, rfl, k1, k2, s1, s2, hb⟩)
    have hb9 : Below w8.heap.size w8 (w8.alloc (.cells (ms x.k x.r x.n x.cd x.ct B5 x.l.length b5 B6 x.m.length b6) TMs)) := (Below.refl _ _).alloc (Nat.le_refl _) _
    have A8 := Lib.hid ((A7.out.later hb).later hb9)
    have S1 := Lib.hid (s1.below hb9)
    have S2 := Lib.hid (s2.below hb9)
    have K1 := Lib.hid k1
    have K2 := Lib.hid k2
    have BX : Hid ((w8.alloc (.cells (ms x.k x.r x.n x.cd x.ct B5 x.l.length b5 B6 x.m.length b6) TMs)).heap[w8.heap.size]? = some (.cells (ms x.k x.r x.n x.cd x.ct B5 x.l.length b5 B6 x.m.length b6) TMs (0, 0))) := Lib.hid (heap_alloc_new _ _)
    clear hb hb9 A7 kt s1 s2 k1 k2
    go_upto_region 15 with (fail)
    generalize hg : w8.heap.size = gx at BX ⊢
    generalize World.alloc w8 _ = w9 at A8 S1 S2 BX ⊢
    clear hg
    have cx0 : w9.cell? ⟨gx, 0, none⟩ = some (.int .i64 x.k) := (cell_of_row w9 _ 0 _ _ _ BX.out).trans rfl
    have cx1 : w9.cell? ⟨gx, 1, none⟩ = some (.bool x.r) := (cell_of_row w9 _ 1 _ _ _ BX.out).trans rfl
    have cx2 : w9.cell? ⟨gx, 2, none⟩ = some (.int .i64 x.n) := (cell_of_row w9 _ 2 _ _ _ BX.out).trans rfl
    have cx3 : w9.cell? ⟨gx, 3, none⟩ = some (.int .i64 x.cd) := (cell_of_row w9 _ 3 _ _ _ BX.out).trans rfl
    have cx4 : w9.cell? ⟨gx, 4, none⟩ = some (.int .i64 x.ct) := (cell_of_row w9 _ 4 _ _ _ BX.out).trans rfl
    have cx5 : w9.cell? ⟨gx, 5, none⟩ = some (.slice B5 x.l.length b5) := (cell_of_row w9 _ 5 _ _ _ BX.out).trans rfl
    have cx6 : w9.cell? ⟨gx, 6, none⟩ = some (.slice B6 x.m.length b6) := (cell_of_row w9 _ 6 _ _ _ BX.out).trans rfl
    have cm0 : w9.cell? ⟨w.heap.size, 0, none⟩ = some (.int .i64 m.k) := (cell_of_row w9 _ 0 _ _ _ A8.out.1).trans rfl
    have cm1 : w9.cell? ⟨w.heap.size, 1, none⟩ = some (.bool m.r) := (cell_of_row w9 _ 1 _ _ _ A8.out.1).trans rfl
    have cm2 : w9.cell? ⟨w.heap.size, 2, none⟩ = some (.int .i64 m.n) := (cell_of_row w9 _ 2 _ _ _ A8.out.1).trans rfl
    have cm3 : w9.cell? ⟨w.heap.size, 3, none⟩ = some (.int .i64 m.cd) := (cell_of_row w9 _ 3 _ _ _ A8.out.1).trans rfl
    have cm4 : w9.cell? ⟨w.heap.size, 4, none⟩ = some (.int .i64 m.ct) := (cell_of_row w9 _ 4 _ _ _ A8.out.1).trans rfl
    have cm5 : w9.cell? ⟨w.heap.size, 5, none⟩ = some (.slice A m.l.length c) := (cell_of_row w9 _ 5 _ _ _ A8.out.1).trans rfl
    have cm6 : w9.cell? ⟨w.heap.size, 6, none⟩ = some (.slice A' m.m.length c') := (cell_of_row w9 _ 6 _ _ _ A8.out.1).trans rfl
    have HS := Lib.hid (same_no x m HNE.out (by have := HX.out; omega) (by have := HX.out; omega) B5 b5 B6 b6 A c A' c' w9 S1.out K1.out S2.out K2.out (HL.out.below A8.out.2) HC.out (HM.out.below A8.out.2) HC'.out)
    clear BX S1 S2 K1 K2 HL HM HC HC' HX HNE
    go_wp2_with fail
    ((with_reducible refine HS.out.mono ?_); rintro r w10 ⟨rfl, hb⟩)
    have A10 := Lib.hid (A8.out.later hb)
    clear hb A8 HS
    go_wp2_with fail
    go_ret
    exact ⟨rfl, A10.out.2⟩
set_option maxRecDepth 100000 in
set_option maxHeartbeats 8000000 in
theorem early_few (m : Ms) (A : Option Addr) (c : Nat) (A' : Option Addr) (c' : Nat) (a : Nat) (q : List UInt8) (w : World) (p : List UInt8) (e : Int) (hE : ∀ w' : World, Below w.heap.size w w' → Calls Try.prog 15 #[.agg (ms m.k m.r m.n m.cd m.ct A m.l.length c A' m.m.length c')] w' fun x w'' => x = .returned (.tuple #[.string (Str p), .int .i64 e]) ∧ Below w'.heap.size w' w'')
    (hF : ∀ w' : World, Below w.heap.size w w' → Calls Try.prog 12 #[.agg (ms m.k m.r m.n m.cd m.ct A m.l.length c A' m.m.length c')] w' fun x w'' => x = .returned (.bool false) ∧ Below w'.heap.size w' w'') :
    Calls Try.prog 10 #[.agg (ms m.k m.r m.n m.cd m.ct A m.l.length c A' m.m.length c'), .int .u8 (a : Int), .string (Str q)] w fun r w' => r = .returned (.bool true) ∧ Below w.heap.size w w' := by
  have HE := Lib.hid hE
  have HF := Lib.hid hF
  have sq : (Str q).size = q.length := by show q.toArray.size = _; simp
  clear hE hF
  go_enter Try.func10, Try.ntmps10
  go_wp2_with fail
  ((with_reducible refine (awake_any _).mono ?_); rintro r w1 ⟨rfl, hb⟩)
  have A1 := Lib.hid (At.boxed hb)
  clear hb
  go_wp2_with ((refine wpList_load_row rfl TMs _ rfl w.heap.size rfl TMs (ms m.k m.r m.n m.cd m.ct A m.l.length c A' m.m.length c') (0, 0) _ A1.out.1 Try.underlying24 rfl (by kernel_rfl) ?_))
  ((with_reducible refine (HE.out _ A1.out.2).mono ?_); rintro r w2 ⟨rfl, hb⟩)
  have A2 := Lib.hid (A1.out.later hb)
  clear hb A1
  go_wp2_with ((refine wpList_load_row rfl TMs _ rfl w.heap.size rfl TMs (ms m.k m.r m.n m.cd m.ct A m.l.length c A' m.m.length c') (0, 0) _ A2.out.1 Try.underlying24 rfl (by kernel_rfl) ?_))
  ((with_reducible refine (HF.out _ A2.out.2).mono ?_); rintro r w3 ⟨rfl, hb⟩)
  have A3 := Lib.hid (A2.out.later hb)
  clear hb A2 HF HE
  go_wp2_with fail
  go_ret
  exact ⟨rfl, A3.out.2⟩
set_option maxRecDepth 100000 in
set_option maxHeartbeats 8000000 in
theorem early_more (m : Ms) (A : Option Addr) (c : Nat) (A' : Option Addr) (c' : Nat) (a : Nat) (q : List UInt8) (w : World) (p : List UInt8) (e : Int) (hE : ∀ w' : World, Below w.heap.size w w' → Calls Try.prog 15 #[.agg (ms m.k m.r m.n m.cd m.ct A m.l.length c A' m.m.length c')] w' fun x w'' => x = .returned (.tuple #[.string (Str p), .int .i64 e]) ∧ Below w'.heap.size w' w'')
    (hF : ∀ w' : World, Below w.heap.size w w' → Calls Try.prog 12 #[.agg (ms m.k m.r m.n m.cd m.ct A m.l.length c A' m.m.length c')] w' fun x w'' => x = .returned (.bool true) ∧ Below w'.heap.size w' w'') (hq : 20 < q.length) :
    Calls Try.prog 10 #[.agg (ms m.k m.r m.n m.cd m.ct A m.l.length c A' m.m.length c'), .int .u8 (a : Int), .string (Str q)] w fun r w' => r = .returned (.bool true) ∧ Below w.heap.size w w' := by
  have HE := Lib.hid hE
  have HF := Lib.hid hF
  have sq : (Str q).size = q.length := by show q.toArray.size = _; simp
  have d1 : decide ((20 : Int) < (q.length : Int)) = true := decide_eq_true (by omega)
  clear hq
  clear hE hF
  go_enter Try.func10, Try.ntmps10
  go_wp2_with fail
  ((with_reducible refine (awake_any _).mono ?_); rintro r w1 ⟨rfl, hb⟩)
  have A1 := Lib.hid (At.boxed hb)
  clear hb
  go_wp2_with ((refine wpList_load_row rfl TMs _ rfl w.heap.size rfl TMs (ms m.k m.r m.n m.cd m.ct A m.l.length c A' m.m.length c') (0, 0) _ A1.out.1 Try.underlying24 rfl (by kernel_rfl) ?_))
  ((with_reducible refine (HE.out _ A1.out.2).mono ?_); rintro r w2 ⟨rfl, hb⟩)
  have A2 := Lib.hid (A1.out.later hb)
  clear hb A1
  go_wp2_with ((refine wpList_load_row rfl TMs _ rfl w.heap.size rfl TMs (ms m.k m.r m.n m.cd m.ct A m.l.length c A' m.m.length c') (0, 0) _ A2.out.1 Try.underlying24 rfl (by kernel_rfl) ?_))
  ((with_reducible refine (HF.out _ A2.out.2).mono ?_); rintro r w3 ⟨rfl, hb⟩)
  have A3 := Lib.hid (A2.out.later hb)
  clear hb A2 HF HE
  go_wp2_with fail
  go_ret
  exact ⟨rfl, A3.out.2⟩
set_option maxRecDepth 100000 in
set_option maxHeartbeats 8000000 in
theorem early_err (m : Ms) (A : Option Addr) (c : Nat) (A' : Option Addr) (c' : Nat) (a : Nat) (q : List UInt8) (w : World) (p : List UInt8) (e : Int) (hE : ∀ w' : World, Below w.heap.size w w' → Calls Try.prog 15 #[.agg (ms m.k m.r m.n m.cd m.ct A m.l.length c A' m.m.length c')] w' fun x w'' => x = .returned (.tuple #[.string (Str p), .int .i64 e]) ∧ Below w'.heap.size w' w'')
    (hF : ∀ w' : World, Below w.heap.size w w' → Calls Try.prog 12 #[.agg (ms m.k m.r m.n m.cd m.ct A m.l.length c A' m.m.length c')] w' fun x w'' => x = .returned (.bool true) ∧ Below w'.heap.size w' w'') (hq : q.length ≤ 20) (he : e ≠ 0) :
    Calls Try.prog 10 #[.agg (ms m.k m.r m.n m.cd m.ct A m.l.length c A' m.m.length c'), .int .u8 (a : Int), .string (Str q)] w fun r w' => r = .returned (.bool true) ∧ Below w.heap.size w w' := by
  have HE := Lib.hid hE
  have HF := Lib.hid hF
  have sq : (Str q).size = q.length := by show q.toArray.size = _; simp
  have d1 : decide ((20 : Int) < (q.length : Int)) = false := decide_eq_false (by omega)
  have d2 : (e == 0) = false := by simpa using he
  have d3 : (e != 0) = true := by simpa using he
  clear hq he
  clear hE hF
  go_enter Try.func10, Try.ntmps10
  go_wp2_with fail
  ((with_reducible refine (awake_any _).mono ?_); rintro r w1 ⟨rfl, hb⟩)
  have A1 := Lib.hid (At.boxed hb)
  clear hb
  go_wp2_with ((refine wpList_load_row rfl TMs _ rfl w.heap.size rfl TMs (ms m.k m.r m.n m.cd m.ct A m.l.length c A' m.m.length c') (0, 0) _ A1.out.1 Try.underlying24 rfl (by kernel_rfl) ?_))
  ((with_reducible refine (HE.out _ A1.out.2).mono ?_); rintro r w2 ⟨rfl, hb⟩)
  have A2 := Lib.hid (A1.out.later hb)
  clear hb A1
  go_wp2_with ((refine wpList_load_row rfl TMs _ rfl w.heap.size rfl TMs (ms m.k m.r m.n m.cd m.ct A m.l.length c A' m.m.length c') (0, 0) _ A2.out.1 Try.underlying24 rfl (by kernel_rfl) ?_))
  ((with_reducible refine (HF.out _ A2.out.2).mono ?_); rintro r w3 ⟨rfl, hb⟩)
  have A3 := Lib.hid (A2.out.later hb)
  clear hb A2 HF HE
  go_wp2_with fail
  go_ret
  exact ⟨rfl, A3.out.2⟩
theorem walk (k : Int) (r : Bool) (n cd ct : Int) (A : Option Addr) (l : List (Int × Int)) (c : Nat) (B : Option Addr) (m : List (Int × Int)) (d : Nat) (a : Int) (s : ByteArray) (w : World) (h : MsIn w A l c B m d) (ha : (Lit.int .u8 a).wf = true) (_ : s.size ≤ 140737488351232) :
    Calls Try.prog 10 #[.agg (ms k r n cd ct A l.length c B m.length d), .int .u8 a, .string s] w fun e w' => e = .returned (.bool true) ∧ Below w.heap.size w w' := by
  obtain ⟨q, rfl⟩ := str_of s
  obtain ⟨a0, a1⟩ : 0 ≤ a ∧ a < 256 := by simp [Lit.wf, IntKind.min, IntKind.max, IntKind.bits, IntKind.signed] at ha; omega
  obtain ⟨a, rfl⟩ : ∃ z : Nat, a = (z : Int) := ⟨a.toNat, by omega⟩
  have hE : ∀ w' : World, Below w.heap.size w w' → Calls Try.prog 15 #[.agg (ms k r n cd ct A l.length c B m.length d)] w' fun x w'' => x = .returned (.tuple #[.string (Str (encF k r n cd ct l m).1), .int .i64 (encF k r n cd ct l m).2]) ∧ Below w'.heap.size w' w'' := fun w' hb => encode_any k r n cd ct A c B d l m w' (h.hl.below hb) h.hc (h.hm.below hb) h.hd
  have hF : ∀ w' : World, Below w.heap.size w w' → Calls Try.prog 12 #[.agg (ms k r n cd ct A l.length c B m.length d)] w' fun x w'' => x = .returned (.bool (decide (l.length ≤ 12 ∧ m.length ≤ 12))) ∧ Below w'.heap.size w' w'' := by
    intro w' hb
    have hF : Go.Proofs.Ytjjcgjpmhhkeaaa.I.hopmeshref25_Few.f k r n cd ct (l.map un) (m.map un) = some (decide (l.length ≤ 12 ∧ m.length ≤ 12)) := by
      unfold Go.Proofs.Ytjjcgjpmhhkeaaa.I.hopmeshref25_Few.f
      rw [List.length_map, List.length_map]
      by_cases h1 : l.length ≤ 12
      · rw [if_pos (by omega)]; simp [h1]; omega
      · rw [if_neg (by omega)]; simp [h1]
    have := Go.Proofs.Ytjjcgjpmhhkeaaa.I.hopmeshref25_Few.calls k r n cd ct A c (l.map un) B d (m.map un) _ w' (toI (h.hl.below hb)) (by simpa using h.hc) (toI (h.hm.below hb)) (by simpa using h.hd) hF
    simp only [List.length_map] at this
    exact this
  by_cases hf : l.length ≤ 12 ∧ m.length ≤ 12
  · rw [decide_eq_true hf] at hF
    by_cases hq : 20 < q.length
    · exact early_more ⟨k, r, n, cd, ct, l, m⟩ A c B d a q w _ _ hE hF hq
    · by_cases hc : Ms.chk ⟨k, r, n, cd, ct, l, m⟩ = 0
      · exact main ⟨k, r, n, cd, ct, l, m⟩ A c B d a (by omega) q (by omega) w h.hl h.hc h.hm h.hd hc hf.1 hf.2 _ rfl
      · refine early_err ⟨k, r, n, cd, ct, l, m⟩ A c B d a q w _ _ hE hF (by omega) ?_
        rw [show encF k r n cd ct l m = ([], chkF k r n cd ct l m) from if_neg hc]
        exact hc
  · rw [decide_eq_false hf] at hF
    exact early_few ⟨k, r, n, cd, ct, l, m⟩ A c B d a q w _ _ hE hF
end Go.Proofs.Ytjjcgjpmhhkeaaa.CmBe
