/- Messages: reading what was written, and writing what was read: plain. (cut to what is reached: wip/tools/slimout2.py) -/
import Derived.Test.YtjjcgjpmhhkeaaaSNCmK
import Derived.Test.YtjjcgjpmhhkeaaaSNRdC
namespace Go.Proofs.Ytjjcgjpmhhkeaaa.CmBk
set_option linter.unusedSimpArgs false
set_option linter.unusedVariables false
open Go.Proofs.Ytjjcgjpmhhkeaaa.Pack Go.Proofs.Ytjjcgjpmhhkeaaa.Rd Go.Proofs.Ytjjcgjpmhhkeaaa.RdC Go.Proofs.Ytjjcgjpmhhkeaaa.CmH Go.Proofs.Ytjjcgjpmhhkeaaa.CmS Go.Proofs.Ytjjcgjpmhhkeaaa.CmP Go.Proofs.Ytjjcgjpmhhkeaaa.CmK
theorem bitsAt_pack (bs : List Bool) (i k : Nat) (h : i + k ≤ bs.length) : bitsAt (pack bs) i k = (bs.drop i).take k := by
  apply List.ext_getElem
  · simp [bitsAt]; omega
  · intro j h1 h2
    simp [bitsAt] at h1
    simp [bitsAt, bitAt_pack, List.getD, List.getElem?_eq_getElem (show i + j < bs.length by omega)]
theorem pack_room (bs : List Bool) : bs.length ≤ 8 * (pack bs).length := by rw [pack_length]; omega
theorem rdf_back (pre post : List Bool) (k n : Nat) (hn : n < 2 ^ k) : rdf (pack (pre ++ bitsN k n ++ post)) k pre.length 0 = (n, pre.length + k, 0) := by
  have hl : pre.length + k ≤ (pre ++ bitsN k n ++ post).length := by simp [bitsN_length]
  have hr := pack_room (pre ++ bitsN k n ++ post)
  unfold rdf
  rw [if_pos rfl, if_neg (by omega), bitsAt_pack _ _ _ hl]
  have : ((pre ++ bitsN k n ++ post).drop pre.length).take k = bitsN k n := by
    rw [List.append_assoc, List.drop_left, List.take_left' (by rw [bitsN_length])]
  rw [this, valN_bitsN _ _ hn]
theorem rdf_back' (bs pre post : List Bool) (k n i : Nat) (hb : bs = pre ++ bitsN k n ++ post) (hi : i = pre.length) (hn : n < 2 ^ k) : rdf (pack bs) k i 0 = (n, i + k, 0) := by
  subst hb hi; exact rdf_back pre post k n hn
theorem val_false (bs : List Bool) (h : ∀ b ∈ bs, b = false) : valN bs = 0 := by
  induction bs using Pack.snoc_ind with
  | h0 => rfl
  | h1 bs b ih =>
    rw [valN_snoc, ih (fun c hc => h c (by simp [hc])), h b (by simp)]; simp
theorem close_back (bs : List Bool) : closeF (pack bs) bs.length 0 = 0 := by
  unfold closeF
  have hl : 8 * (pack bs).length - bs.length < 8 := by rw [pack_length]; omega
  rw [if_pos rfl, if_neg (by omega), if_neg ?_]
  rw [Classical.not_not]
  apply val_false
  intro b hb
  simp only [bitsAt, List.mem_map, List.mem_range] at hb
  obtain ⟨j, _, rfl⟩ := hb
  rw [bitAt_pack]
  simp [List.getD, List.getElem?_eq_none]
theorem bitsAt_add (p : List UInt8) (i a b : Nat) : bitsAt p i (a + b) = bitsAt p i a ++ bitsAt p (i + a) b := by
  induction b with
  | zero => simp [bitsAt]
  | succ b ih => rw [← Nat.add_assoc, bitsAt_succ, ih, bitsAt_succ, List.append_assoc, Nat.add_assoc]
def Seg (p : List UInt8) (i j : Nat) (bs : List Bool) : Prop := i ≤ j ∧ j ≤ 8 * p.length ∧ bs = bitsAt p i (j - i)
theorem Seg.trans {p : List UInt8} {i j k : Nat} {a b : List Bool} (h : Seg p i j a) (h2 : Seg p j k b) : Seg p i k (a ++ b) := by
  obtain ⟨x1, x2, x3⟩ := h
  obtain ⟨y1, y2, y3⟩ := h2
  refine ⟨by omega, y2, ?_⟩
  rw [x3, y3, show k - i = (j - i) + (k - j) by omega, bitsAt_add, show i + (j - i) = j by omega]
theorem rdf_inv {p : List UInt8} {k i : Nat} {e : Int} (h : (rdf p k i e).2.2 = 0) : e = 0 ∧ Seg p i (rdf p k i e).2.1 (bitsN k (rdf p k i e).1) := by
  unfold rdf at h ⊢
  by_cases he : e = 0
  · rw [if_pos he] at h ⊢
    by_cases hl : 8 * p.length < i + k
    · rw [if_pos hl] at h; cases h
    · rw [if_neg hl]
      refine ⟨he, by simp, by simp only; omega, ?_⟩
      have := bitsN_valN (bitsAt p i k)
      rw [bitsAt_length] at this
      simp only [Nat.add_sub_cancel_left]; exact this
  · rw [if_neg he] at h; exact absurd h he
theorem close_inv {p : List UInt8} {i : Nat} {e : Int} (h : closeF p i e = 0) : e = 0 ∧ 8 * p.length - i < 8 ∧ valN (bitsAt p i (8 * p.length - i)) = 0 := by
  unfold closeF at h
  by_cases he : e = 0
  · rw [if_pos he] at h
    by_cases h8 : 8 ≤ 8 * p.length - i
    · rw [if_pos h8] at h; cases h
    · rw [if_neg h8] at h
      by_cases hv : valN (bitsAt p i (8 * p.length - i)) ≠ 0
      · rw [if_pos hv] at h; cases h
      · exact ⟨he, by omega, by simpa using hv⟩
  · rw [if_neg he] at h; exact absurd h he
theorem val_zero (bs : List Bool) (h : valN bs = 0) : ∀ b ∈ bs, b = false := by
  induction bs using Pack.snoc_ind with
  | h0 => simp
  | h1 bs b ih =>
    rw [valN_snoc] at h
    intro c hc
    rcases List.mem_append.1 hc with hc | hc
    · exact ih (by omega) c hc
    · simp only [List.mem_singleton] at hc
      subst hc
      cases c
      · rfl
      · simp at h
theorem pack_seg {p : List UInt8} {i : Nat} {bs : List Bool} (h : Seg p 0 i bs) (hl : 8 * p.length - i < 8) (hz : valN (bitsAt p i (8 * p.length - i)) = 0) : pack bs = p := by
  obtain ⟨_, h2, h3⟩ := h
  have hbl : bs.length = i := by rw [h3, bitsAt_length]; omega
  have hpl : (pack bs).length = p.length := by rw [pack_length, hbl]; omega
  apply bytes_ext _ _ hpl
  intro j hj
  rw [hpl] at hj
  rw [bitAt_pack]
  by_cases hji : j < i
  · rw [h3]; simp [bitsAt, List.getD, hji]
  · have : bitAt p j ∈ bitsAt p i (8 * p.length - i) := by
      simp only [bitsAt, List.mem_map, List.mem_range]
      exact ⟨j - i, by omega, by congr 1; omega⟩
    rw [val_zero _ hz _ this]
    simp [List.getD, List.getElem?_eq_none (show bs.length ≤ j by omega)]
def rdN (p : List UInt8) : Nat → Nat → Int → List (Int × Int) × Nat × Int
  | 0, i, e => ([], i, e)
  | n + 1, i, e => ((((rdf p 9 i e).1 : Int), ((rdf p 4 (rdf p 9 i e).2.1 (rdf p 9 i e).2.2).1 : Int)) :: (rdN p n (rdf p 4 (rdf p 9 i e).2.1 (rdf p 9 i e).2.2).2.1 (rdf p 4 (rdf p 9 i e).2.1 (rdf p 9 i e).2.2).2.2).1, (rdN p n (rdf p 4 (rdf p 9 i e).2.1 (rdf p 9 i e).2.2).2.1 (rdf p 4 (rdf p 9 i e).2.1 (rdf p 9 i e).2.2).2.2).2)
def rdL (cap : Nat) (p : List UInt8) (i : Nat) (e : Int) : List (Int × Int) × Nat × Int := rdN p (min (rdf p 4 i e).1 cap) (rdf p 4 i e).2.1 (rdf p 4 i e).2.2
structure Ms where
  (k : Int) (r : Bool) (n cd ct : Int) (l m : List (Int × Int))
def Ms.zero : Ms := ⟨0, false, 0, 0, 0, [], []⟩
def Ms.chk (x : Ms) : Int := chkF x.k x.r x.n x.cd x.ct x.l x.m
def Ms.bits (x : Ms) : List Bool := msBits x.k x.r x.n x.cd x.ct x.l x.m
def rdM (cap : Nat) (p : List UInt8) : Ms × Nat × Int :=
  let h1 := rdf p 3 0 0
  let h2 := rdf p 1 h1.2.1 h1.2.2
  let h3 := rdf p 8 h2.2.1 h2.2.2
  let h4 := rdf p 2 h3.2.1 h3.2.2
  let h5 := rdf p 10 h4.2.1 h4.2.2
  let h6 := rdL cap p h5.2.1 h5.2.2
  let h7 := rdL cap p h6.2.1 h6.2.2
  (⟨h1.1, decide (h2.1 = 1), h3.1, h4.1, h5.1, h6.1, h7.1⟩, h7.2)
def outA (p : List UInt8) (r : Ms × Nat × Int) : Ms × Int := if closeF p r.2.1 r.2.2 = 0 ∧ r.1.chk = 0 ∧ pack r.1.bits = p then (r.1, 0) else (.zero, 10)
def decA (p : List UInt8) : Ms × Int := outA p (rdM 8 p)
def outB (p : List UInt8) (r : Ms × Nat × Int) : Ms × Int := if closeF p r.2.1 r.2.2 = 0 ∧ r.1.chk = 0 then (r.1, 0) else (.zero, 10)
def decB (p : List UInt8) : Ms × Int := outB p (rdM 16 p)
theorem rdN_back (bs post : List Bool) : ∀ (l : List (Int × Int)) (pre : List Bool) (i : Nat), bs = pre ++ plsBits l ++ post → i = pre.length → PlOk l → rdN (pack bs) l.length i 0 = (l, i + 13 * l.length, 0) := by
  intro l
  induction l with
  | nil => intro pre i _ _ _; rfl
  | cons a l ih =>
    intro pre i hb hi hp
    obtain ⟨x0, x1, y0, y1⟩ := hp a (by simp)
    have hp2 : PlOk l := fun q hq => hp q (by simp [hq])
    have e : plsBits (a :: l) = bitsN 9 a.1.toNat ++ bitsN 4 a.2.toNat ++ plsBits l := by simp [plsBits, plBits]
    have h9 := rdf_back' bs pre (bitsN 4 a.2.toNat ++ plsBits l ++ post) 9 a.1.toNat i (by rw [hb, e]; simp) hi (by omega)
    have h4 := rdf_back' bs (pre ++ bitsN 9 a.1.toNat) (plsBits l ++ post) 4 a.2.toNat (i + 9) (by rw [hb, e]; simp) (by rw [hi]; simp [bitsN_length]) (by omega)
    have hr := ih (pre ++ bitsN 9 a.1.toNat ++ bitsN 4 a.2.toNat) (i + 9 + 4) (by rw [hb, e]; simp) (by rw [hi]; simp [bitsN_length]) hp2
    show rdN (pack bs) (l.length + 1) i 0 = _
    unfold rdN
    rw [h9]
    dsimp only
    rw [h4]
    dsimp only
    rw [hr]
    rw [Int.toNat_of_nonneg x0, Int.toNat_of_nonneg y0]
    simp only [List.length_cons]
    congr 2
    omega
theorem rdL_back (cap : Nat) (hc : 8 ≤ cap) (bs pre post : List Bool) (l : List (Int × Int)) (i : Nat) (hb : bs = pre ++ lsBits l ++ post) (hi : i = pre.length) (hp : PlOk l) (hl : l.length ≤ 8) : rdL cap (pack bs) i 0 = (l, i + (lsBits l).length, 0) := by
  have h4 := rdf_back' bs pre (plsBits l ++ post) 4 l.length i (by rw [hb]; simp [lsBits]) hi (by omega)
  unfold rdL
  rw [h4]
  dsimp only
  rw [Nat.min_eq_left (by omega), rdN_back bs post l (pre ++ bitsN 4 l.length) (i + 4) (by rw [hb]; simp [lsBits]) (by rw [hi]; simp [bitsN_length]) hp, lsBits_length]
  congr 2
  omega
theorem rdM_back (cap : Nat) (hc : 8 ≤ cap) (x : Ms) (h : x.chk = 0) : rdM cap (pack x.bits) = (x, x.bits.length, 0) := by
  obtain ⟨k, r, n, cd, ct, l, m⟩ := x
  have h : chkF k r n cd ct l m = 0 := h
  obtain ⟨hk, hn, hlm, pl, pm, _⟩ := chk_ok h
  have pl := plErr_ok _ _ pl
  have pm := plErr_ok _ _ pm
  have e0 : (Ms.mk k r n cd ct l m).bits = bitsN 3 k.toNat ++ bitsN 1 (if r then 1 else 0) ++ bitsN 8 n.toNat ++ bitsN 2 cd.toNat ++ bitsN 10 ct.toNat ++ lsBits l ++ lsBits m := by
    cases r <;> simp [Ms.bits, msBits, hdBits, bitsN]
  generalize hbs : (Ms.mk k r n cd ct l m).bits = bs at *
  have hr2 : (if r then 1 else 0 : Nat) < 2 ^ 1 := by cases r <;> decide
  have h1 := rdf_back' bs [] (bitsN 1 (if r then 1 else 0) ++ bitsN 8 n.toNat ++ bitsN 2 cd.toNat ++ bitsN 10 ct.toNat ++ lsBits l ++ lsBits m) 3 k.toNat 0 (by rw [e0]; simp) rfl (by omega)
  have h2 := rdf_back' bs (bitsN 3 k.toNat) (bitsN 8 n.toNat ++ bitsN 2 cd.toNat ++ bitsN 10 ct.toNat ++ lsBits l ++ lsBits m) 1 (if r then 1 else 0) 3 (by rw [e0]; simp) (by simp [bitsN_length]) hr2
  have h3 := rdf_back' bs (bitsN 3 k.toNat ++ bitsN 1 (if r then 1 else 0)) (bitsN 2 cd.toNat ++ bitsN 10 ct.toNat ++ lsBits l ++ lsBits m) 8 n.toNat 4 (by rw [e0]; simp) (by simp [bitsN_length]) (by omega)
  have h4 := rdf_back' bs (bitsN 3 k.toNat ++ bitsN 1 (if r then 1 else 0) ++ bitsN 8 n.toNat) (bitsN 10 ct.toNat ++ lsBits l ++ lsBits m) 2 cd.toNat 12 (by rw [e0]; simp) (by simp [bitsN_length]) (by omega)
  have h5 := rdf_back' bs (bitsN 3 k.toNat ++ bitsN 1 (if r then 1 else 0) ++ bitsN 8 n.toNat ++ bitsN 2 cd.toNat) (lsBits l ++ lsBits m) 10 ct.toNat 14 (by rw [e0]; simp) (by simp [bitsN_length]) (by omega)
  have h6 := rdL_back cap hc bs (bitsN 3 k.toNat ++ bitsN 1 (if r then 1 else 0) ++ bitsN 8 n.toNat ++ bitsN 2 cd.toNat ++ bitsN 10 ct.toNat) (lsBits m) l 24 (by rw [e0]) (by simp [bitsN_length]) pl hlm.1
  have h7 := rdL_back cap hc bs (bitsN 3 k.toNat ++ bitsN 1 (if r then 1 else 0) ++ bitsN 8 n.toNat ++ bitsN 2 cd.toNat ++ bitsN 10 ct.toNat ++ lsBits l) [] m (24 + (lsBits l).length) (by rw [e0]; simp) (by simp [bitsN_length]; omega) pm hlm.2
  have hbl : bs.length = 24 + (lsBits l).length + (lsBits m).length := by rw [e0]; simp [bitsN_length]; omega
  unfold rdM
  rw [h1]
  dsimp only
  rw [h2]
  dsimp only
  rw [h3]
  dsimp only
  rw [h4]
  dsimp only
  rw [h5]
  dsimp only
  rw [h6]
  dsimp only
  rw [h7, hbl, Int.toNat_of_nonneg (by omega), Int.toNat_of_nonneg (by omega), Int.toNat_of_nonneg (by omega), Int.toNat_of_nonneg (by omega)]
  cases r <;> rfl
theorem rdN_len (p : List UInt8) : ∀ n i e, (rdN p n i e).1.length = n := by
  intro n
  induction n with
  | zero => intro i e; rfl
  | succ n ih => intro i e; unfold rdN; simp only [List.length_cons, ih]
theorem rdN_inv {p : List UInt8} : ∀ {n i : Nat} {e : Int}, (rdN p n i e).2.2 = 0 → i ≤ 8 * p.length → e = 0 ∧ Seg p i (rdN p n i e).2.1 (plsBits (rdN p n i e).1) := by
  intro n
  induction n with
  | zero =>
    intro i e h hi
    exact ⟨h, Nat.le_refl _, hi, by simp [rdN, plsBits, bitsAt]⟩
  | succ n ih =>
    intro i e h hi
    unfold rdN at h ⊢
    dsimp only at h ⊢
    have b1 := rdf_le p 9 i e hi
    have b2 := rdf_le p 4 (rdf p 9 i e).2.1 (rdf p 9 i e).2.2 b1
    obtain ⟨h3, s3⟩ := ih h b2
    obtain ⟨h2, s2⟩ := rdf_inv h3
    obtain ⟨h1, s1⟩ := rdf_inv h2
    refine ⟨h1, ?_⟩
    have := (s1.trans s2).trans s3
    simpa [plsBits, plBits] using this
theorem rdL_inv {p : List UInt8} {i : Nat} {e : Int} (h : (rdL 16 p i e).2.2 = 0) (hi : i ≤ 8 * p.length) : e = 0 ∧ Seg p i (rdL 16 p i e).2.1 (lsBits (rdL 16 p i e).1) := by
  unfold rdL at h ⊢
  have hv := rdf_lt p 4 i e
  obtain ⟨h2, s2⟩ := rdN_inv h (rdf_le p 4 i e hi)
  obtain ⟨h1, s1⟩ := rdf_inv h2
  refine ⟨h1, ?_⟩
  have := s1.trans s2
  unfold lsBits
  rw [rdN_len, Nat.min_eq_left (by omega)]
  rw [Nat.min_eq_left (by omega)] at this
  exact this
theorem rdN_le {p : List UInt8} : ∀ {n i : Nat} {e : Int}, i ≤ 8 * p.length → (rdN p n i e).2.1 ≤ 8 * p.length := by
  intro n
  induction n with
  | zero => intro i e hi; exact hi
  | succ n ih => intro i e hi; unfold rdN; exact ih (rdf_le _ _ _ _ (rdf_le _ _ _ _ hi))
theorem rdL_le {cap : Nat} {p : List UInt8} {i : Nat} {e : Int} (hi : i ≤ 8 * p.length) : (rdL cap p i e).2.1 ≤ 8 * p.length := rdN_le (rdf_le _ _ _ _ hi)
theorem flag_bits (v : Nat) (h : v < 2 ^ 1) : bitsN 1 v = [decide (v = 1)] := by
  have : v = 0 ∨ v = 1 := by omega
  rcases this with rfl | rfl <;> rfl
theorem rdM_inv {p : List UInt8} (h : (rdM 16 p).2.2 = 0) : Seg p 0 (rdM 16 p).2.1 (rdM 16 p).1.bits := by
  unfold rdM at h ⊢
  dsimp only at h ⊢
  have b1 := rdf_le p 3 0 0 (Nat.zero_le _)
  have b2 := rdf_le p 1 _ (rdf p 3 0 0).2.2 b1
  have b3 := rdf_le p 8 _ (rdf p 1 (rdf p 3 0 0).2.1 (rdf p 3 0 0).2.2).2.2 b2
  have b4 := rdf_le p 2 _ (rdf p 8 (rdf p 1 (rdf p 3 0 0).2.1 (rdf p 3 0 0).2.2).2.1 (rdf p 1 (rdf p 3 0 0).2.1 (rdf p 3 0 0).2.2).2.2).2.2 b3
  have v2 := rdf_lt p 1 (rdf p 3 0 0).2.1 (rdf p 3 0 0).2.2
  obtain ⟨e6, s7⟩ := rdL_inv h (rdL_le (rdf_le _ _ _ _ b4))
  obtain ⟨e5, s6⟩ := rdL_inv e6 (rdf_le _ _ _ _ b4)
  obtain ⟨e4, s5⟩ := rdf_inv e5
  obtain ⟨e3, s4⟩ := rdf_inv e4
  obtain ⟨e2, s3⟩ := rdf_inv e3
  obtain ⟨e1, s2⟩ := rdf_inv e2
  obtain ⟨_, s1⟩ := rdf_inv e1
  have := (((((s1.trans s2).trans s3).trans s4).trans s5).trans s6).trans s7
  rw [flag_bits _ v2] at this
  simp only [Ms.bits, msBits, hdBits, Int.toNat_natCast]
  exact this
theorem decA_inv {p : List UInt8} {x : Ms} {e : Int} (h : decA p = (x, e)) : (e = 0 ∧ x.chk = 0 ∧ pack x.bits = p) ∨ (e = 10 ∧ x = .zero) := by
  unfold decA outA at h
  split at h
  · rename_i hc
    obtain ⟨rfl, rfl⟩ := Prod.mk.inj h
    exact .inl ⟨rfl, hc.2⟩
  · obtain ⟨rfl, rfl⟩ := Prod.mk.inj h
    exact .inr ⟨rfl, rfl⟩
theorem decA_back (x : Ms) (h : x.chk = 0) : decA (pack x.bits) = (x, 0) := by
  unfold decA
  rw [rdM_back 8 (by omega) x h]
  unfold outA
  dsimp only
  rw [if_pos ⟨close_back _, h, rfl⟩]
theorem decB_back (x : Ms) (h : x.chk = 0) : decB (pack x.bits) = (x, 0) := by
  unfold decB
  rw [rdM_back 16 (by omega) x h]
  unfold outB
  dsimp only
  rw [if_pos ⟨close_back _, h⟩]
theorem dec_eq (p : List UInt8) : decA p = decB p := by
  by_cases hB : closeF p (rdM 16 p).2.1 (rdM 16 p).2.2 = 0 ∧ (rdM 16 p).1.chk = 0
  · obtain ⟨h1, h2, h3⟩ := close_inv hB.1
    have hp : pack (rdM 16 p).1.bits = p := pack_seg (rdM_inv h1) h2 h3
    have a := decA_back _ hB.2
    have b := decB_back _ hB.2
    rw [hp] at a b
    rw [a, b]
  · by_cases hA : closeF p (rdM 8 p).2.1 (rdM 8 p).2.2 = 0 ∧ (rdM 8 p).1.chk = 0 ∧ pack (rdM 8 p).1.bits = p
    · have a := decA_back _ hA.2.1
      have b := decB_back _ hA.2.1
      rw [hA.2.2] at a b
      rw [a, b]
    · unfold decA decB outA outB
      rw [if_neg hA, if_neg hB]
theorem bitAt_app (p q : List UInt8) (j : Nat) (h : j < 8 * p.length) : bitAt (p ++ q) j = bitAt p j := by
  unfold bitAt
  have : j / 8 < p.length := by omega
  simp [List.getD, List.getElem?_append_left this]
theorem rdf_mono {p : List UInt8} (q : List UInt8) {k i : Nat} {e : Int} (h : (rdf p k i e).2.2 = 0) : rdf (p ++ q) k i e = rdf p k i e := by
  unfold rdf at h ⊢
  by_cases he : e = 0
  · rw [if_pos he] at h ⊢
    rw [if_pos he]
    by_cases hl : 8 * p.length < i + k
    · rw [if_pos hl] at h; cases h
    · rw [if_neg hl, if_neg (by rw [List.length_append]; omega)]
      have : bitsAt (p ++ q) i k = bitsAt p i k := by
        unfold bitsAt
        apply List.map_congr_left
        intro j hj
        exact bitAt_app p q _ (by have := List.mem_range.1 hj; omega)
      rw [this]
  · rw [if_neg he] at h; exact absurd h he
theorem rdN_e {p : List UInt8} : ∀ {n i : Nat} {e : Int}, (rdN p n i e).2.2 = 0 → e = 0 := by
  intro n
  induction n with
  | zero => intro i e h; exact h
  | succ n ih => intro i e h; unfold rdN at h; exact (rdf_inv (rdf_inv (ih h)).1).1
theorem rdN_mono {p : List UInt8} (q : List UInt8) : ∀ {n i : Nat} {e : Int}, (rdN p n i e).2.2 = 0 → rdN (p ++ q) n i e = rdN p n i e := by
  intro n
  induction n with
  | zero => intro i e _; rfl
  | succ n ih =>
    intro i e h
    unfold rdN at h ⊢
    dsimp only at h ⊢
    have h2 := rdN_e h
    have h1 := (rdf_inv h2).1
    rw [rdf_mono q h1, rdf_mono q h2, ih h]
theorem rdL_mono {cap : Nat} {p : List UInt8} (q : List UInt8) {i : Nat} {e : Int} (h : (rdL cap p i e).2.2 = 0) : rdL cap (p ++ q) i e = rdL cap p i e := by
  unfold rdL at h ⊢
  rw [rdf_mono q (rdN_e h), rdN_mono q h]
theorem rdL_e {cap : Nat} {p : List UInt8} {i : Nat} {e : Int} (h : (rdL cap p i e).2.2 = 0) : e = 0 := (rdf_inv (rdN_e h)).1
theorem rdM_mono {cap : Nat} {p : List UInt8} (q : List UInt8) (h : (rdM cap p).2.2 = 0) : rdM cap (p ++ q) = rdM cap p := by
  unfold rdM at h ⊢
  dsimp only at h ⊢
  have e6 := rdL_e h
  have e5 := rdL_e e6
  have e4 := (rdf_inv e5).1
  have e3 := (rdf_inv e4).1
  have e2 := (rdf_inv e3).1
  have e1 := (rdf_inv e2).1
  rw [rdf_mono q e1, rdf_mono q e2, rdf_mono q e3, rdf_mono q e4, rdf_mono q e5, rdL_mono q e6, rdL_mono q h]
theorem dec_mono {p q : List UInt8} {x y : Ms} (hx : x.chk = 0) (hy : y.chk = 0) (hp : pack x.bits = p) (hq : pack y.bits = p ++ q) : x = y ∧ q = [] := by
  have a := rdM_back 16 (by omega) x hx
  have b := rdM_back 16 (by omega) y hy
  rw [hp] at a
  rw [hq, rdM_mono q (by rw [a]), a] at b
  obtain rfl : x = y := (Prod.mk.inj b).1
  refine ⟨rfl, ?_⟩
  rw [hp] at hq
  simpa using hq
end Go.Proofs.Ytjjcgjpmhhkeaaa.CmBk
