/- Messages: reading what was written, and writing what was read: plain. (cut to what is reached: wip/tools/slimout2.py) -/
import Derived.Test.YtjjcgjpmhhkeaaaSKCmK
import Derived.Test.YtjjcgjpmhhkeaaaSKRdC
namespace Go.Proofs.Ytjjcgjpmhhkeaaa.CmBk
set_option linter.unusedSimpArgs false
set_option linter.unusedVariables false
open Go.Proofs.Ytjjcgjpmhhkeaaa.Pack Go.Proofs.Ytjjcgjpmhhkeaaa.Rd Go.Proofs.Ytjjcgjpmhhkeaaa.RdC Go.Proofs.Ytjjcgjpmhhkeaaa.CmH Go.Proofs.Ytjjcgjpmhhkeaaa.CmS Go.Proofs.Ytjjcgjpmhhkeaaa.CmP Go.Proofs.Ytjjcgjpmhhkeaaa.CmK
theorem bitsAt_pack (bs : List Bool) (i k : Nat) (h : i + k ≤ bs.length) : bitsAt (pack bs) i k = (bs.drop i).take k := by
  apply List.ext_getElem
  · simp [bitsAt]; omega
  · intro j h1 h2
    simp [bitsAt] at h1
    simp [bitsAt, bitAt_pack, List.getD, List.getElem?_eq_getElem (show i + j < bs.length by omega)]
theorem pack_room (bs : List Bool) : bs.length ≤ 8 * (pack bs).length := by rw [pack_length]; omega
theorem rdf_back (pre post : List Bool) (k n : Nat) (hn : n < 2 ^ k) : rdf (pack (pre ++ bitsN k n ++ post)) k pre.length 0 = (n, pre.length + k, 0) := by
  have hl : pre.length + k ≤ (pre ++ bitsN k n ++ post).length := by simp [bitsN_length]
  have hr := pack_room (pre ++ bitsN k n ++ post)
  unfold rdf
  rw [if_pos rfl, if_neg (by omega), bitsAt_pack _ _ _ hl]
  have : ((pre ++ bitsN k n ++ post).drop pre.length).take k = bitsN k n := by
    rw [List.append_assoc, List.drop_left, List.take_left' (by rw [bitsN_length])]
  rw [this, valN_bitsN _ _ hn]
theorem rdf_back' (bs pre post : List Bool) (k n i : Nat) (hb : bs = pre ++ bitsN k n ++ post) (hi : i = pre.length) (hn : n < 2 ^ k) : rdf (pack bs) k i 0 = (n, i + k, 0) := by
  subst hb hi; exact rdf_back pre post k n hn
theorem val_false (bs : List Bool) (h : ∀ b ∈ bs, b = false) : valN bs = 0 := by
  induction bs using Pack.snoc_ind with
  | h0 => rfl
  | h1 bs b ih =>
    rw [valN_snoc, ih (fun c hc => h c (by simp [hc])), h b (by simp)]; simp
theorem close_back (bs : List Bool) : closeF (pack bs) bs.length 0 = 0 := by
  unfold closeF
  have hl : 8 * (pack bs).length - bs.length < 8 := by rw [pack_length]; omega
  rw [if_pos rfl, if_neg (by omega), if_neg ?_]
  rw [Classical.not_not]
  apply val_false
  intro b hb
  simp only [bitsAt, List.mem_map, List.mem_range] at hb
  obtain ⟨j, _, rfl⟩ := hb
  rw [bitAt_pack]
  simp [List.getD, List.getElem?_eq_none]
theorem bitsAt_add (p : List UInt8) (i a b : Nat) : bitsAt p i (a + b) = bitsAt p i a ++ bitsAt p (i + a) b := by
  induction b with
  | zero => simp [bitsAt]
  | succ b ih => rw [← Nat.add_assoc, bitsAt_succ, ih, bitsAt_succ, List.append_assoc, Nat.add_assoc]
def Seg (p : List UInt8) (i j : Nat) (bs : List Bool) : Prop := i ≤ j ∧ j ≤ 8 * p.length ∧ bs = bitsAt p i (j - i)
theorem Seg.trans {p : List UInt8} {i j k : Nat} {a b : List Bool} (h : Seg p i j a) (h2 : Seg p j k b) : Seg p i k (a ++ b) := by
  obtain ⟨x1, x2, x3⟩ := h
  obtain ⟨y1, y2, y3⟩ := h2
  refine ⟨by omega, y2, ?_⟩
  rw [x3, y3, show k - i = (j - i) + (k - j) by omega, bitsAt_add, show i + (j - i) = j by omega]
def rdN (p : List UInt8) : Nat → Nat → Int → List (Int × Int) × Nat × Int
  | 0, i, e => ([], i, e)
  | n + 1, i, e => ((((rdf p 9 i e).1 : Int), ((rdf p 4 (rdf p 9 i e).2.1 (rdf p 9 i e).2.2).1 : Int)) :: (rdN p n (rdf p 4 (rdf p 9 i e).2.1 (rdf p 9 i e).2.2).2.1 (rdf p 4 (rdf p 9 i e).2.1 (rdf p 9 i e).2.2).2.2).1, (rdN p n (rdf p 4 (rdf p 9 i e).2.1 (rdf p 9 i e).2.2).2.1 (rdf p 4 (rdf p 9 i e).2.1 (rdf p 9 i e).2.2).2.2).2)
def rdL (cap : Nat) (p : List UInt8) (i : Nat) (e : Int) : List (Int × Int) × Nat × Int := rdN p (min (rdf p 4 i e).1 cap) (rdf p 4 i e).2.1 (rdf p 4 i e).2.2
structure Ms where
  (k : Int) (r : Bool) (n cd ct : Int) (l m : List (Int × Int))
def Ms.zero : Ms := ⟨0, false, 0, 0, 0, [], []⟩
def Ms.chk (x : Ms) : Int := chkF x.k x.r x.n x.cd x.ct x.l x.m
def Ms.bits (x : Ms) : List Bool := msBits x.k x.r x.n x.cd x.ct x.l x.m
def rdM (cap : Nat) (p : List UInt8) : Ms × Nat × Int :=
  let h1 := rdf p 3 0 0
  let h2 := rdf p 1 h1.2.1 h1.2.2
  let h3 := rdf p 8 h2.2.1 h2.2.2
  let h4 := rdf p 2 h3.2.1 h3.2.2
  let h5 := rdf p 10 h4.2.1 h4.2.2
  let h6 := rdL cap p h5.2.1 h5.2.2
  let h7 := rdL cap p h6.2.1 h6.2.2
  (⟨h1.1, decide (h2.1 = 1), h3.1, h4.1, h5.1, h6.1, h7.1⟩, h7.2)
def outA (p : List UInt8) (r : Ms × Nat × Int) : Ms × Int := if closeF p r.2.1 r.2.2 = 0 ∧ r.1.chk = 0 ∧ pack r.1.bits = p then (r.1, 0) else (.zero, 10)
def decA (p : List UInt8) : Ms × Int := outA p (rdM 8 p)
theorem rdN_back (bs post : List Bool) : ∀ (l : List (Int × Int)) (pre : List Bool) (i : Nat), bs = pre ++ plsBits l ++ post → i = pre.length → PlOk l → rdN (pack bs) l.length i 0 = (l, i + 13 * l.length, 0) := by
  intro l
  induction l with
  | nil => intro pre i _ _ _; rfl
  | cons a l ih =>
    intro pre i hb hi hp
    obtain ⟨x0, x1, y0, y1⟩ := hp a (by simp)
    have hp2 : PlOk l := fun q hq => hp q (by simp [hq])
    have e : plsBits (a :: l) = bitsN 9 a.1.toNat ++ bitsN 4 a.2.toNat ++ plsBits l := by simp [plsBits, plBits]
    have h9 := rdf_back' bs pre (bitsN 4 a.2.toNat ++ plsBits l ++ post) 9 a.1.toNat i (by rw [hb, e]; simp) hi (by omega)
    have h4 := rdf_back' bs (pre ++ bitsN 9 a.1.toNat) (plsBits l ++ post) 4 a.2.toNat (i + 9) (by rw [hb, e]; simp) (by rw [hi]; simp [bitsN_length]) (by omega)
    have hr := ih (pre ++ bitsN 9 a.1.toNat ++ bitsN 4 a.2.toNat) (i + 9 + 4) (by rw [hb, e]; simp) (by rw [hi]; simp [bitsN_length]) hp2
    show rdN (pack bs) (l.length + 1) i 0 = _
    unfold rdN
    rw [h9]
    dsimp only
    rw [h4]
    dsimp only
    rw [hr]
    rw [Int.toNat_of_nonneg x0, Int.toNat_of_nonneg y0]
    simp only [List.length_cons]
    congr 2
    omega
theorem rdL_back (cap : Nat) (hc : 8 ≤ cap) (bs pre post : List Bool) (l : List (Int × Int)) (i : Nat) (hb : bs = pre ++ lsBits l ++ post) (hi : i = pre.length) (hp : PlOk l) (hl : l.length ≤ 8) : rdL cap (pack bs) i 0 = (l, i + (lsBits l).length, 0) := by
  have h4 := rdf_back' bs pre (plsBits l ++ post) 4 l.length i (by rw [hb]; simp [lsBits]) hi (by omega)
  unfold rdL
  rw [h4]
  dsimp only
  rw [Nat.min_eq_left (by omega), rdN_back bs post l (pre ++ bitsN 4 l.length) (i + 4) (by rw [hb]; simp [lsBits]) (by rw [hi]; simp [bitsN_length]) hp, lsBits_length]
  congr 2
  omega
theorem rdM_back (cap : Nat) (hc : 8 ≤ cap) (x : Ms) (h : x.chk = 0) : rdM cap (pack x.bits) = (x, x.bits.length, 0) := by
  obtain ⟨k, r, n, cd, ct, l, m⟩ := x
  have h : chkF k r n cd ct l m = 0 := h
  obtain ⟨hk, hn, hlm, pl, pm, _⟩ := chk_ok h
  have pl := plErr_ok _ _ pl
  have pm := plErr_ok _ _ pm
  have e0 : (Ms.mk k r n cd ct l m).bits = bitsN 3 k.toNat ++ bitsN 1 (if r then 1 else 0) ++ bitsN 8 n.toNat ++ bitsN 2 cd.toNat ++ bitsN 10 ct.toNat ++ lsBits l ++ lsBits m := by
    cases r <;> simp [Ms.bits, msBits, hdBits, bitsN]
  generalize hbs : (Ms.mk k r n cd ct l m).bits = bs at *
  have hr2 : (if r then 1 else 0 : Nat) < 2 ^ 1 := by cases r <;> decide
  have h1 := rdf_back' bs [] (bitsN 1 (if r then 1 else 0) ++ bitsN 8 n.toNat ++ bitsN 2 cd.toNat ++ bitsN 10 ct.toNat ++ lsBits l ++ lsBits m) 3 k.toNat 0 (by rw [e0]; simp) rfl (by omega)
  have h2 := rdf_back' bs (bitsN 3 k.toNat) (bitsN 8 n.toNat ++ bitsN 2 cd.toNat ++ bitsN 10 ct.toNat ++ lsBits l ++ lsBits m) 1 (if r then 1 else 0) 3 (by rw [e0]; simp) (by simp [bitsN_length]) hr2
  have h3 := rdf_back' bs (bitsN 3 k.toNat ++ bitsN 1 (if r then 1 else 0)) (bitsN 2 cd.toNat ++ bitsN 10 ct.toNat ++ lsBits l ++ lsBits m) 8 n.toNat 4 (by rw [e0]; simp) (by simp [bitsN_length]) (by omega)
  have h4 := rdf_back' bs (bitsN 3 k.toNat ++ bitsN 1 (if r then 1 else 0) ++ bitsN 8 n.toNat) (bitsN 10 ct.toNat ++ lsBits l ++ lsBits m) 2 cd.toNat 12 (by rw [e0]; simp) (by simp [bitsN_length]) (by omega)
  have h5 := rdf_back' bs (bitsN 3 k.toNat ++ bitsN 1 (if r then 1 else 0) ++ bitsN 8 n.toNat ++ bitsN 2 cd.toNat) (lsBits l ++ lsBits m) 10 ct.toNat 14 (by rw [e0]; simp) (by simp [bitsN_length]) (by omega)
  have h6 := rdL_back cap hc bs (bitsN 3 k.toNat ++ bitsN 1 (if r then 1 else 0) ++ bitsN 8 n.toNat ++ bitsN 2 cd.toNat ++ bitsN 10 ct.toNat) (lsBits m) l 24 (by rw [e0]) (by simp [bitsN_length]) pl hlm.1
  have h7 := rdL_back cap hc bs (bitsN 3 k.toNat ++ bitsN 1 (if r then 1 else 0) ++ bitsN 8 n.toNat ++ bitsN 2 cd.toNat ++ bitsN 10 ct.toNat ++ lsBits l) [] m (24 + (lsBits l).length) (by rw [e0]; simp) (by simp [bitsN_length]; omega) pm hlm.2
  have hbl : bs.length = 24 + (lsBits l).length + (lsBits m).length := by rw [e0]; simp [bitsN_length]; omega
  unfold rdM
  rw [h1]
  dsimp only
  rw [h2]
  dsimp only
  rw [h3]
  dsimp only
  rw [h4]
  dsimp only
  rw [h5]
  dsimp only
  rw [h6]
  dsimp only
  rw [h7, hbl, Int.toNat_of_nonneg (by omega), Int.toNat_of_nonneg (by omega), Int.toNat_of_nonneg (by omega), Int.toNat_of_nonneg (by omega)]
  cases r <;> rfl
theorem rdN_le {p : List UInt8} : ∀ {n i : Nat} {e : Int}, i ≤ 8 * p.length → (rdN p n i e).2.1 ≤ 8 * p.length := by
  intro n
  induction n with
  | zero => intro i e hi; exact hi
  | succ n ih => intro i e hi; unfold rdN; exact ih (rdf_le _ _ _ _ (rdf_le _ _ _ _ hi))
theorem rdL_le {cap : Nat} {p : List UInt8} {i : Nat} {e : Int} (hi : i ≤ 8 * p.length) : (rdL cap p i e).2.1 ≤ 8 * p.length := rdN_le (rdf_le _ _ _ _ hi)
theorem decA_inv {p : List UInt8} {x : Ms} {e : Int} (h : decA p = (x, e)) : (e = 0 ∧ x.chk = 0 ∧ pack x.bits = p) ∨ (e = 10 ∧ x = .zero) := by
  unfold decA outA at h
  split at h
  · rename_i hc
    obtain ⟨rfl, rfl⟩ := Prod.mk.inj h
    exact .inl ⟨rfl, hc.2⟩
  · obtain ⟨rfl, rfl⟩ := Prod.mk.inj h
    exact .inr ⟨rfl, rfl⟩
theorem decA_back (x : Ms) (h : x.chk = 0) : decA (pack x.bits) = (x, 0) := by
  unfold decA
  rw [rdM_back 8 (by omega) x h]
  unfold outA
  dsimp only
  rw [if_pos ⟨close_back _, h, rfl⟩]
end Go.Proofs.Ytjjcgjpmhhkeaaa.CmBk
