/- hopmeshref25.write and hopmeshref25.Encode. (cut to what is reached: wip/tools/slimout2.py) -/
import Derived.Test.YtjjcgjpmhhkeaaaSBCmK
import Derived.Test.YtjjcgjpmhhkeaaaSBWfBytes
import Derived.LoopTactic
namespace Go.Proofs.Ytjjcgjpmhhkeaaa.CmW
set_option linter.unusedSimpArgs false
set_option linter.unusedVariables false
open Go.RowKit Go.Proofs.Ytjjcgjpmhhkeaaa.Pack Go.Proofs.Ytjjcgjpmhhkeaaa.CmF Go.Proofs.Ytjjcgjpmhhkeaaa.CmS Go.Proofs.Ytjjcgjpmhhkeaaa.CmP Go.Proofs.Ytjjcgjpmhhkeaaa.CmK Go.Proofs.Ytjjcgjpmhhkeaaa.Wf Go.Proofs.Ytjjcgjpmhhkeaaa.WfPut Go.Proofs.Ytjjcgjpmhhkeaaa.WfAll Go.Proofs.Ytjjcgjpmhhkeaaa.WfBytes Go.Proofs.YtjjcgjpmhhkeaaaW.PrintWords
open Go.Proofs.Ytjjcgjpmhhkeaaa.Wr (T8)
open Go.Proofs.Ytjjcgjpmhhkeaaa.Bytes (Str)
theorem unf {B g : Nat} {G : List (Nat × Obj)} {w : World} {bs : List Bool} (h : Wf B G w g bs) (k : Nat) (kI : Int) (hk : (k : Int) = kI) (hk1 : 1 ≤ k) (hk2 : k ≤ 30) (n : Int) (h0 : 0 ≤ n) (h1 : n < 2 ^ k) (hn : bs.length + k ≤ 500000) :
    Calls Try.prog 36 #[.pointer (some ⟨g, 0, none⟩), .int .i64 kI, .int .i64 n] w fun e w' => e = .returned (.tuple #[]) ∧ Wf B G w' g (bs ++ bitsN k n.toNat) ∧ Below B w w' := by
  subst hk
  have hp : (2 : Nat) ^ k ≤ 2 ^ 30 := Nat.pow_le_pow_right (by decide) hk2
  have hz : ((2 ^ k : Nat) : Int) = 2 ^ k := by simp
  exact unsigned_f h k hk1 (by omega) n h0 (by omega) (by omega) (by omega)
set_option maxRecDepth 100000 in
set_option maxHeartbeats 8000000 in
theorem write_f {w0 : World} {g : Nat} {G : List (Nat × Obj)} {w : World} {bs : List Bool} (h : Wf w0.heap.size G w g bs) (l : List (Int × Int)) (A : Option Addr) (c : Nat) (hsp : Sp w0 A l) (hb : Below w0.heap.size w0 w) (hl : l.length ≤ 8) (pl : PlOk l) (hn : bs.length ≤ 400) :
    Calls Try.prog 38 #[.pointer (some ⟨g, 0, none⟩), .slice A l.length c] w fun e w' => e = .returned (.tuple #[]) ∧ Wf w0.heap.size G w' g (bs ++ lsBits l) ∧ Below w0.heap.size w0 w' := by
  have H := Lib.hid h
  have HB := Lib.hid hb
  have HL := Lib.hid hsp
  have PL := Lib.hid pl
  clear h hb hsp pl
  go_enter Try.func38, Try.ntmps38
  go_wp2_with fail
  ((with_reducible refine (unf H.out 4 4 rfl (by omega) (by omega) (l.length : Int) (by omega) (by omega) (by omega)).mono ?_); rintro x w2 ⟨rfl, h3, b3⟩)
  rw [Int.toNat_natCast] at h3
  have H2 := Lib.hid h3
  have HB2 := Lib.hid (HB.out.trans b3)
  clear h3 b3 H HB
  go_wp2_with fail
  go_loopw [4] (fun j wr => ∃ i : Nat, i ≤ l.length ∧ j = .int .i64 i ∧ Hid (Wf w0.heap.size G wr g (bs ++ bitsN 4 l.length ++ plsBits (l.take i))) ∧ Hid (Below w0.heap.size w0 wr)) (fun j _ => l.length - (intOf j).toNat)
  case atStart => exact ⟨0, Nat.zero_le _, rfl, by rw [List.take_zero, show plsBits [] = [] from rfl, List.append_nil]; exact H2, HB2⟩
  case round =>
    clear H2 HB2
    obtain ⟨i, hi, rfl, H, HB⟩ := hrel
    by_cases hlt : i < l.length
    · obtain ⟨ad, rfl, x0, x1⟩ := (HL.out.below HB.out).at_ i hlt
      have hpl := PL.out (l.getD i (0, 0)) (by simp [List.getD, hlt])
      have HTK : Hid (plsBits (l.take (i + 1)) = plsBits (l.take i) ++ plBits (l.getD i (0, 0))) := Lib.hid (by
        rw [List.take_succ_eq_append_getElem hlt, plsBits_snoc]; simp [List.getD, hlt])
      have hpn : (plsBits (l.take i)).length ≤ 104 := by rw [plsBits_length, List.length_take]; omega
      generalize hp0 : l.getD i (0, 0) = p at *
      generalize plsBits (l.take i) = bi at *
      obtain ⟨p1, p2⟩ := p
      simp only at x0 x1 hpl
      have HX := Lib.hid hp0
      clear hp0
      go_wp2_with fail
      ((with_reducible refine (unf H.out 9 9 rfl (by omega) (by omega) p1 (by omega) (by omega) (by simp only [List.length_append, bitsN_length]; omega)).mono ?_); rintro x w10 ⟨rfl, h3, b3⟩)
      have Ha := Lib.hid h3
      have HBa := Lib.hid (HB.out.trans b3)
      clear h3 b3 H HB x0 x1
      have x1 : w10.cell? ⟨(ad.add (i * 2)).block, (ad.add (i * 2)).off + 1, none⟩ = some (.int .i64 p2) := by
        obtain ⟨ad', e, _, y1⟩ := (HL.out.below HBa.out).at_ i hlt
        cases e
        rw [HX.out] at y1
        exact y1
      go_wp2_with fail
      ((with_reducible refine (unf Ha.out 4 4 rfl (by omega) (by omega) p2 (by omega) (by omega) (by simp only [List.length_append, bitsN_length]; omega)).mono ?_); rintro x w11 ⟨rfl, h3, b3⟩)
      have Hb := Lib.hid h3
      have HBb := Lib.hid (HBa.out.trans b3)
      clear h3 b3 Ha HBa x1
      go_wp2_with fail
      go_roundw
      case rel => exact ⟨i + 1, by omega, by go_num, by rw [HTK.out]; refine Lib.hid ?_; have := Hb.out; unfold plBits; simpa only [List.append_assoc] using this, HBb⟩
      case measure => simp [intOf]; omega
    · obtain rfl : i = l.length := by omega
      have Hz : Hid (Wf w0.heap.size G wr g (bs ++ lsBits l)) := by
        have := H.out
        rw [List.take_length, List.append_assoc] at this
        exact Lib.hid this
      clear H
      go_wp2
      go_end0
      exact ⟨rfl, Hz.out, HB.out⟩
theorem m_not8 (cs : Array Value) : ¬ T8 (.cells cs TMs) := by rintro ⟨cur, e⟩; injection e with _ e; exact absurd e (by decide)
theorem guest_c {B g gf j : Nat} {G : List (Nat × Obj)} {w : World} {bs : List Bool} {cs : Array Value} {t : TypeId} {v : Value} (h : Wf B G w g bs) (hG : (gf, .cells cs t) ∈ G) (hj : cs[j]? = some v) : w.cell? ⟨gf, j, none⟩ = some v := by
  rw [cell_of_row _ _ _ _ _ _ (WfL.guest h hG)]; exact hj
theorem addG {B g gf : Nat} {G : List (Nat × Obj)} {w : World} {bs : List Bool} {o : Obj} (h : Wf B G w g bs) (ho : w.heap[gf]? = some o) (hne : gf ≠ g) (h8 : ¬ T8 o) : Wf B ((gf, o) :: G) w g bs := by
  refine ⟨h.1, h.2.1, fun p hp => ?_⟩
  rcases List.mem_cons.1 hp with rfl | hp
  · exact ⟨ho, hne, h8⟩
  · exact h.2.2 p hp
set_option maxRecDepth 100000 in
set_option maxHeartbeats 4000000 in
theorem renc_bad (k : Int) (r : Bool) (n cd ct : Int) (A : Option Addr) (c : Nat) (A' : Option Addr) (c' : Nat) (l m : List (Int × Int)) (e : Int) (he : e ≠ 0) (hk : chkF k r n cd ct l m = e) (w : World) (hl : Sp w A l) (hc : l.length ≤ c) (hm : Sp w A' m) (hc' : m.length ≤ c') :
    Calls Try.prog 16 #[.agg (ms k r n cd ct A l.length c A' m.length c')] w fun x w' => x = .returned (.tuple #[.string (Str []), .int .i64 e]) ∧ Below w.heap.size w w' := by
  have he2 : (e == 0) = false := by simpa using he
  have he3 : (e != 0) = true := by simpa using he
  have hb0 : Below w.heap.size w (w.alloc (.cells (ms k r n cd ct A l.length c A' m.length c') TMs)) := (Below.refl _ _).alloc (Nat.le_refl _) _
  have HC := Lib.hid (rcheck_any k r n cd ct A c A' c' l m _ (hl.below hb0) hc (hm.below hb0) hc')
  rw [hk] at HC
  have HB0 := Lib.hid hb0
  clear hk hb0 he hl hm hc hc'
  go_enter Try.func16, Try.ntmps16
  go_wp2_with fail
  ((with_reducible refine HC.out.mono ?_); rintro x w1 ⟨rfl, hb⟩)
  have HB1 := Lib.hid (HB0.out.trans (hb.mono (by simp)))
  clear hb
  go_wp2_with fail
  go_ret2
  exact ⟨rfl, HB1.out⟩
set_option maxRecDepth 100000 in
set_option maxHeartbeats 8000000 in
theorem renc_ok (k : Int) (r : Bool) (n cd ct : Int) (A : Option Addr) (c : Nat) (A' : Option Addr) (c' : Nat) (l m : List (Int × Int)) (hk : chkF k r n cd ct l m = 0) (w : World) (hl : Sp w A l) (hc : l.length ≤ c) (hm : Sp w A' m) (hc' : m.length ≤ c')
    (k0 : 0 ≤ k) (k1 : k ≤ 6) (n0 : 0 ≤ n) (n1 : n ≤ 255) (d0 : 0 ≤ cd) (d1 : cd ≤ 3) (t0 : 0 ≤ ct) (t1 : ct ≤ 512) (hll : l.length ≤ 8) (hml : m.length ≤ 8) (pl : PlOk l) (pm : PlOk m) :
    Calls Try.prog 16 #[.agg (ms k r n cd ct A l.length c A' m.length c')] w fun x w' => x = .returned (.tuple #[.string (Str (pack (msBits k r n cd ct l m))), .int .i64 0]) ∧ Below w.heap.size w w' := by
  have hb0 : Below w.heap.size w (w.alloc (.cells (ms k r n cd ct A l.length c A' m.length c') TMs)) := (Below.refl _ _).alloc (Nat.le_refl _) _
  have HC := Lib.hid (rcheck_any k r n cd ct A c A' c' l m _ (hl.below hb0) hc (hm.below hb0) hc')
  rw [hk] at HC
  have HB0 := Lib.hid hb0
  have HL := Lib.hid hl
  have HM := Lib.hid hm
  have PL := Lib.hid pl
  have PM := Lib.hid pm
  clear hk hb0 hl hm hc hc' pl pm
  go_enter Try.func16, Try.ntmps16
  go_wp2_with fail
  ((with_reducible refine HC.out.mono ?_); rintro x w1 ⟨rfl, hb⟩)
  have HB1 := Lib.hid (HB0.out.trans (hb.mono (by simp)))
  have hw1 : w1.heap[w.heap.size]? = some (.cells (ms k r n cd ct A l.length c A' m.length c') TMs) := by rw [hb.block _ (by simp)]; exact heap_alloc_new _ _
  have HW1 := Lib.hid hw1
  have hlt : w.heap.size < w1.heap.size := (Array.getElem?_eq_some_iff.1 hw1).1
  clear hb hw1 HC HB0
  go_wp2_with fail
  ((with_reducible refine (new_f (B := w.heap.size) w1 (by omega)).mono ?_); rintro x w2 ⟨rfl, h2, b2⟩)
  have HW := Lib.hid (addG h2 (by rw [b2.block _ hlt]; exact HW1.out) (by omega) (m_not8 _))
  have HBB := Lib.hid (HB1.out.trans (b2.mono HB1.out.size))
  clear h2 b2 HB1 HW1
  generalize w1.heap.size = g at *
  clear hlt
  have q0 := guest_c (j := 0) HW.out (.head _) rfl
  go_wp2_with fail
  ((with_reducible refine (unf HW.out 3 3 rfl (by omega) (by omega) k k0 (by omega) (by simp only [List.length_append, List.length_nil, List.length_singleton, bitsN_length]; omega)).mono ?_); rintro x w3 ⟨rfl, h3, b3⟩)
  have HW' := Lib.hid h3
  have HBB' := Lib.hid (HBB.out.trans b3)
  clear h3 b3 q0 HW HBB
  have HW := HW'
  have HBB := HBB'
  clear HW' HBB'
  have q1 := guest_c (j := 1) HW.out (.head _) rfl
  go_wp2_with fail
  ((with_reducible refine (flag_f HW.out r (by simp only [List.length_append, List.length_nil, List.length_singleton, bitsN_length]; omega)).mono ?_); rintro x w4 ⟨rfl, h3, b3⟩)
  have HW' := Lib.hid h3
  have HBB' := Lib.hid (HBB.out.trans b3)
  clear h3 b3 q1 HW HBB
  have HW := HW'
  have HBB := HBB'
  clear HW' HBB'
  have q2 := guest_c (j := 2) HW.out (.head _) rfl
  go_wp2_with fail
  ((with_reducible refine (unf HW.out 8 8 rfl (by omega) (by omega) n n0 (by omega) (by simp only [List.length_append, List.length_nil, List.length_singleton, bitsN_length]; omega)).mono ?_); rintro x w5 ⟨rfl, h3, b3⟩)
  have HW' := Lib.hid h3
  have HBB' := Lib.hid (HBB.out.trans b3)
  clear h3 b3 q2 HW HBB
  have HW := HW'
  have HBB := HBB'
  clear HW' HBB'
  have q3 := guest_c (j := 3) HW.out (.head _) rfl
  go_wp2_with fail
  ((with_reducible refine (unf HW.out 2 2 rfl (by omega) (by omega) cd d0 (by omega) (by simp only [List.length_append, List.length_nil, List.length_singleton, bitsN_length]; omega)).mono ?_); rintro x w6 ⟨rfl, h3, b3⟩)
  have HW' := Lib.hid h3
  have HBB' := Lib.hid (HBB.out.trans b3)
  clear h3 b3 q3 HW HBB
  have HW := HW'
  have HBB := HBB'
  clear HW' HBB'
  have q4 := guest_c (j := 4) HW.out (.head _) rfl
  go_wp2_with fail
  ((with_reducible refine (unf HW.out 10 10 rfl (by omega) (by omega) ct t0 (by omega) (by simp only [List.length_append, List.length_nil, List.length_singleton, bitsN_length]; omega)).mono ?_); rintro x w7 ⟨rfl, h3, b3⟩)
  have HW' := Lib.hid h3
  have HBB' := Lib.hid (HBB.out.trans b3)
  clear h3 b3 q4 HW HBB
  have HW := HW'
  have HBB := HBB'
  clear HW' HBB'
  have q5 := guest_c (j := 5) HW.out (.head _) rfl
  have HH : Hid ([] ++ bitsN 3 k.toNat ++ [r] ++ bitsN 8 n.toNat ++ bitsN 2 cd.toNat ++ bitsN 10 ct.toNat = hdBits k r n cd ct) := Lib.hid rfl
  rw [HH.out] at HW
  clear HH
  have hdl := hdBits_length k r n cd ct
  go_wp2_with fail
  ((with_reducible refine (write_f HW.out l A c HL.out HBB.out hll PL.out (by omega)).mono ?_); rintro x w9 ⟨rfl, h3, b3⟩)
  have HW' := Lib.hid h3
  have HBB' := Lib.hid b3
  clear h3 b3 q5 HW HBB
  have HW := HW'
  have HBB := HBB'
  clear HW' HBB'
  have hll2 := lsBits_length l
  have q6 := guest_c (j := 6) HW.out (.head _) rfl
  go_wp2_with fail
  ((with_reducible refine (write_f HW.out m A' c' HM.out HBB.out hml PM.out (by rw [List.length_append]; omega)).mono ?_); rintro x w10 ⟨rfl, h3, b3⟩)
  have HW' := Lib.hid h3
  have HBB' := Lib.hid b3
  clear h3 b3 q6 HW HBB
  have HW := HW'
  have HBB := HBB'
  clear HW' HBB'
  have hml2 := lsBits_length m
  go_wp2_with fail
  ((with_reducible refine (bytes_f HW.out (by rw [List.length_append, List.length_append]; omega)).mono ?_); rintro x w11 ⟨rfl, b3⟩)
  have HB := Lib.hid (HBB.out.trans (b3.mono HBB.out.size))
  clear b3 HW HBB
  go_wp2_with fail
  go_ret2
  exact ⟨rfl, HB.out⟩
theorem rencode_any (k : Int) (r : Bool) (n cd ct : Int) (A : Option Addr) (c : Nat) (A' : Option Addr) (c' : Nat) (l m : List (Int × Int)) (w : World) (hl : Sp w A l) (hc : l.length ≤ c) (hm : Sp w A' m) (hc' : m.length ≤ c') :
    Calls Try.prog 16 #[.agg (ms k r n cd ct A l.length c A' m.length c')] w fun x w' => x = .returned (.tuple #[.string (Str (encF k r n cd ct l m).1), .int .i64 (encF k r n cd ct l m).2]) ∧ Below w.heap.size w w' := by
  by_cases h : chkF k r n cd ct l m = 0
  · obtain ⟨h1, h2, h3, h4, h5, h6⟩ := chk_ok h
    have p4 := plErr_ok _ _ h4
    have p5 := plErr_ok _ _ h5
    have E : encF k r n cd ct l m = (pack (msBits k r n cd ct l m), 0) := if_pos h
    rw [E]
    dsimp only
    exact renc_ok k r n cd ct A c A' c' l m h w hl hc hm hc' (by omega) h1.2 h2.1 h2.2.1 h2.2.2.1 h2.2.2.2.1 h2.2.2.2.2.1 h2.2.2.2.2.2 h3.1 h3.2 p4 p5
  · have E : encF k r n cd ct l m = ([], chkF k r n cd ct l m) := if_neg h
    rw [E]
    dsimp only
    exact renc_bad k r n cd ct A c A' c' l m _ h rfl w hl hc hm hc'
end Go.Proofs.Ytjjcgjpmhhkeaaa.CmW
