/- cellmsg.Encode, out of cellmsg.Check. (cut to what is reached: wip/tools/slimout2.py) -/
import Derived.Test.YtjjcgjpmhhkeaaaSFCmS
import Derived.LoopTactic
namespace Go.Proofs.Ytjjcgjpmhhkeaaa.CmE
set_option linter.unusedSimpArgs false
set_option linter.unusedVariables false
open Go.RowKit Go.Proofs.Ytjjcgjpmhhkeaaa.Pack Go.Proofs.Ytjjcgjpmhhkeaaa.CmF Go.Proofs.Ytjjcgjpmhhkeaaa.CmS Go.Proofs.Ytjjcgjpmhhkeaaa.Wr Go.Proofs.Ytjjcgjpmhhkeaaa.WrPut Go.Proofs.Ytjjcgjpmhhkeaaa.WrAll Go.Proofs.YtjjcgjpmhhkeaaaW.PrintWords
open Go.Proofs.Ytjjcgjpmhhkeaaa.Bytes (Str)
theorem not8 {cs : Array Value} {t : TypeId} (ht : t ≠ 5) : ¬ T8 (.cells cs t) := by
  rintro ⟨cur, e⟩; injection e with _ e; exact ht e
theorem addG {B g n mb : Nat} {G : List (Nat × Obj)} {w : World} {l : List UInt8} {err : Int} {o : Obj} (h : WrL B G w g l n err) (ho : w.heap[mb]? = some o) (hne : mb ≠ g) (h8 : ¬ T8 o) : WrL B ((mb, o) :: G) w g l n err := by
  refine ⟨h.1, h.2.1, fun p hp => ?_⟩
  rcases List.mem_cons.1 hp with rfl | hp
  · exact ⟨ho, hne, h8⟩
  · exact h.2.2 p hp
theorem cellG {B g n k j : Nat} {G : List (Nat × Obj)} {w : World} {l : List UInt8} {err : Int} {cs : Array Value} {t : TypeId} {x : Value} (h : WrL B G w g l n err) (hk : (k, .cells cs t) ∈ G) (hj : cs[j]? = some x) : w.cell? ⟨k, j, none⟩ = some x := by
  rw [cell_of_row _ _ _ _ _ _ (h.guest hk)]; exact hj
def outBits (k : Int) (r : Bool) (n cd ct : Int) (l m : List (Int × Int)) (q : Nat) : List Bool := hdBits k r n cd ct ++ (if 1 ≤ q then lsBits l else []) ++ (if 2 ≤ q then lsBits m else [])
theorem outBits_len (k : Int) (r : Bool) (n cd ct : Int) (l m : List (Int × Int)) (hl : l.length ≤ 8) (hm : m.length ≤ 8) (q : Nat) : (outBits k r n cd ct l m q).length ≤ 300 := by
  unfold outBits
  simp only [List.length_append, hdBits_length]
  have h1 := lsBits_length l
  have h2 := lsBits_length m
  split <;> split <;> (try simp only [List.length_nil]) <;> omega
theorem un {B g : Nat} {G : List (Nat × Obj)} {w : World} {bs : List Bool} (h : Wr B G w g bs 0) (k : Nat) (kI : Int) (hk : (k : Int) = kI) (hk1 : 1 ≤ k) (hk2 : k ≤ 30) (n : Int) (h0 : 0 ≤ n) (h1 : n < 2 ^ k) (hn : bs.length + k ≤ 500000) :
    Calls Try.prog 32 #[.pointer (some ⟨g, 0, none⟩), .int .i64 kI, .int .i64 n] w fun e w' => e = .returned (.tuple #[]) ∧ Wr B G w' g (bs ++ bitsN k n.toNat) 0 ∧ Below B w w' := by
  subst hk
  have hp : (2 : Nat) ^ k ≤ 2 ^ 30 := Nat.pow_le_pow_right (by decide) hk2
  have hz : ((2 ^ k : Nat) : Int) = 2 ^ k := by simp
  exact unsigned_ok h k hk1 (by omega) n h0 (by omega) (by omega) (by omega)
abbrev Chk (w : World) (cs : Array Value) (c : Int) : Prop := ∀ w' : World, Below w.heap.size w w' → Calls Try.prog 13 #[.agg cs] w' fun e w'' => e = .returned (.int .i64 c) ∧ Below w'.heap.size w' w''
theorem start {cs : Array Value} {w w1 w2 : World} (hb : Below (w.alloc (.cells cs TMs)).heap.size (w.alloc (.cells cs TMs)) w1) (h2 : Wr w.heap.size [] w2 w1.heap.size [] 0) (b2 : Below w1.heap.size w1 w2) :
    Wr w.heap.size [(w.heap.size, .cells cs TMs)] w2 w1.heap.size [] 0 ∧ Below w.heap.size w w2 := by
  have hs := hb.size
  rw [show (w.alloc (.cells cs TMs)).heap.size = w.heap.size + 1 by simp] at hs
  have e1 : w1.heap[w.heap.size]? = some (.cells cs TMs) := by rw [hb.block _ (by simp)]; exact heap_alloc_new _ _
  have e2 : w2.heap[w.heap.size]? = some (.cells cs TMs) := by rw [b2.block _ (by omega)]; exact e1
  exact ⟨addG h2 e2 (by omega) (not8 (by decide)), (((Below.refl _ _).alloc (Nat.le_refl _) _).trans (hb.mono (by simp))).trans (b2.mono (by omega))⟩
set_option maxRecDepth 100000 in
set_option maxHeartbeats 4000000 in
theorem enc_bad (k : Int) (r : Bool) (n cd ct : Int) (A : Option Addr) (s c : Nat) (A' : Option Addr) (o c' : Nat) (e : Int) (he : e ≠ 0) (w : World) (hc : Chk w (ms k r n cd ct A s c A' o c') e) :
    Calls Try.prog 15 #[.agg (ms k r n cd ct A s c A' o c')] w fun x w' => x = .returned (.tuple #[.string (Str []), .int .i64 e]) ∧ Below w.heap.size w w' := by
  have he2 : (e == 0) = false := by simpa using he
  have he3 : (e != 0) = true := by simpa using he
  have HC := Lib.hid (hc _ ((Below.refl _ _).alloc (Nat.le_refl _) (.cells (ms k r n cd ct A s c A' o c') TMs)))
  have hb0 : Below w.heap.size w (w.alloc (.cells (ms k r n cd ct A s c A' o c') TMs)) := (Below.refl _ _).alloc (Nat.le_refl _) _
  have HB0 := Lib.hid hb0
  clear hc hb0 he
  go_enter Try.func15, Try.ntmps15
  go_wp2_with fail
  ((with_reducible refine HC.out.mono ?_); rintro x w1 ⟨rfl, hb⟩)
  have HB1 := Lib.hid (HB0.out.trans (hb.mono (by simp)))
  clear hb
  go_wp2_with fail
  go_ret2
  exact ⟨rfl, HB1.out⟩
set_option maxRecDepth 100000 in
set_option maxHeartbeats 8000000 in
theorem enc_ok (k : Int) (r : Bool) (n cd ct : Int) (A : Option Addr) (c : Nat) (A' : Option Addr) (c' : Nat) (l m : List (Int × Int)) (w : World) (hl : Sp w A l) (hm : Sp w A' m) (hc : Chk w (ms k r n cd ct A l.length c A' m.length c') 0)
    (k0 : 0 ≤ k) (k1 : k ≤ 6) (n0 : 0 ≤ n) (n1 : n ≤ 255) (d0 : 0 ≤ cd) (d1 : cd ≤ 3) (t0 : 0 ≤ ct) (t1 : ct ≤ 512) (hll : l.length ≤ 8) (hml : m.length ≤ 8) (pl : PlOk l) (pm : PlOk m) :
    Calls Try.prog 15 #[.agg (ms k r n cd ct A l.length c A' m.length c')] w fun x w' => x = .returned (.tuple #[.string (Str (pack (msBits k r n cd ct l m))), .int .i64 0]) ∧ Below w.heap.size w w' := by
  have HC := Lib.hid (hc _ ((Below.refl _ _).alloc (Nat.le_refl _) (.cells (ms k r n cd ct A l.length c A' m.length c') TMs)))
  have HL := Lib.hid hl
  have HM := Lib.hid hm
  have PL := Lib.hid pl
  have PM := Lib.hid pm
  clear hc hl hm pl pm
  go_enter Try.func15, Try.ntmps15
  go_wp2_with fail
  ((with_reducible refine HC.out.mono ?_); rintro x w1 ⟨rfl, hb⟩)
  have HB := Lib.hid hb
  have hsz := hb.size
  rw [show (w.alloc (.cells (ms k r n cd ct A l.length c A' m.length c') TMs)).heap.size = w.heap.size + 1 by simp] at hsz
  clear hb HC
  go_wp2_with fail
  ((with_reducible refine (new_any (B := w.heap.size) w1 (by omega)).mono ?_); rintro x w2 ⟨rfl, h2, b2⟩)
  have HS := Lib.hid (start HB.out h2 b2)
  clear h2 b2 HB hsz
  generalize w1.heap.size = g at HS ⊢
  have q0 := cellG (j := 0) HS.out.1 (.head _) rfl
  go_wp2_with fail
  ((with_reducible refine (un HS.out.1 3 3 rfl (by omega) (by omega) k k0 (by omega) (by simp only [List.length_append, List.length_nil, List.length_singleton, bitsN_length]; omega)).mono ?_); rintro x w3 ⟨rfl, h3, b3⟩)
  have HW' := Lib.hid h3
  have HBB' := Lib.hid (HS.out.2.trans b3)
  clear h3 b3 q0 HS
  have HW := HW'
  have HBB := HBB'
  clear HW' HBB'
  have q1 := cellG (j := 1) HW.out (.head _) rfl
  go_wp2_with fail
  ((with_reducible refine (flag_ok HW.out r (by simp only [List.length_append, List.length_nil, List.length_singleton, bitsN_length]; omega)).mono ?_); rintro x w4 ⟨rfl, h3, b3⟩)
  have HW' := Lib.hid h3
  have HBB' := Lib.hid (HBB.out.trans b3)
  clear h3 b3 q1 HW HBB
  have HW := HW'
  have HBB := HBB'
  clear HW' HBB'
  have q2 := cellG (j := 2) HW.out (.head _) rfl
  go_wp2_with fail
  ((with_reducible refine (un HW.out 8 8 rfl (by omega) (by omega) n n0 (by omega) (by simp only [List.length_append, List.length_nil, List.length_singleton, bitsN_length]; omega)).mono ?_); rintro x w5 ⟨rfl, h3, b3⟩)
  have HW' := Lib.hid h3
  have HBB' := Lib.hid (HBB.out.trans b3)
  clear h3 b3 q2 HW HBB
  have HW := HW'
  have HBB := HBB'
  clear HW' HBB'
  have q3 := cellG (j := 3) HW.out (.head _) rfl
  go_wp2_with fail
  ((with_reducible refine (un HW.out 2 2 rfl (by omega) (by omega) cd d0 (by omega) (by simp only [List.length_append, List.length_nil, List.length_singleton, bitsN_length]; omega)).mono ?_); rintro x w6 ⟨rfl, h3, b3⟩)
  have HW' := Lib.hid h3
  have HBB' := Lib.hid (HBB.out.trans b3)
  clear h3 b3 q3 HW HBB
  have HW := HW'
  have HBB := HBB'
  clear HW' HBB'
  have q4 := cellG (j := 4) HW.out (.head _) rfl
  go_wp2_with fail
  ((with_reducible refine (un HW.out 10 10 rfl (by omega) (by omega) ct t0 (by omega) (by simp only [List.length_append, List.length_nil, List.length_singleton, bitsN_length]; omega)).mono ?_); rintro x w7 ⟨rfl, h3, b3⟩)
  have HW' := Lib.hid h3
  have HBB' := Lib.hid (HBB.out.trans b3)
  clear h3 b3 q4 HW HBB
  have HW := HW'
  have HBB := HBB'
  clear HW' HBB'
  have HH : Hid ([] ++ bitsN 3 k.toNat ++ [r] ++ bitsN 8 n.toNat ++ bitsN 2 cd.toNat ++ bitsN 10 ct.toNat = hdBits k r n cd ct) := Lib.hid rfl
  rw [HH.out] at HW
  clear HH
  have q5 := cellG (j := 5) HW.out (.head _) rfl
  have q6 := cellG (j := 6) HW.out (.head _) rfl
  go_wp2_with fail
  have HW' := Lib.hid (WrL.allocG HW.out (.cells #[.slice A l.length c, .slice A' m.length c'] 22) (not8 (by decide)))
  have HBB' := Lib.hid (HBB.out.alloc HBB.out.size (.cells #[.slice A l.length c, .slice A' m.length c'] 22))
  clear q5 q6 HW HBB
  have HW := HW'
  have HBB := HBB'
  clear HW' HBB'
  generalize World.alloc w7 _ = w8 at HW HBB ⊢
  generalize w7.heap.size = pl at HW ⊢
  go_loopw [42] (fun j wr => ∃ q : Nat, q ≤ 2 ∧ j = .int .i64 q ∧ Hid (Wr w.heap.size [(pl, .cells #[.slice A l.length c, .slice A' m.length c'] 22 (0, 0)), (w.heap.size, .cells (ms k r n cd ct A l.length c A' m.length c') TMs (0, 0))] wr g (outBits k r n cd ct l m q) 0) ∧ Hid (Below w.heap.size w wr)) (fun j _ => 2 - (intOf j).toNat)
  case atStart => exact ⟨0, by omega, rfl, by rw [show outBits k r n cd ct l m 0 = hdBits k r n cd ct by simp [outBits]]; exact HW, HBB⟩
  case round =>
    clear HW HBB
    obtain ⟨q, hq, rfl, HW, HBB⟩ := hrel
    obtain ⟨wo, rfl⟩ : ∃ wo : World, wo = wr := ⟨_, rfl⟩
    have hq3 : q = 0 ∨ q = 1 ∨ q = 2 := by omega
    rcases hq3 with rfl | rfl | rfl

    · have e0 := cellG (j := 0) HW.out (.head _) rfl
      have HOB : Hid (outBits k r n cd ct l m 0 ++ lsBits l = outBits k r n cd ct l m 1) := Lib.hid (by simp [outBits])
      have hol : (outBits k r n cd ct l m 0).length ≤ 300 := outBits_len k r n cd ct l m hll hml _
      generalize outBits k r n cd ct l m 0 = bs0 at *
      go_wp2_with fail
      ((with_reducible refine (un HW.out 4 4 rfl (by omega) (by omega) (l.length : Int) (by omega) (by omega) (by omega)).mono ?_); rintro x w9 ⟨rfl, h3, b3⟩)
      rw [Int.toNat_natCast] at h3
      have HW9 := Lib.hid h3
      have HB9 := Lib.hid (HBB.out.trans b3)
      clear h3 b3 HW HBB e0
      go_wp2_with fail
      go_loopw [52] (fun j wi => ∃ i : Nat, i ≤ l.length ∧ j = .int .i64 i ∧ Hid (Wr w.heap.size [(pl, .cells #[.slice A l.length c, .slice A' m.length c'] 22 (0, 0)), (w.heap.size, .cells (ms k r n cd ct A l.length c A' m.length c') TMs (0, 0))] wi g (bs0 ++ bitsN 4 l.length ++ plsBits (l.take i)) 0) ∧ Hid (Below w.heap.size w wi)) (fun j _ => l.length - (intOf j).toNat)
      case atStart => exact ⟨0, Nat.zero_le _, rfl, by rw [List.take_zero, show plsBits [] = [] from rfl, List.append_nil]; exact HW9, HB9⟩
      case round =>
        clear HW9 HB9
        obtain ⟨i, hi, rfl, HW, HBB⟩ := hrel
        by_cases hlt : i < l.length
        · obtain ⟨ad, rfl, x0, x1⟩ := (HL.out.below HBB.out).at_ i hlt
          have hpl := PL.out (l.getD i (0, 0)) (by simp [List.getD, hlt])
          have HTK : Hid (plsBits (l.take (i + 1)) = plsBits (l.take i) ++ plBits (l.getD i (0, 0))) := Lib.hid (by
            rw [List.take_succ_eq_append_getElem hlt, plsBits_snoc]; simp [List.getD, hlt])
          have hpn : (plsBits (l.take i)).length ≤ 104 := by rw [plsBits_length, List.length_take]; omega
          generalize l.getD i (0, 0) = p at *
          generalize plsBits (l.take i) = bi at *
          obtain ⟨p1, p2⟩ := p
          simp only at x0 x1 hpl
          have hSP : Wr w.heap.size ((wr.heap.size, .cells #[.int .i64 p1, .int .i64 p2] 37 (0, 0)) :: _) (wr.alloc (.cells #[.int .i64 p1, .int .i64 p2] 37)) g (bs0 ++ bitsN 4 l.length ++ bi) 0 := WrL.allocG HW.out (.cells #[.int .i64 p1, .int .i64 p2] 37) (not8 (by decide))
          have HSP := Lib.hid hSP
          have HBS := Lib.hid (HBB.out.alloc HBB.out.size (.cells #[.int .i64 p1, .int .i64 p2] 37))
          clear hSP
          go_wp2_with fail
          ((with_reducible refine (un HSP.out 9 9 rfl (by omega) (by omega) p1 (by omega) (by omega) (by simp only [List.length_append, bitsN_length]; omega)).mono ?_); rintro x w10 ⟨rfl, h3, b3⟩)
          have HWa := Lib.hid h3
          have HBa := Lib.hid (HBS.out.trans b3)
          have e1 := cellG (j := 1) h3 (.head _) rfl
          clear h3 b3 HSP HBS HW HBB x0 x1
          go_wp2_with fail
          ((with_reducible refine (un HWa.out 4 4 rfl (by omega) (by omega) p2 (by omega) (by omega) (by simp only [List.length_append, bitsN_length]; omega)).mono ?_); rintro x w11 ⟨rfl, h3, b3⟩)
          have HWb := Lib.hid (WrL.drop h3)
          have HBb := Lib.hid (HBa.out.trans b3)
          clear h3 b3 HWa HBa e1
          go_wp2_with fail
          go_roundw
          case rel => exact ⟨i + 1, by omega, by go_num, by rw [HTK.out]; refine Lib.hid ?_; have := HWb.out; unfold Wr plBits; simpa only [List.append_assoc] using this, HBb⟩
          case measure => simp [intOf]; omega
        · obtain rfl : i = l.length := by omega
          have HWz : Hid (Wr w.heap.size [(pl, .cells #[.slice A l.length c, .slice A' m.length c'] 22 (0, 0)), (w.heap.size, .cells (ms k r n cd ct A l.length c A' m.length c') TMs (0, 0))] wr g (outBits k r n cd ct l m 1) 0) := by
            rw [← HOB.out]
            have := HW.out
            rw [List.take_length, List.append_assoc] at this
            exact Lib.hid this
          clear HW
          go_wp2_with fail
          go_roundw
          case rel => exact ⟨1, by omega, rfl, HWz, HBB⟩
          case measure => simp [intOf]

    · have e0 := cellG (j := 1) HW.out (.head _) rfl
      have HOB : Hid (outBits k r n cd ct l m 1 ++ lsBits m = outBits k r n cd ct l m 2) := Lib.hid (by simp [outBits])
      have hol : (outBits k r n cd ct l m 1).length ≤ 300 := outBits_len k r n cd ct l m hll hml _
      generalize outBits k r n cd ct l m 1 = bs0 at *
      go_wp2_with fail
      ((with_reducible refine (un HW.out 4 4 rfl (by omega) (by omega) (m.length : Int) (by omega) (by omega) (by omega)).mono ?_); rintro x w9 ⟨rfl, h3, b3⟩)
      rw [Int.toNat_natCast] at h3
      have HW9 := Lib.hid h3
      have HB9 := Lib.hid (HBB.out.trans b3)
      clear h3 b3 HW HBB e0
      go_wp2_with fail
      go_loopw [52] (fun j wi => ∃ i : Nat, i ≤ m.length ∧ j = .int .i64 i ∧ Hid (Wr w.heap.size [(pl, .cells #[.slice A l.length c, .slice A' m.length c'] 22 (0, 0)), (w.heap.size, .cells (ms k r n cd ct A l.length c A' m.length c') TMs (0, 0))] wi g (bs0 ++ bitsN 4 m.length ++ plsBits (m.take i)) 0) ∧ Hid (Below w.heap.size w wi)) (fun j _ => m.length - (intOf j).toNat)
      case atStart => exact ⟨0, Nat.zero_le _, rfl, by rw [List.take_zero, show plsBits [] = [] from rfl, List.append_nil]; exact HW9, HB9⟩
      case round =>
        clear HW9 HB9
        obtain ⟨i, hi, rfl, HW, HBB⟩ := hrel
        by_cases hlt : i < m.length
        · obtain ⟨ad, rfl, x0, x1⟩ := (HM.out.below HBB.out).at_ i hlt
          have hpl := PM.out (m.getD i (0, 0)) (by simp [List.getD, hlt])
          have HTK : Hid (plsBits (m.take (i + 1)) = plsBits (m.take i) ++ plBits (m.getD i (0, 0))) := Lib.hid (by
            rw [List.take_succ_eq_append_getElem hlt, plsBits_snoc]; simp [List.getD, hlt])
          have hpn : (plsBits (m.take i)).length ≤ 104 := by rw [plsBits_length, List.length_take]; omega
          generalize m.getD i (0, 0) = p at *
          generalize plsBits (m.take i) = bi at *
          obtain ⟨p1, p2⟩ := p
          simp only at x0 x1 hpl
          have hSP : Wr w.heap.size ((wr.heap.size, .cells #[.int .i64 p1, .int .i64 p2] 37 (0, 0)) :: _) (wr.alloc (.cells #[.int .i64 p1, .int .i64 p2] 37)) g (bs0 ++ bitsN 4 m.length ++ bi) 0 := WrL.allocG HW.out (.cells #[.int .i64 p1, .int .i64 p2] 37) (not8 (by decide))
          have HSP := Lib.hid hSP
          have HBS := Lib.hid (HBB.out.alloc HBB.out.size (.cells #[.int .i64 p1, .int .i64 p2] 37))
          clear hSP
          go_wp2_with fail
          ((with_reducible refine (un HSP.out 9 9 rfl (by omega) (by omega) p1 (by omega) (by omega) (by simp only [List.length_append, bitsN_length]; omega)).mono ?_); rintro x w10 ⟨rfl, h3, b3⟩)
          have HWa := Lib.hid h3
          have HBa := Lib.hid (HBS.out.trans b3)
          have e1 := cellG (j := 1) h3 (.head _) rfl
          clear h3 b3 HSP HBS HW HBB x0 x1
          go_wp2_with fail
          ((with_reducible refine (un HWa.out 4 4 rfl (by omega) (by omega) p2 (by omega) (by omega) (by simp only [List.length_append, bitsN_length]; omega)).mono ?_); rintro x w11 ⟨rfl, h3, b3⟩)
          have HWb := Lib.hid (WrL.drop h3)
          have HBb := Lib.hid (HBa.out.trans b3)
          clear h3 b3 HWa HBa e1
          go_wp2_with fail
          go_roundw
          case rel => exact ⟨i + 1, by omega, by go_num, by rw [HTK.out]; refine Lib.hid ?_; have := HWb.out; unfold Wr plBits; simpa only [List.append_assoc] using this, HBb⟩
          case measure => simp [intOf]; omega
        · obtain rfl : i = m.length := by omega
          have HWz : Hid (Wr w.heap.size [(pl, .cells #[.slice A l.length c, .slice A' m.length c'] 22 (0, 0)), (w.heap.size, .cells (ms k r n cd ct A l.length c A' m.length c') TMs (0, 0))] wr g (outBits k r n cd ct l m 2) 0) := by
            rw [← HOB.out]
            have := HW.out
            rw [List.take_length, List.append_assoc] at this
            exact Lib.hid this
          clear HW
          go_wp2_with fail
          go_roundw
          case rel => exact ⟨2, by omega, rfl, HWz, HBB⟩
          case measure => simp [intOf]

    · have HE : Hid (outBits k r n cd ct l m 2 = msBits k r n cd ct l m) := Lib.hid (by simp [outBits, msBits])
      rw [HE.out] at HW
      clear HE
      go_wp2_with fail
      ((with_reducible refine (bytes_ok HW.out).mono ?_); rintro x w9 ⟨rfl, rfl⟩)
      go_wp2_with fail
      go_ret2
      exact ⟨rfl, HBB.out⟩
end Go.Proofs.Ytjjcgjpmhhkeaaa.CmE
