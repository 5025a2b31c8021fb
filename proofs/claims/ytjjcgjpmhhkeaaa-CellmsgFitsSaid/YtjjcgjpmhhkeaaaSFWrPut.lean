/- bitio.Writer.put: the bits of a number behind what was written. (cut to what is reached: wip/tools/slimout2.py) -/
import Derived.Test.YtjjcgjpmhhkeaaaSFWr
import Derived.Deep.RegionWith
import Derived.RegionTactic
import Derived.BigRegion
import Derived.Outline
import Derived.Lib.SmallJoins
import Derived.Laws.BitsAllLaws
import Derived.LoopTactic
import Derived.IntWalk
import Derived.WalkLawsBesides
namespace Go.Proofs.Ytjjcgjpmhhkeaaa.WrPut
open Go.RowKit Go.Proofs.Ytjjcgjpmhhkeaaa.Pack Go.Proofs.Ytjjcgjpmhhkeaaa.Wr
theorem info8 : (Try.prog.info? 5).map (fun i => (i.zero, i.size, i.bytes)) = some (some (.int .u8 0), 1, 1) := by kernel_rfl
def U64 (m : Nat) : Prop := m < 18446744073709551616
theorem below_drew' {B : Nat} {a w : World} (h : Below B a w) : Below B a w.drew := ⟨h.os, h.tape, h.output, h.size, h.block⟩
theorem cell_new (w : World) (x : Value) (t : TypeId) {j : Nat} {u : Value} (h : [x][j]? = some u) : (w.alloc (.cells #[x] t)).cell? ((⟨w.heap.size, 0, none⟩ : Addr).add j) = some u := by
  have hj : j = 0 := by
    rcases Nat.eq_zero_or_pos j with h0 | h0
    · exact h0
    · rw [List.getElem?_eq_none (by simp; omega)] at h; cases h
  subst hj
  rw [show (⟨w.heap.size, 0, none⟩ : Addr).add 0 = ⟨w.heap.size, 0, none⟩ by unfold Addr.add; split <;> simp_all, World.cell?_alloc_at _ _ _ _ rfl]
  simpa using h
theorem put_byte (c : UInt8) (m q r : Nat) (hm : m < 18446744073709551616) (hr : r < 8) :
    Go.bits .or .u8 (c.toNat : Int) (Go.bits .and .u64 ((m : Int) / 2 ^ q) 1 % 256 * 2 ^ r % 256) = ((c ||| ((if m.testBit q then 1 else 0) <<< UInt8.ofNat r)).toNat : Int) := by
  have hl : m / 2 ^ q < 18446744073709551616 := Nat.lt_of_le_of_lt (Nat.div_le_self _ _) hm
  have e : ((m : Int) / 2 ^ q) = ((m / 2 ^ q : Nat) : Int) := by simp
  rw [e, show (1 : Int) = ((1 : Nat) : Int) from rfl, u64_and_nat _ _ hl (by decide), nat_mask1]
  have hb : ((m / 2 ^ q % 2 : Nat) : Int) = if m.testBit q then 1 else 0 := by
    rw [Nat.testBit_eq_decide_div_mod_eq]
    generalize m / 2 ^ q = z
    by_cases h : z % 2 = 1
    · rw [h]; rfl
    · rw [show z % 2 = 0 by omega]; rfl
  have hx : ((m / 2 ^ q % 2 : Nat) : Int) % 256 * 2 ^ r % 256 = (((if m.testBit q then (1 : UInt8) else 0) <<< UInt8.ofNat r).toNat : Int) := by
    rw [hb]
    cases m.testBit q
    · have : ∀ r, r < 8 → ((if false then (1 : Int) else 0) % 256 * 2 ^ r % 256) = (((if false then (1 : UInt8) else 0) <<< UInt8.ofNat r).toNat : Int) := by decide
      exact this r hr
    · have : ∀ r, r < 8 → ((if true then (1 : Int) else 0) % 256 * 2 ^ r % 256) = (((if true then (1 : UInt8) else 0) <<< UInt8.ofNat r).toNat : Int) := by decide
      exact this r hr
  rw [hx, u8_or_nat _ _ c.toNat_lt (UInt8.toNat_lt _), UInt8.toNat_or]
theorem take_step (k m q : Nat) (hq : q < k) : (bitsN k m).take (k - q) = (bitsN k m).take (k - (q + 1)) ++ [m.testBit q] := by
  have hl := bitsN_length k m
  have e : k - q = (k - (q + 1)) + 1 := by omega
  rw [e, List.take_succ_eq_append_getElem (by omega)]
  congr 2
  have h : ∀ k m j, (hj : j < (bitsN k m).length) → (bitsN k m)[j] = m.testBit (k - 1 - j) := by
    intro k
    induction k with
    | zero => intro m j hj; simp [bitsN] at hj
    | succ k ih =>
      intro m j hj
      have hc := bitsN_cons k m
      cases j with
      | zero => simp [hc]
      | succ j =>
        simp only [hc, List.getElem_cons_succ]
        rw [ih m j (by rw [bitsN_length] at hj ⊢; omega)]
        congr 1; omega
  rw [h _ _ _ (by omega)]
  congr 1; omega
set_option maxRecDepth 100000 in
set_option maxHeartbeats 4000000 in
theorem put_any {B g : Nat} {G : List (Nat × Obj)} {w : World} {bs : List Bool} {err : Int} (h : Wr B G w g bs err) (k : Nat) (hk : k ≤ 64) (m : Nat) (hm : U64 m) (hn : bs.length + k ≤ 1000000) :
    Calls Try.prog 79 #[.pointer (some ⟨g, 0, none⟩), .int .i64 (k : Int), .int .u64 (m : Int)] w fun e w' => e = .returned (.tuple #[]) ∧ Wr B G w' g (bs ++ bitsN k m) err ∧ Below B w w' := by
  obtain ⟨i0, hi, hz0, hz1, hz2⟩ := info_parts info8
  have HI := Lib.hid hi
  have HZ0 := Lib.hid hz0
  have HZ1 := Lib.hid hz1
  have HZ2 := Lib.hid hz2
  have HH := Lib.hid h
  clear hi hz0 hz1 hz2 h
  go_enter Try.func79, Try.ntmps79
  go_wp2
  go_loopw [6] (fun i wr => ∃ d : Nat, d ≤ k ∧ i = .int .i64 ((d : Int) - 1) ∧ Hid (Wr B G wr g (bs ++ (bitsN k m).take (k - d)) err) ∧ Hid (Below B w wr)) (fun i _ => (intOf i + 1).toNat)
  case atStart => exact ⟨k, Nat.le_refl _, rfl, by rw [Nat.sub_self, List.take_zero, List.append_nil]; exact HH, Lib.hid (Below.refl _ _)⟩
  case round =>
    clear HH
    obtain ⟨d, hd, rfl, HH, HB⟩ := hrel
    by_cases h0 : d = 0
    · subst h0
      have HH2 : Hid (Wr B G wr g (bs ++ bitsN k m) err) := by
        have := HH.out
        rw [Nat.sub_zero, List.take_of_length_le (by rw [bitsN_length]; exact Nat.le_refl _)] at this
        exact Lib.hid this
      go_wp2
      go_end0
      exact ⟨rfl, HH2.out, HB.out⟩
    · obtain ⟨q, rfl⟩ : ∃ q, d = q + 1 := ⟨d - 1, by omega⟩
      have e : (((q + 1 : Nat) : Int) - 1) = (q : Int) := by omega
      rw [e]
      clear e h0
      have hq : q < k := by omega
      generalize hcs : bs ++ (bitsN k m).take (k - (q + 1)) = cs at HH
      have hlen : cs.length = bs.length + (k - (q + 1)) := by
        rw [← hcs, List.length_append, List.length_take, bitsN_length]; omega
      have hL : cs.length ≤ 1000000 := by omega
      obtain ⟨v, c0, c1, c2, hf, hown, hv⟩ := WrL.cells HH.out
      have HO := Lib.hid hown
      have HV := Lib.hid hv
      have f0 := hf 0
      have f1 := hf 1
      have HL := Lib.hid hlen
      have HC := Lib.hid hcs
      clear hown hv hf hlen hcs
      have hgl : g < wr.heap.size := WrL.lt HH.out
      have hBg : B ≤ g := HH.out.1
      by_cases h8 : cs.length % 8 = 0
      · have b8 : ((cs.length : Int) % 8 == 0) = true := by rw [beq_iff_eq]; omega
        have HE : Hid ((if cs.length % 8 = 0 then pack cs ++ [0] else pack cs) = pack cs ++ [0]) := Lib.hid (if_pos h8)
        clear h8
        go_wp2_with (at_builtin; refine wpList_append_own _ rfl _ _ 43 rfl B 5 i0 (.int .u8 0) 1 1 Try.underlying43 HI.out HZ0.out HZ1.out HZ2.out rfl (by decide) _ _ _ rfl (HO.out.alloc _) ⟨wr.heap.size, 0, none⟩ 1 1 [.int .u8 0] rfl rfl ?c1 ?c2 ?c3 ?c4 ?c5 ?_)
        case c1 => intro j u hu; exact cell_new _ _ _ hu
        case c2 => intro u hu; simp at hu; subst hu; rfl
        case c3 => rw [pack_length]; unfold maxLen; omega
        case c4 => rw [pack_length]; omega
        case c5 => simp; omega
        intro v' w' hown' hgrow _
        obtain ⟨g', cap', rfl⟩ := Joins.ownsRow_form hown' (by omega)
        have hv1 : (wr.alloc (.cells #[.int .u8 0] 5)).heap[g]? = _ := (heap_alloc_old _ _ hgl).trans HV.out
        have hk1 := WrL.keepG hv1 (HO.out.alloc _) hgrow
        have d0 : w'.cell? ⟨g, 0, none⟩ = some v := by rw [cell_of_row _ _ _ _ _ _ hk1]; rfl
        have e0 : w'.frozen? ⟨g, 0, none⟩ = false := frozen_of_row _ _ _ _ _ hk1
        have HW : Hid (WrL B G (w'.setCell ⟨g, 0, none⟩ (.slice (some ⟨g', 0, none⟩) ((pack cs).length + 1) cap')) g (if cs.length % 8 = 0 then pack cs ++ [0] else pack cs) cs.length err) := by
          rw [HE.out]
          refine Lib.hid (WrL.grow (WrL.alloc HH.out _) hv1 (HO.out.alloc _) hgrow ?_)
          rw [List.length_append, List.map_append]; exact hown'
        have HB2 : Hid (Below B w (w'.setCell ⟨g, 0, none⟩ (.slice (some ⟨g', 0, none⟩) ((pack cs).length + 1) cap'))) := Lib.hid ((below_row (HB.out.alloc (by omega) _) hBg (by simp; omega) (HO.out.alloc _) hgrow).setCell hBg (.slice (some ⟨g', 0, none⟩) ((pack cs).length + 1) cap'))
        clear hown' hgrow hv1 hk1 HH HO HV HB c0 c1 c2 f0 f1 HE
        go_wp2
        clear d0 e0 b8
        generalize w'.setCell ⟨g, 0, none⟩ (.slice (some ⟨g', 0, none⟩) ((pack cs).length + 1) cap') = w2 at HW HB2 ⊢
        have hll : ((if cs.length % 8 = 0 then pack cs ++ [0] else pack cs)).length = cs.length / 8 + 1 := by split <;> (try simp) <;> (rw [pack_length]; omega)
        have hadd : addBit (pack cs) cs.length (m.testBit q) = (if cs.length % 8 = 0 then pack cs ++ [0] else pack cs).set (cs.length / 8) ((if cs.length % 8 = 0 then pack cs ++ [0] else pack cs).getD (cs.length / 8) 0 ||| ((if m.testBit q then 1 else 0) <<< UInt8.ofNat (7 - cs.length % 8))) := rfl
        generalize (if cs.length % 8 = 0 then pack cs ++ [0] else pack cs) = l2 at HW hll hadd
        obtain ⟨v2, d0, d1, d2, hf2, hown2, hv2⟩ := WrL.cells HW.out
        obtain ⟨gr, cap, rfl, hgr, hgrB, hcell, hfro, hset⟩ := WrL.byte HW.out hv2 hown2 (k := cs.length / 8) (by omega)
        have HS := Lib.hid (hset (l2.getD (cs.length / 8) 0 ||| ((if m.testBit q then 1 else 0) <<< UInt8.ofNat (7 - cs.length % 8))))
        have HA := Lib.hid hadd
        have hp : (cs.length : Int) / 8 = ((cs.length / 8 : Nat) : Int) := by omega
        have hp2 : ((cs.length / 8 : Nat) : Int) < (l2.length : Int) := by omega
        have f1 := hf2 1
        clear hset hadd hv2 hown2 hf2 hll d2 HW
        generalize cs.length / 8 = p at *
        go_region
        have hv := put_byte (l2[p]?.getD 0) m q (7 - cs.length % 8) hm (by omega)
        rw [hv]
        have hgd : l2.getD p 0 = l2[p]?.getD 0 := List.getD_eq_getElem?_getD
        rw [hgd] at HS HA
        have HB3 := Lib.hid (below_drew' (HB2.out.setCell (p := ⟨gr, p, none⟩) hgrB (.int .u8 ((l2[p]?.getD 0 ||| ((if m.testBit q then 1 else 0) <<< UInt8.ofNat (7 - cs.length % 8))).toNat : Int))))
        have HS2 := Lib.hid (WrL.drew HS.out)
        rw [← HA.out] at HS2
        clear hv hgd HS HA HB2 d0 d1 hcell hfro hp hp2 f1
        generalize World.drew (w2.setCell ⟨gr, p, none⟩ (.int .u8 ((l2[p]?.getD 0 ||| ((if m.testBit q then 1 else 0) <<< UInt8.ofNat (7 - cs.length % 8))).toNat : Int))) = w3 at HB3 HS2 ⊢
        obtain ⟨v3, _, d1, _, hf3, hown3, hv3⟩ := WrL.cells HS2.out
        have f1 := hf3 1
        have HS3 : Hid (Wr B G (w3.setCell ⟨g, 1, none⟩ (.int .i64 ((cs.length : Int) + 1))) g (bs ++ (bitsN k m).take (k - q)) err) := by
          refine Lib.hid ?_
          unfold Wr
          rw [take_step k m q hq, ← List.append_assoc, HC.out, pack_snoc, List.length_append, List.length_singleton]
          exact WrL.put HS2.out hv3 hown3 rfl
        have HB4 := Lib.hid (HB3.out.setCell (p := ⟨g, 1, none⟩) hBg (.int .i64 ((cs.length : Int) + 1)))
        clear hf3 hown3 hv3 HS2 HB3
        go_wp2
        go_roundw
        case rel => exact ⟨q, by omega, rfl, HS3, HB4⟩
        case measure => simp [intOf]
      · have b8 : ((cs.length : Int) % 8 == 0) = false := by rw [beq_eq_false_iff_ne]; omega
        have HE : (if cs.length % 8 = 0 then pack cs ++ [0] else pack cs) = pack cs := if_neg h8
        have HW : Hid (WrL B G wr g (if cs.length % 8 = 0 then pack cs ++ [0] else pack cs) cs.length err) := by
          rw [HE]; exact HH
        clear h8 HE
        go_wp2
        have HB2 := HB
        clear b8 c0 c1 c2 f0 f1 HH HO HV HB hgl
        generalize wr = w2 at HW HB2 ⊢
        have hll : ((if cs.length % 8 = 0 then pack cs ++ [0] else pack cs)).length = cs.length / 8 + 1 := by split <;> (try simp) <;> (rw [pack_length]; omega)
        have hadd : addBit (pack cs) cs.length (m.testBit q) = (if cs.length % 8 = 0 then pack cs ++ [0] else pack cs).set (cs.length / 8) ((if cs.length % 8 = 0 then pack cs ++ [0] else pack cs).getD (cs.length / 8) 0 ||| ((if m.testBit q then 1 else 0) <<< UInt8.ofNat (7 - cs.length % 8))) := rfl
        generalize (if cs.length % 8 = 0 then pack cs ++ [0] else pack cs) = l2 at HW hll hadd
        obtain ⟨v2, d0, d1, d2, hf2, hown2, hv2⟩ := WrL.cells HW.out
        obtain ⟨gr, cap, rfl, hgr, hgrB, hcell, hfro, hset⟩ := WrL.byte HW.out hv2 hown2 (k := cs.length / 8) (by omega)
        have HS := Lib.hid (hset (l2.getD (cs.length / 8) 0 ||| ((if m.testBit q then 1 else 0) <<< UInt8.ofNat (7 - cs.length % 8))))
        have HA := Lib.hid hadd
        have hp : (cs.length : Int) / 8 = ((cs.length / 8 : Nat) : Int) := by omega
        have hp2 : ((cs.length / 8 : Nat) : Int) < (l2.length : Int) := by omega
        have f1 := hf2 1
        clear hset hadd hv2 hown2 hf2 hll d2 HW
        generalize cs.length / 8 = p at *
        go_region
        have hv := put_byte (l2[p]?.getD 0) m q (7 - cs.length % 8) hm (by omega)
        rw [hv]
        have hgd : l2.getD p 0 = l2[p]?.getD 0 := List.getD_eq_getElem?_getD
        rw [hgd] at HS HA
        have HB3 := Lib.hid (below_drew' (HB2.out.setCell (p := ⟨gr, p, none⟩) hgrB (.int .u8 ((l2[p]?.getD 0 ||| ((if m.testBit q then 1 else 0) <<< UInt8.ofNat (7 - cs.length % 8))).toNat : Int))))
        have HS2 := Lib.hid (WrL.drew HS.out)
        rw [← HA.out] at HS2
        clear hv hgd HS HA HB2 d0 d1 hcell hfro hp hp2 f1
        generalize World.drew (w2.setCell ⟨gr, p, none⟩ (.int .u8 ((l2[p]?.getD 0 ||| ((if m.testBit q then 1 else 0) <<< UInt8.ofNat (7 - cs.length % 8))).toNat : Int))) = w3 at HB3 HS2 ⊢
        obtain ⟨v3, _, d1, _, hf3, hown3, hv3⟩ := WrL.cells HS2.out
        have f1 := hf3 1
        have HS3 : Hid (Wr B G (w3.setCell ⟨g, 1, none⟩ (.int .i64 ((cs.length : Int) + 1))) g (bs ++ (bitsN k m).take (k - q)) err) := by
          refine Lib.hid ?_
          unfold Wr
          rw [take_step k m q hq, ← List.append_assoc, HC.out, pack_snoc, List.length_append, List.length_singleton]
          exact WrL.put HS2.out hv3 hown3 rfl
        have HB4 := Lib.hid (HB3.out.setCell (p := ⟨g, 1, none⟩) hBg (.int .i64 ((cs.length : Int) + 1)))
        clear hf3 hown3 hv3 HS2 HB3
        go_wp2
        go_roundw
        case rel => exact ⟨q, by omega, rfl, HS3, HB4⟩
        case measure => simp [intOf]
end Go.Proofs.Ytjjcgjpmhhkeaaa.WrPut
