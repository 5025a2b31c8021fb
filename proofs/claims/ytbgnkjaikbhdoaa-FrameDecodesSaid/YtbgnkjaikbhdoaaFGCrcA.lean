/- Contracts of crc.times, of the closure inside crc.remainders, of crc.remainders and of crc.Update. (cut to what is reached: wip/tools/slimout2.py) -/
import Derived.Test.YtbgnkjaikbhdoaaProg
import Derived.Test.YtbgnkjaikbhdoaaFGAlg
import Derived.Below
import Derived.Tactics
import Derived.WalkKit
import Derived.KernelRfl
import Derived.RowKit3
import Derived.Deep.LoopGhost
import Derived.Deep.RegionWith
import Derived.Laws.Rows
import Derived.Laws.BitsAllLaws
import Derived.Laws.BitsLemmas
import Derived.Lib.Hide
import Derived.Laws.CopyOwn
import Derived.OneCell
import Derived.Outline
import Derived.WalkSpells
import Derived.WalkLawsBesides
import Derived.IntWalk
namespace Go.Proofs.Ytbgnkjaikbhdoaa.CrcA
open Go.RowKit Go.Proofs.Ytbgnkjaikbhdoaa.Alg
abbrev U (a : BitVec 16) : Value := .int .u16 (a.toNat : Int)
theorem shl1_int (a : BitVec 16) : IntKind.u16.wrap ((a.toNat : Int) * 2) = ((a <<< 1).toNat : Int) := by
  rw [IntKind.wrap_u16, BitVec.toNat_shiftLeft, Nat.shiftLeft_eq]; omega
theorem xor_int (a b : BitVec 16) : Go.bits .xor .u16 (a.toNat : Int) (b.toNat : Int) = ((a ^^^ b).toNat : Int) := by
  rw [u16_xor_nat _ _ a.isLt b.isLt, BitVec.toNat_xor]
theorem top_int (a : BitVec 16) : Go.bits .and .u16 (a.toNat : Int) 32768 = if a.msb then 32768 else 0 := by
  rw [show (32768 : Int) = ((32768 : Nat) : Int) from rfl, u16_and_nat _ _ a.isLt (by decide), show (32768 : Nat) = 2 ^ 15 from rfl, nat_bit, BitVec.msb_eq_decide]
  have := a.isLt
  by_cases h : 2 ^ (16 - 1) ≤ a.toNat
  · rw [decide_eq_true h, if_pos rfl, show a.toNat / 2 ^ 15 % 2 = 1 by omega]
  · rw [decide_eq_false h, if_neg (by decide), show a.toNat / 2 ^ 15 % 2 = 0 by omega]; rfl
theorem times_any (a : BitVec 16) (w : World) :
    Calls Try.prog 100 #[U a] w fun e w' => e = .returned (U (T a)) ∧ w = w' := by
  have ht := top_int a
  cases hm : a.msb with
  | true =>
    rw [hm, if_pos rfl] at ht
    have hr : Go.bits .xor .u16 (IntKind.u16.wrap ((a.toNat : Int) * 2)) 4129 = ((T a).toNat : Int) := by
      rw [shl1_int, show (4129 : Int) = ((4129#16).toNat : Int) from rfl, xor_int]; unfold T; rw [hm, if_pos rfl]
    have HR := Lib.hid hr
    clear hr
    have c0 : (Go.bits .and .u16 (a.toNat : Int) 32768 == 0) = false := by rw [ht]; rfl
    have c1 : (Go.bits .and .u16 (a.toNat : Int) 32768 != 0) = true := by rw [ht]; rfl
    clear ht
    go_enter Try.func100, Try.ntmps100
    go_wp2
    go_ret
    exact ⟨by rw [HR.out]; rfl, rfl⟩
  | false =>
    rw [hm] at ht
    simp only [Bool.false_eq_true, if_false] at ht
    have hr : IntKind.u16.wrap ((a.toNat : Int) * 2) = ((T a).toNat : Int) := by
      rw [shl1_int]; unfold T; rw [hm]; rfl
    have HR := Lib.hid hr
    clear hr
    have c0 : (Go.bits .and .u16 (a.toNat : Int) 32768 == 0) = true := by rw [ht]; rfl
    have c1 : (Go.bits .and .u16 (a.toNat : Int) 32768 != 0) = false := by rw [ht]; rfl
    clear ht
    go_enter Try.func100, Try.ntmps100
    go_wp2
    go_ret
    exact ⟨by rw [HR.out]; rfl, rfl⟩
def tab (k : Nat) : BitVec 16 := Tn 4 (BitVec.ofNat 16 k <<< 12)
theorem fill_head (k : Nat) (hk : k < 16) : (k : Int) * (4096 : Int) = ((Tn 0 (BitVec.ofNat 16 k <<< 12)).toNat : Int) := by
  rw [Tn, BitVec.toNat_shiftLeft, Nat.shiftLeft_eq, BitVec.toNat_ofNat, Nat.mod_eq_of_lt (show k < 2 ^ 16 by omega)]; omega
set_option maxHeartbeats 1000000 in
theorem fill_any (k : Nat) (hk : k < 16) (b : Nat) (old : Value) (w : World) (hc : w.cell? ⟨b, k, none⟩ = some old) (hf : w.frozen? ⟨b, k, none⟩ = false) :
    Calls Try.prog 99 #[.int .i64 (k : Int), .pointer (some ⟨b, 0, none⟩)] w fun e w' => e = .returned (.tuple #[]) ∧ w' = w.setCell ⟨b, k, none⟩ (U (tab k)) := by
  have HH := Lib.hid (fill_head k hk)
  go_enter Try.func99, Try.ntmps99
  go_wp2
  go_loop [3, 7] (fun v i => ∃ j : Nat, j ≤ 4 ∧ i = .int .i64 j ∧ v = U (Tn j (BitVec.ofNat 16 k <<< 12))) (fun _ i => 4 - (intOf i).toNat)
  case atStart => exact ⟨0, by omega, rfl, by rw [HH.out]⟩
  case round =>
    obtain ⟨j, hj, rfl, rfl⟩ := hrel
    by_cases hlt : j < 4
    · go_wp2_with (go_at_call 100; refine (times_any _ _).mono ?_; rintro e w' ⟨rfl, rfl⟩)
      go_round
      case rel => exact ⟨j + 1, by omega, by go_num, rfl⟩
      case measure => simp [intOf]; omega
    · obtain rfl : j = 4 := by omega
      go_wp2
      go_end0
      exact ⟨rfl, rfl⟩
def tabA (k : Nat) : Array Value := ((List.range 16).map fun i => if i < k then U (tab i) else U 0#16).toArray
theorem tabA_size (k : Nat) : (tabA k).size = 16 := by simp [tabA]
theorem tabA_get (k i : Nat) (hi : i < 16) : (tabA k)[i]? = some (if i < k then U (tab i) else U 0#16) := by
  simp [tabA, hi]
theorem tabA_set (k : Nat) (hk : k < 16) : (tabA k).setIfInBounds k (U (tab k)) = tabA (k + 1) := by
  apply Array.ext_getElem?
  intro i
  rw [Array.getElem?_setIfInBounds]
  by_cases e : k = i
  · subst e
    rw [if_pos rfl, tabA_size, if_pos hk, tabA_get _ _ hk, if_pos (by omega)]
  · rw [if_neg e]
    by_cases hi : i < 16
    · rw [tabA_get _ _ hi, tabA_get _ _ hi]
      by_cases l : i < k
      · rw [if_pos l, if_pos (by omega)]
      · rw [if_neg l, if_neg (by omega)]
    · rw [Array.getElem?_eq_none (by rw [tabA_size]; omega), Array.getElem?_eq_none (by rw [tabA_size]; omega)]
theorem tabA_one (k : Nat) : (tabA k).all (·.oneCell') = true := by
  rw [Array.all_eq_true_iff_forall_mem]
  intro x hx
  simp only [tabA, List.mem_toArray, List.mem_map] at hx
  obtain ⟨i, _, rfl⟩ := hx
  split <;> rfl
theorem tabA_same (j k : Nat) : (tabA j).size = (tabA k).size := by rw [tabA_size, tabA_size]
set_option maxHeartbeats 1000000 in
theorem remainders_any (w : World) :
    Calls Try.prog 92 #[] w fun e w' => e = .returned (.agg (tabA 16)) ∧ Below w.heap.size w w' := by
  have hmf : ∀ (fn : Fn) (first cap : Array Value) (w : World), (Instr.makeFunc fn first cap).run Try.prog w = .ok (.func fn first cap) w := fun _ _ _ _ => rfl
  go_enter Try.func92, Try.ntmps92
  go_wp2
  go_loopw [5] (fun i wr => ∃ k : Nat, k ≤ 16 ∧ i = .int .i64 k ∧ wr = (w.alloc (.cells (tabA 0) 115)).alloc (.cells (tabA k) 115)) (fun i _ => 16 - (intOf i).toNat)
  case atStart => exact ⟨0, by omega, rfl, rfl⟩
  case round =>
    obtain ⟨k, hk, rfl, hwr⟩ := hrel
    by_cases hlt : k < 16
    · have hc : wr.cell? ⟨w.heap.size + 1, k, none⟩ = some (U 0#16) := by
        rw [hwr, World.cell?_alloc_at _ _ _ _ (by simp), tabA_get _ _ hlt, if_neg (by omega)]
      have hf : wr.frozen? ⟨w.heap.size + 1, k, none⟩ = false := by
        rw [hwr, World.frozen?_alloc_at _ _ _ _ (by simp)]
      have hs : wr.setCell ⟨w.heap.size + 1, k, none⟩ (U (tab k)) = (w.alloc (.cells (tabA 0) 115)).alloc (.cells (tabA (k + 1)) 115) := by
        rw [hwr, World.setCell_alloc_at _ _ _ _ _ (by simp), tabA_set k hlt]
      have HS := Lib.hid hs
      clear hs hwr
      go_wp2_with (go_at_call 99; refine (fill_any k hlt (w.heap.size + 1) _ wr hc hf).mono ?_; rintro e w' ⟨rfl, rfl⟩)
      go_roundw
      case rel => exact ⟨k + 1, by omega, by go_num, HS.out⟩
      case measure => simp [intOf]; omega
    · obtain rfl : k = 16 := by omega
      subst hwr
      go_wp2_with (first | (refine wpList_load_row rfl 115 _ rfl (w.heap.size + 1) rfl 115 (tabA 16) (0, 0) _ (heap_alloc2_new _ _ _) Try.underlying115 rfl (by kernel_rfl) ?_) | (refine wpList_store_row rfl 115 _ _ rfl w.heap.size (tabA 16) rfl rfl 115 (tabA 0) (heap_alloc2_old _ _ _) (by kernel_rfl) (tabA_same _ _) (tabA_one _) ?_))
      refine bodyPost_ret (v := .agg (tabA 16)) (results_cell_row rfl _ _ w.heap.size 115 (tabA 16) (0, 0) _ rfl (setRow_heap _ _ _ _ _ _ (heap_alloc2_old _ _ _)) Try.underlying115 rfl (by kernel_rfl)) rfl ⟨rfl, ?_⟩
      exact below_setRow (((Below.refl _ _).alloc (Nat.le_refl _) _).alloc (by simp) _) (Nat.le_refl _) _
theorem cell_tab {w2 : World} {g : Nat} (h : w2.heap[g]? = some (.cells (tabA 16) 115 (0, 0))) (j : Nat) (hj : j < 16) : w2.cell? ⟨g, j, none⟩ = some (U (tab j)) := by
  rw [cell_of_row _ _ _ _ _ _ h, tabA_get _ _ hj, if_pos hj]
theorem xor_sh (a b : Nat) (n : Nat) : (BitVec.ofNat 16 (a ^^^ b)) <<< n = (BitVec.ofNat 16 a <<< n) ^^^ (BitVec.ofNat 16 b <<< n) := by
  rw [← BitVec.shiftLeft_xor_distrib]; congr 1
  apply BitVec.eq_of_toNat_eq
  rw [BitVec.toNat_xor, BitVec.toNat_ofNat, BitVec.toNat_ofNat, BitVec.toNat_ofNat, Nat.xor_mod_two_pow]
theorem parts (x : BitVec 16) : (x &&& 0xfff#16) ^^^ (BitVec.ofNat 16 (x.toNat / 4096) <<< 12) = x := by
  have e : BitVec.ofNat 16 (x.toNat / 4096) = x >>> 12 := by
    have := x.isLt
    apply BitVec.eq_of_toNat_eq
    rw [BitVec.toNat_ofNat, BitVec.toNat_ushiftRight, Nat.shiftRight_eq_div_pow, Nat.mod_eq_of_lt (by omega)]
  rw [e]
  apply BitVec.eq_of_getLsbD_eq
  intro j hj
  have hm : ∀ j, j < 16 → (0xfff#16).getLsbD j = decide (j < 12) := by decide
  simp only [BitVec.getLsbD_xor, BitVec.getLsbD_and, BitVec.getLsbD_shiftLeft, BitVec.getLsbD_ushiftRight, hm j hj]
  by_cases l : j < 12
  · simp [l]
  · have e : 12 + (j - 12) = j := by omega
    simp [l, hj, e]
theorem low_shift (x : BitVec 16) : Tn 4 (x &&& 0xfff#16) = x <<< 4 := by
  rw [Tn_small 4 12 (by omega)]
  · apply BitVec.eq_of_getLsbD_eq
    intro j hj
    have hm : ∀ j, j < 16 → (0xfff#16).getLsbD j = decide (j < 12) := by decide
    simp only [BitVec.getLsbD_and, BitVec.getLsbD_shiftLeft, hm (j - 4) (by omega)]
    have : j - 4 < 12 := by omega
    simp [this]
  · rw [BitVec.toNat_and]
    exact Nat.lt_of_le_of_lt Nat.and_le_right (by decide)
theorem nib (x : BitVec 16) (h : Nat) : (x <<< 4) ^^^ tab (x.toNat / 4096 ^^^ h) = Tn 4 (x ^^^ (BitVec.ofNat 16 h <<< 12)) := by
  conv => rhs; rw [← parts x]
  rw [Tn_xor, Tn_xor, low_shift, tab, xor_sh, Tn_xor, BitVec.xor_assoc]
theorem small12 (l : Nat) (hl : l < 16) : Tn 4 (BitVec.ofNat 16 l <<< 8) = BitVec.ofNat 16 l <<< 12 := by
  revert l; decide
theorem byte_parts (c : UInt8) : (BitVec.ofNat 16 (c.toNat / 16) <<< 12) ^^^ (BitVec.ofNat 16 (c.toNat % 16) <<< 8) = b16 c <<< 8 := by
  have h : ∀ n, n < 256 → (BitVec.ofNat 16 (n / 16) <<< 12) ^^^ (BitVec.ofNat 16 (n % 16) <<< 8) = BitVec.ofNat 16 n <<< 8 := by decide +kernel
  exact h _ c.toNat_lt
theorem two_nibs (x : BitVec 16) (c : UInt8) : Tn 4 (Tn 4 (x ^^^ (BitVec.ofNat 16 (c.toNat / 16) <<< 12)) ^^^ (BitVec.ofNat 16 (c.toNat % 16) <<< 12)) = Tn 8 (x ^^^ (b16 c <<< 8)) := by
  rw [← small12 (c.toNat % 16) (by omega), ← Tn_xor, ← Tn_add, BitVec.xor_assoc, byte_parts]
theorem shl4_int (a : BitVec 16) : IntKind.u16.wrap ((a.toNat : Int) * 16) = ((a <<< 4).toNat : Int) := by
  rw [IntKind.wrap_u16, BitVec.toNat_shiftLeft, Nat.shiftLeft_eq]; omega
theorem idx_lt (x : BitVec 16) (h : Nat) (hh : h < 16) : x.toNat / 4096 ^^^ h < 16 := Nat.xor_lt_two_pow (n := 4) (by have := x.isLt; omega) (by omega)
theorem idx_int (x : BitVec 16) (h : Nat) (hh : h < 16) : Go.bits .xor .u16 ((x.toNat : Int) / 4096) (h : Int) = ((x.toNat / 4096 ^^^ h : Nat) : Int) := by
  have := x.isLt
  rw [show ((x.toNat : Int) / 4096) = ((x.toNat / 4096 : Nat) : Int) by omega, u16_xor_nat _ _ (by omega) (by omega)]
theorem hi_int (c : UInt8) : IntKind.u16.wrap ((c.toNat : Int) / 16) = ((c.toNat / 16 : Nat) : Int) := by
  have := c.toNat_lt; rw [IntKind.wrap_u16]; omega
theorem lo_int (c : UInt8) : IntKind.u16.wrap (Go.bits .and .u8 (c.toNat : Int) 15) = ((c.toNat % 16 : Nat) : Int) := by
  rw [show (15 : Int) = ((15 : Nat) : Int) from rfl, u8_and_nat _ _ c.toNat_lt (by decide), nat_mask4, IntKind.wrap_u16]
  have := c.toNat_lt; omega
theorem step_one (x : BitVec 16) (h : Nat) : Go.bits .xor .u16 (IntKind.u16.wrap ((x.toNat : Int) * 16)) ((tab (x.toNat / 4096 ^^^ h)).toNat : Int) = ((Tn 4 (x ^^^ (BitVec.ofNat 16 h <<< 12))).toNat : Int) := by
  rw [shl4_int, xor_int, nib]
theorem take_snoc (s : ByteArray) (k : Nat) (h : k < s.size) : s.data.toList.take (k + 1) = s.data.toList.take k ++ [s[k]] := by
  rw [List.take_succ_eq_append_getElem (by simpa using h)]; rfl
set_option maxHeartbeats 2000000 in
theorem update_any (s : BitVec 16) (d : ByteArray) (w : World) (hs : d.size ≤ 140737488351232) :
    Calls Try.prog 81 #[U s, .string d] w fun e w' => e = .returned (U (crcU s d.data.toList)) ∧ Below w.heap.size w w' := by
  go_enter Try.func81, Try.ntmps81
  go_wp2_with (first | (go_at_call 92; refine (remainders_any _).mono ?_; rintro e w1 ⟨rfl, hb⟩; have HT := Lib.hid (setRow_heap _ _ _ (tabA 16) _ _ (heap_alloc_new w1 (.cells (tabA 0) 115))); have HB := Lib.hid (below_setRow (hb.trans ((Below.refl w1.heap.size w1).alloc (Nat.le_refl _) (.cells (tabA 0) 115) |>.mono hb.size)) hb.size (tabA 16))) | (refine wpList_store_row rfl 115 _ _ rfl w1.heap.size (tabA 16) rfl rfl 115 (tabA 0) (heap_alloc_new _ _) (by kernel_rfl) (tabA_same _ _) (tabA_one _) ?_))
  go_loopw [0, 10] (fun v i wr => ∃ k : Nat, k ≤ d.size ∧ i = .int .i64 k ∧ v = U (crcU s (d.data.toList.take k)) ∧ Hid (wr.heap[w1.heap.size]? = some (.cells (tabA 16) 115 (0, 0))) ∧ Hid (Below w.heap.size w wr)) (fun _ i _ => d.size - (intOf i).toNat)
  case atStart => exact ⟨0, Nat.zero_le _, rfl, rfl, HT, HB⟩
  case round =>
    clear HT HB
    obtain ⟨k, hk, rfl, rfl, HT, HB⟩ := hrel
    by_cases hlt : k < d.size
    · have HN : Hid (crcU s (d.data.toList.take (k + 1)) = Tn 8 (crcU s (d.data.toList.take k) ^^^ (b16 d[k] <<< 8))) := Lib.hid (by rw [take_snoc d k hlt, crcU_snoc])
      generalize crcU s (d.data.toList.take k) = x at *
      have hc1 := cell_tab HT.out _ (idx_lt x (d[k].toNat / 16) (by have := d[k].toNat_lt; omega))
      have e1 := idx_int x (d[k].toNat / 16) (by have := d[k].toNat_lt; omega)
      rw [← hi_int] at e1
      have l1 := idx_lt x (d[k].toNat / 16) (by have := d[k].toNat_lt; omega)
      have m1 := step_one x (d[k].toNat / 16)
      have n2 := two_nibs x d[k]
      generalize x.toNat / 4096 ^^^ d[k].toNat / 16 = j1 at *
      generalize Tn 4 (x ^^^ (BitVec.ofNat 16 (d[k].toNat / 16) <<< 12)) = y at *
      have hc2 := cell_tab HT.out _ (idx_lt y (d[k].toNat % 16) (by omega))
      have e2 := idx_int y (d[k].toNat % 16) (by omega)
      rw [← lo_int] at e2
      have l2 := idx_lt y (d[k].toNat % 16) (by omega)
      have m2 := step_one y (d[k].toNat % 16)
      rw [n2, ← HN.out] at m2
      generalize y.toNat / 4096 ^^^ d[k].toNat % 16 = j2 at *
      clear n2
      go_wp2
      go_roundw
      case rel => exact ⟨k + 1, by omega, by go_num, rfl, HT, HB⟩
      case measure => simp [intOf]; omega
    · obtain rfl : k = d.size := by omega
      go_wp2
      go_ret
      exact ⟨by rw [List.take_of_length_le (by simp)]; rfl, HB.out⟩
end Go.Proofs.Ytbgnkjaikbhdoaa.CrcA
