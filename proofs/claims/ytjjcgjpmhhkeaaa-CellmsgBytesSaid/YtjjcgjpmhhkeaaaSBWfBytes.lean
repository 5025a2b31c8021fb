/- hopmeshref02.Writer.Bytes: the bits, eight in a byte. (cut to what is reached: wip/tools/slimout2.py) -/
import Derived.Test.YtjjcgjpmhhkeaaaSBWfAll
import Derived.Laws.MakeOwn
import Derived.Deep.RegionHeld3
import Derived.Test.YtjjcgjpmhhkeaaaSBWx
namespace Go.Proofs.Ytjjcgjpmhhkeaaa.WfBytes
set_option linter.unusedSimpArgs false
set_option linter.unusedVariables false
open Go.RowKit Go.Proofs.YtjjcgjpmhhkeaaaW.PrintWords Go.Proofs.Ytjjcgjpmhhkeaaa.Pack Go.Proofs.Ytjjcgjpmhhkeaaa.Wf Go.Proofs.Ytjjcgjpmhhkeaaa.WfPut Go.Proofs.Ytjjcgjpmhhkeaaa.WfAll
open Go.Proofs.Ytjjcgjpmhhkeaaa.Wr (B8 T8)
open Go.Proofs.Ytjjcgjpmhhkeaaa.WrPut (info8 below_drew' cell_new)
open Go.Proofs.Ytjjcgjpmhhkeaaa.Bytes (Str ByteRow)
def pad (L : Nat) (l : List UInt8) : List UInt8 := l ++ List.replicate (L - l.length) 0
theorem pad_length (L : Nat) (l : List UInt8) (h : l.length ≤ L) : (pad L l).length = L := by simp [pad]; omega
theorem pad_set (L : Nat) (l : List UInt8) (i : Nat) (x : UInt8) (h : i < l.length) : pad L (l.set i x) = (pad L l).set i x := by
  unfold pad; rw [List.length_set, List.set_append_left _ _ h]
theorem pad_get (L : Nat) (l : List UInt8) (i : Nat) (h : i < l.length) : (pad L l).getD i 0 = l.getD i 0 := by
  simp [pad, List.getD, List.getElem?_append_left h]
theorem pad_zero (L : Nat) (l : List UInt8) (h : l.length < L) : pad L (l ++ [0]) = pad L l := by
  unfold pad
  rw [List.length_append, List.length_singleton, List.append_assoc]
  congr 1
  obtain ⟨r, hr⟩ : ∃ r, L - l.length = r + 1 := ⟨L - l.length - 1, by omega⟩
  rw [hr, show L - (l.length + 1) = r by omega, List.replicate_succ]; rfl
theorem pad_add (L : Nat) (l : List UInt8) (n : Nat) (b : Bool) (hl : l.length = (n + 7) / 8) (hn : n / 8 < L) :
    pad L (addBit l n b) = (pad L l).set (n / 8) ((pad L l).getD (n / 8) 0 ||| ((if b then 1 else 0) <<< UInt8.ofNat (7 - n % 8))) := by
  have key : ∀ m : List UInt8, n / 8 < m.length → pad L m = pad L l → pad L (m.set (n / 8) (m.getD (n / 8) 0 ||| ((if b then 1 else 0) <<< UInt8.ofNat (7 - n % 8)))) = (pad L l).set (n / 8) ((pad L l).getD (n / 8) 0 ||| ((if b then 1 else 0) <<< UInt8.ofNat (7 - n % 8))) := by
    intro m hm he
    rw [pad_set _ _ _ _ hm, ← he, pad_get _ _ _ hm]
  unfold addBit
  by_cases h8 : n % 8 = 0
  · rw [if_pos h8]
    exact key (l ++ [0]) (by rw [List.length_append, List.length_singleton]; omega) (pad_zero L l (by omega))
  · rw [if_neg h8]
    exact key l (by omega) rfl
theorem pad_full (l : List UInt8) : pad l.length l = l := by simp [pad]
theorem make_run (W : World) (L : Nat) (hL : L ≤ 1000000) : ∃ w', (Instr.makeSlice 43 (.int .i64 (L : Int)) (.int .i64 (L : Int))).run Try.prog W = .ok (.slice (some ⟨W.heap.size, 0, none⟩) L L) w' ∧
    ByteRow w' W.heap.size (List.replicate L 0) ∧ Below W.heap.size W w' ∧ W.heap.size < w'.heap.size := by
  obtain ⟨i0, hi, hz0, hz1, hz2⟩ := info_parts info8
  have hr := run_make (P := Try.prog) W 43 5 i0 (.int .u8 0) Try.underlying43 hi hz0 .i64 .i64 (L : Int) (L : Int) (by omega) (by omega) (by rw [hz2]; omega) (by omega)
  refine ⟨_, hr, ?_, ?_, ?_⟩
  · intro j hj
    rw [List.length_replicate] at hj
    have hcs : (madeCells (Value.int .u8 0).cells ((L : Int).toNat * i0.size))[j]? = some (.int .u8 0) := by
      rw [hz1, Nat.mul_one, Int.toNat_natCast]
      simp [madeCells, Value.cells, hj, Nat.mod_one]
    refine ⟨?_, ?_⟩
    · rw [World.cell?_alloc_at _ _ _ _ rfl, hcs]
      simp [List.getD, hj]
    · have hb := heap_alloc_new W (.cells (madeCells (Value.int .u8 0).cells ((L : Int).toNat * i0.size)) 5)
      exact frozen_of_row _ _ _ _ _ hb
  · exact (Below.refl _ _).alloc (Nat.le_refl _) _
  · simp
theorem or_byte (c : UInt8) (b : Bool) (r : Nat) (hr : r < 8) : Go.bits .or .u8 (c.toNat : Int) ((((bb b).toNat : Int) * 2 ^ r % 256)) = ((c ||| ((if b then 1 else 0) <<< UInt8.ofNat r)).toNat : Int) := by
  have hx : (((bb b).toNat : Int) * 2 ^ r % 256) = (((if b then (1 : UInt8) else 0) <<< UInt8.ofNat r).toNat : Int) := by
    cases b
    · have : ∀ r, r < 8 → (((bb false).toNat : Int) * 2 ^ r % 256) = (((if false then (1 : UInt8) else 0) <<< UInt8.ofNat r).toNat : Int) := by decide
      exact this r hr
    · have : ∀ r, r < 8 → (((bb true).toNat : Int) * 2 ^ r % 256) = (((if true then (1 : UInt8) else 0) <<< UInt8.ofNat r).toNat : Int) := by decide
      exact this r hr
  rw [hx, u8_or_nat _ _ c.toNat_lt (UInt8.toNat_lt _), UInt8.toNat_or]
theorem pack_take (bs : List Bool) (i : Nat) (h : i < bs.length) : pack (bs.take (i + 1)) = addBit (pack (bs.take i)) i (bs.getD i false) := by
  rw [List.take_succ_eq_append_getElem h, pack_snoc, List.length_take, Nat.min_eq_left (by omega)]
  congr 1
  simp [List.getD, h]
set_option maxRecDepth 100000 in
set_option maxHeartbeats 4000000 in
theorem bytes_f {B g : Nat} {G : List (Nat × Obj)} {w : World} {bs : List Bool} (h : Wf B G w g bs) (hn : bs.length ≤ 524288) :
    Calls Try.prog 39 #[.pointer (some ⟨g, 0, none⟩)] w fun e w' => e = .returned (.tuple #[.string (Str (pack bs)), .int .i64 0]) ∧ Below w.heap.size w w' := by
  obtain ⟨v, c0, c1, hf, hown, hv⟩ := WfL.cells h
  obtain ⟨A, c, rfl⟩ := row_form hown
  have HH := Lib.hid h
  rw [List.length_map] at c0
  have hgl : g < w.heap.size := WfL.lt h
  obtain ⟨L, hLe⟩ : ∃ L, L = (bs.length + 7) / 8 := ⟨_, rfl⟩
  obtain ⟨w1, hmk, hrow, hbel, hsz⟩ := make_run w L (by omega)
  have hLi : ((bs.length : Int) + 7) / 8 = (L : Int) := by omega
  rw [← hLi] at hmk
  have HR : Hid (ByteRow w1 w.heap.size (pad L (pack (bs.take 0)))) := by
    refine Lib.hid ?_
    have : pad L (pack (bs.take 0)) = List.replicate L 0 := by
      rw [List.take_zero]; simp [pad, pack, packFrom]
    rw [this]; exact hrow
  have HB := Lib.hid hbel
  have HLE := Lib.hid hLe
  have HLI := Lib.hid hLi
  clear hown hv hf h hrow hbel hLe hLi
  go_enter Try.func39, Try.ntmps39
  go_wp2
  clear hmk c0 c1
  go_loopw [5] (fun j wr => ∃ i : Nat, i ≤ bs.length ∧ j = .int .i64 i ∧ Hid (ByteRow wr w.heap.size (pad L (pack (bs.take i)))) ∧ Hid (Below w.heap.size w wr) ∧ w.heap.size < wr.heap.size) (fun j _ => bs.length - (intOf j).toNat)
  case atStart => exact ⟨0, Nat.zero_le _, rfl, HR, HB, hsz⟩
  case round =>
    clear HR HB hsz
    obtain ⟨i, hi, rfl, HR, HB, hsz⟩ := hrel
    have HW := Lib.hid (WfL.below HH.out HB.out)
    obtain ⟨v2, c0, c1, hf, hown, hv⟩ := WfL.cells HW.out
    obtain ⟨A2, cc, rfl⟩ := row_form hown
    by_cases he : i = bs.length
    · subst he
      rw [List.length_map] at c0
      have HT : (convert 43 9 (.slice (some ⟨w.heap.size, 0, none⟩) L L)).run Try.prog wr = .ok (.string (Str (pack bs))) wr := by
        have hp : pad L (pack (bs.take bs.length)) = pack bs := by
          rw [List.take_length, HLE.out, ← pack_length, pad_full]
        have hl : (pack bs).length = L := by rw [pack_length, HLE.out]
        have h2 := HR.out
        rw [hp] at h2
        have := Bytes.ByteRow.text (P := Try.prog) h2 L 43 5 9 Try.underlying43 Try.underlying5 Try.underlying9
        rw [hl] at this
        exact this
      clear hf hown hv HW HR c1
      go_wp2
      go_ret2
      exact ⟨rfl, HB.out⟩
    · have hlt : i < bs.length := by omega
      obtain ⟨gr, cap, e, hcell⟩ := WfL.row_cells hown (by rw [List.length_map]; omega)
      rw [e] at c0
      rw [List.length_map] at c0
      have c2 := hcell i (by rw [List.length_map]; exact hlt)
      have eb : (bs.map bb).getD i 0 = bb (bs.getD i false) := by simp [List.getD, hlt]
      rw [eb] at c2
      obtain ⟨p, hp⟩ : ∃ p, p = i / 8 := ⟨_, rfl⟩
      have hpL : p < L := by have := HLE.out; omega
      obtain ⟨a, ha⟩ : ∃ a : Int, IntKind.i64.wrap ((i : Int) / 8) = a := ⟨_, rfl⟩
      obtain ⟨b, hb⟩ : ∃ b : Int, IntKind.i64.wrap (7 - (i : Int) % 8) = b := ⟨_, rfl⟩
      have ha2 : a = (p : Int) := by rw [← ha, IntKind.wrap_i64]; omega
      have hb2 : b = ((7 - i % 8 : Nat) : Int) := by rw [← hb, IntKind.wrap_i64]; omega
      have hat : a.toNat = p := by omega
      have hbt : b.toNat = 7 - i % 8 := by omega
      have htd : (i : Int).tdiv 8 = (i : Int) / 8 := Int.tdiv_eq_ediv_of_nonneg (by omega)
      have htm : (i : Int).tmod 8 = (i : Int) % 8 := Int.tmod_eq_emod_of_nonneg (by omega)
      obtain ⟨o1, o2⟩ := HR.out p (by rw [pad_length _ _ (by rw [pack_length, List.length_take, HLE.out]; omega)]; exact hpL)
      rw [← hat] at o1 o2
      have p0 : (0 ≤ a) = True := eq_true (by omega)
      have p1 : (a < (L : Int)) = True := eq_true (by omega)
      have p3 : (0 ≤ b) = True := eq_true (by omega)
      have i0 : (0 ≤ (i : Int)) = True := eq_true (by omega)
      have i1 : ((i : Int) < (bs.length : Int)) = True := eq_true (by omega)
      have hS := ByteRow.set HR.out p (by rw [pad_length _ _ (by rw [pack_length, List.length_take, HLE.out]; omega)]; exact hpL) ((pad L (pack (bs.take i))).getD p 0 ||| ((if bs.getD i false then 1 else 0) <<< UInt8.ofNat (min b.toNat 8)))
      have hOR := or_byte ((pad L (pack (bs.take i))).getD p 0) (bs.getD i false) (min b.toNat 8) (by omega)
      have HRr : Hid (min b.toNat 8 = 7 - i % 8) := Lib.hid (by omega)
      have HS := Lib.hid hS
      have HOR := Lib.hid hOR
      have HPp := Lib.hid hp
      have HAt := Lib.hid hat
      rw [hat] at o1
      generalize hcv : (pad L (pack (bs.take i))).getD p 0 = cv at *
      generalize hbv : bs.getD i false = bv at *
      rw [← hat] at o1
      have HCc := Lib.hid hcv
      have HBb := Lib.hid hbv
      clear hf hown hv HW c1 hcell e eb hp hcv hbv hat hbt ha2 hb2 hS hOR
      go_wp2
      go_region
      all_goals (
        rw [HOR.out]
        rw [HAt.out]
        have HB2 := Lib.hid (below_drew' (HB.out.setCell (p := ⟨w.heap.size, p, none⟩) (Nat.le_refl _) (.int .u8 ((cv ||| ((if bv then 1 else 0) <<< UInt8.ofNat (min b.toNat 8))).toNat : Int))))
        have HS2 := Lib.hid (ByteRow.drew HS.out)
        have hz2 : w.heap.size < (World.drew (wr.setCell ⟨w.heap.size, p, none⟩ (.int .u8 ((cv ||| ((if bv then 1 else 0) <<< UInt8.ofNat (min b.toNat 8))).toNat : Int)))).heap.size := by
          rw [show (World.drew (wr.setCell ⟨w.heap.size, p, none⟩ (.int .u8 ((cv ||| ((if bv then 1 else 0) <<< UInt8.ofNat (min b.toNat 8))).toNat : Int)))).heap.size = wr.heap.size by simp]; exact hsz
        clear HS HB HR hsz o1 o2 c0 c2 HOR
        generalize World.drew (wr.setCell ⟨w.heap.size, p, none⟩ (.int .u8 ((cv ||| ((if bv then 1 else 0) <<< UInt8.ofNat (min b.toNat 8))).toNat : Int))) = w3 at HB2 HS2 hz2 ⊢
        have HS3 : Hid (ByteRow w3 w.heap.size (pad L (pack (bs.take (i + 1))))) := by
          refine Lib.hid ?_
          rw [pack_take bs i hlt, pad_add L _ i _ (by rw [pack_length, List.length_take, Nat.min_eq_left (by omega)]) (by rw [← HPp.out]; exact hpL), ← HPp.out, HCc.out, HBb.out, ← HRr.out]
          exact HS2.out
        clear ha hb htd htm p0 p1 p3 i0 i1
        go_wp2
        go_roundw
        case rel => exact ⟨i + 1, by omega, by simp, HS3, HB2, hz2⟩
        case measure => simp [intOf]; omega)
end Go.Proofs.Ytjjcgjpmhhkeaaa.WfBytes
