/- The contract of the law's flip. -/
import Derived.Test.YtkhkmmabbpfngaaBytes
import Derived.Test.YtkhkmmabbpfngaaCrcConB
import Derived.RegionTactic
import Derived.Outline
import Derived.BigRegion
namespace Go.Proofs.Ytkhkmmabbpfngaa.CrcFlip
open Go.RowKit Go.Proofs.Ytkhkmmabbpfngaa.Bytes Go.Proofs.Ytkhkmmabbpfngaa.Alg Go.Proofs.YtkhkmmabbpfngaaW.PrintWords Go.Proofs.YtkhkmmabbpfngaaW.PrintLast

theorem one_shl : ∀ k, k < 8 → ((1 : UInt8) <<< UInt8.ofNat k).toNat = 2 ^ k := by decide
theorem xor_bit (c : UInt8) (k : Nat) (hk : k < 8) : Go.bits .xor .u8 (c.toNat : Int) (2 ^ k % 256) = ((c ^^^ (1 <<< UInt8.ofNat k)).toNat : Int) := by
  have h : ((2 : Int) ^ k % 256) = (((1 : UInt8) <<< UInt8.ofNat k).toNat : Int) := by
    rw [one_shl k hk]; revert k; decide
  rw [h, u8_xor_nat _ _ c.toNat_lt (UInt8.toNat_lt _), UInt8.toNat_xor]

set_option maxHeartbeats 2000000 in
theorem flip_any (l : List UInt8) (i : Nat) (hi : i < 8 * l.length) (hl : l.length ≤ 1000000) (w : World) :
    Calls Try.prog 26 #[.string (Str l), .int .i64 (i : Int)] w fun e w' => e = .returned (.string (Str (flip l i))) ∧ Below w.heap.size w w' := by
  have kc := fun (w : World) => Lib.run_convert_string_bytes (P := Try.prog) w 9 29 5 (Str l) Try.underlying9 Try.underlying29 Try.underlying5
  have hs : (Str l).size = l.length := by show l.toArray.size = _; simp
  have hr := ByteRow.conv w 5 l
  have hq : (l.length : Int) - 1 - (i : Int) / 8 = ((l.length - 1 - i / 8 : Nat) : Int) := by omega
  have hq2 : l.length - 1 - i / 8 < l.length := by omega
  obtain ⟨hc, hf⟩ := hr _ hq2
  have HR := Lib.hid hr
  have HQ := Lib.hid hq2
  have hb : Below w.heap.size w (Lib.bytesWorld w 5 (Str l)) := Joins.below_bytesWorld _ _ _ _ (Nat.le_refl _)
  have HB := Lib.hid hb
  clear hr hb
  go_enter Try.func26, Try.ntmps26
  go_wp2_with fail
  have HS := Lib.hid hs
  clear hs kc
  generalize Lib.bytesWorld w 5 (Str l) = W1 at HR HB hc hf ⊢
  have HE : Hid (l.set (l.length - 1 - i / 8) (l.getD (l.length - 1 - i / 8) 0 ^^^ (1 <<< UInt8.ofNat (i % 8))) = flip l i) := Lib.hid rfl
  generalize l.length - 1 - i / 8 = q at *
  go_region
  have hv := xor_bit (l[q]'HQ.out) (i % 8) (by omega)
  rw [hv]
  have hg : l[q]'HQ.out = l.getD q 0 := by simp [List.getD, HQ.out]
  rw [hg]
  have H2 := (HR.out.set q HQ.out (l.getD q 0 ^^^ (1 <<< UInt8.ofNat (i % 8)))).drew
  have B2 := Lib.hid (below_drew1 (HB.out.setCell (p := ⟨w.heap.size, q, none⟩) (Nat.le_refl _) (.int .u8 ((l.getD q 0 ^^^ (1 <<< UInt8.ofNat (i % 8))).toNat : Int))))
  have kt := H2.text (P := Try.prog) (grownCap w l.length 0 5) 29 5 9 Try.underlying29 Try.underlying5 Try.underlying9
  rw [List.length_set] at kt
  have HF : Hid (l.set q (l.getD q 0 ^^^ (1 <<< UInt8.ofNat (i % 8))) = flip l i) := HE.out
  rw [HF.out] at kt
  clear H2 HF hv hg hc hf HR HB HE
  generalize World.drew (World.setCell _ _ _) = W2 at kt B2 ⊢
  go_wp2
  go_ret
  exact ⟨rfl, B2.out⟩
end Go.Proofs.Ytkhkmmabbpfngaa.CrcFlip
