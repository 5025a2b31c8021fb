/- Contracts of crc's functions in the words of the plain algebra, for walks by hand. -/
import Derived.Test.YtkhkmmabbpfngaaCrcSumsW
import Derived.Outline
namespace Go.Proofs.Ytkhkmmabbpfngaa.Con
open Go.RowKit Go.Proofs.Ytkhkmmabbpfngaa.Q Go.Proofs.Ytkhkmmabbpfngaa.Alg Go.Proofs.Ytkhkmmabbpfngaa.Ev Go.Proofs.Ytkhkmmabbpfngaa.Pure Go.Proofs.Ytkhkmmabbpfngaa.CrcSumsW Go.Proofs.Ytkhkmmabbpfngaa.CrcA Go.Proofs.YtkhkmmabbpfngaaW.PrintWords Go.Proofs.YtkhkmmabbpfngaaW.PrintLast

theorem awake_any (w : World) : Calls Try.prog 11 #[] w fun e w' => e = .returned (.bool true) ∧ Below w.heap.size w w' := by
  obtain ⟨k, h⟩ := awake_ev
  exact hopmeshlaw03_awake.calls k true w h
theorem mul_any (a b c : BitVec 16) (h : mul a b = c) (w : World) : Calls Try.prog 12 #[U a, U b] w fun e w' => e = .returned (U c) ∧ ∃ m, w' = w.drewN m := by
  subst h
  exact (crc_Multiply.calls 20 (n a) (n b) (n (mul a b)) w (mul_ev a b 20 (by omega))).mono fun _ _ ⟨h1, h2⟩ => ⟨h1, h2.out⟩
theorem pow_any (m : Int) (hm : m ≤ 9223372036854775807) (c : BitVec 16) (h : powI m = c) (w : World) : Calls Try.prog 14 #[.int .i64 m] w fun e w' => e = .returned (U c) ∧ ∃ m, w' = w.drewN m := by
  subst h
  exact (crc_Power.calls (m.toNat + 20) m (n (powI m)) w (pow_ev m hm _ (by omega))).mono fun _ _ ⟨h1, h2⟩ => ⟨h1, h2.out⟩
theorem sum_any (d : ByteArray) (hd : d.size ≤ 140737488351232) (c : BitVec 16) (h : crc d.data.toList = c) (w : World) : Calls Try.prog 16 #[.string d] w fun e w' => e = .returned (U c) ∧ Below w.heap.size w w' := by
  subst h
  exact crc_Sum.calls d (n (crc d.data.toList)) w (sum_ev d hd)
theorem update_any (s : BitVec 16) (d : ByteArray) (hd : d.size ≤ 140737488351232) (c : BitVec 16) (h : crcU s d.data.toList = c) (w : World) : Calls Try.prog 19 #[U s, .string d] w fun e w' => e = .returned (U c) ∧ Below w.heap.size w w' := by
  subst h
  exact CrcA.update_any s d w hd
theorem locate_any (s : BitVec 16) (bits : Int) (r : Int × Bool) (h : locate s bits = r) (w : World) : Calls Try.prog 17 #[U s, .int .i64 bits] w fun e w' => e = .returned (.tuple #[.int .i64 r.1, .bool r.2]) ∧ Below w.heap.size w w' := by
  subst h
  exact crc_Locate.calls 40000 (n s) bits (locate s bits).1 (locate s bits).2 w (locate_ev s bits _ (by omega))
end Go.Proofs.Ytkhkmmabbpfngaa.Con
