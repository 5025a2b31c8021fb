/- The reference's check of a protected string: what it comes to. (cut to what is reached: wip/tools/slimout2.py) -/
import Derived.Test.YtbgnkjaikbhdoaaFGFrCrc
namespace Go.Proofs.Ytbgnkjaikbhdoaa.FrCk
set_option linter.unusedSimpArgs false
set_option linter.unusedVariables false
open Go.RowKit Go.Proofs.Ytbgnkjaikbhdoaa.Q Go.Proofs.Ytbgnkjaikbhdoaa.Alg Go.Proofs.Ytbgnkjaikbhdoaa.CrcA Go.Proofs.Ytbgnkjaikbhdoaa.FrCrc Go.Proofs.YtbgnkjaikbhdoaaW.PrintWords Go.Proofs.YtbgnkjaikbhdoaaW.PrintLast Go.Proofs.YtbgnkjaikbhdoaaW.PrintMore
open Go.Proofs.Ytbgnkjaikbhdoaa.Bytes (Str)
theorem rsyn_ev (l : List UInt8) (h : l.length ≤ 140737488351232) (k : Nat) (hk : 10 * l.length + 1 < k) : hopmeshref03_Syndrome.f k (Str l) = some (synd l) := by
  unfold synd
  by_cases h2 : l.length < 2
  · rw [if_pos h2]; unfold hopmeshref03_Syndrome.f; rw [str_size, if_pos (by omega)]
  · rw [if_neg h2]
    obtain ⟨m, a, b, rfl⟩ := long_parts l (by omega)
    have hm : (m ++ [a, b]).length = m.length + 2 := by simp
    have hs : (Str (m ++ [a, b])).size = m.length + 2 := by rw [str_size]; simp
    rw [hm] at h hk
    unfold hopmeshref03_Syndrome.f
    rw [hs]
    have e1 : (((m.length + 2 : Nat) : Int) - 2) = (m.length : Int) := by omega
    rw [e1, wr (a := (m.length : Int)) (by omega) (by omega), if_neg (by omega), if_pos (by omega), if_pos (by omega), Int.toNat_natCast, extract_front, rsum_ev _ (by rw [str_size]; omega) _ (by rw [str_size]; omega), str_list]
    simp only [Option.bind_some]
    have e2 : wrap64 (((m.length + 2 : Nat) : Int) - 1) = ((m.length + 1 : Nat) : Int) := by rw [wr (by omega) (by omega)]; omega
    rw [e2, if_pos (by omega), if_pos (by omega), if_pos (by omega), bt_byte _ _ (by rw [hs]; omega), bt_byte _ _ (by rw [hs]; omega)]
    have g1 : (Str (m ++ [a, b]))[m.length]'(by rw [hs]; omega) = a := by
      show (m ++ [a, b]).toArray[m.length]'_ = a
      simp
    have g2 : (Str (m ++ [a, b]))[m.length + 1]'(by rw [hs]; omega) = b := by
      show (m ++ [a, b]).toArray[m.length + 1]'_ = b
      simp
    rw [g1, g2, xor_or, show Go.bits .xor .u16 (n (crc m)) (n ((b16 a <<< 8) ^^^ b16 b)) = n (crc m ^^^ ((b16 a <<< 8) ^^^ b16 b)) from CrcA.xor_int _ _, syndrome_eq]
theorem rchk_ev (l : List UInt8) (h : l.length ≤ 140737488351232) (k : Nat) (hk : 10 * l.length + 1 < k) : hopmeshref03_Check.f k (Str l) = some (Str (chk l).1, (chk l).2) := by
  unfold hopmeshref03_Check.f chk
  rw [rsyn_ev l h k hk]; simp only [Option.bind_some]
  unfold synd
  by_cases h2 : l.length < 2
  · rw [if_pos h2, if_pos h2]; rfl
  · rw [if_neg h2, if_neg h2, if_pos rfl]
    by_cases h0 : rem l = 0#16
    · rw [if_pos h0, if_pos (by rw [h0]; rfl), str_size, wr (by omega) (by omega), if_pos (by omega), if_pos (by omega)]
      have e : ((l.length : Int) - 2).toNat = l.length - 2 := by omega
      rw [e, Lib.extract_eq, str_list]; simp
    · have hne : ¬ n (rem l) = 0 := fun e => h0 (n_inj.1 (show n _ = n 0#16 from e))
      rw [if_neg h0, if_neg hne]
theorem rchk_any (l : List UInt8) (h : l.length ≤ 140737488351232) (w : World) :
    Calls Try.prog 43 #[.string (Str l)] w fun e w' => e = .returned (.tuple #[.string (Str (chk l).1), .int .i64 (chk l).2]) ∧ Drawn0 w w' :=
  hopmeshref03_Check.calls (10 * l.length + 2) (Str l) (Str (chk l).1) (chk l).2 w (rchk_ev l h _ (by omega))
end Go.Proofs.Ytbgnkjaikbhdoaa.FrCk
