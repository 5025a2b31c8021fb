/- The row of the law FrameBack: for every input it returns true, and the input reads as it did. Written by wip/row.py of this session. The walk of FrameBack. Printed by wip/frbs.py. -/
import Derived.Test.YtbgnkjaikbhdoaaMF4
import Derived.Test.YtbgnkjaikbhdoaaRows
import Derived.WalkKit
import Derived.ProofKit
import Derived.OpenShut
import Derived.ShutString
import Derived.ChangeOld
import Derived.Below
import Derived.SizedLaws
-- FrBackW
namespace Go.Proofs.Ytbgnkjaikbhdoaa.FrBackW
set_option linter.unusedSimpArgs false
set_option linter.unusedVariables false
open Go.RowKit Go.Proofs.Ytbgnkjaikbhdoaa.Pack Go.Proofs.Ytbgnkjaikbhdoaa.FrA Go.Proofs.Ytbgnkjaikbhdoaa.FrF Go.Proofs.Ytbgnkjaikbhdoaa.FrCrc Go.Proofs.Ytbgnkjaikbhdoaa.FrE Go.Proofs.Ytbgnkjaikbhdoaa.FrC Go.Proofs.Ytbgnkjaikbhdoaa.FrEn Go.Proofs.Ytbgnkjaikbhdoaa.FrT Go.Proofs.Ytbgnkjaikbhdoaa.FrAw Go.Proofs.Ytbgnkjaikbhdoaa.Alg Go.Proofs.Ytbgnkjaikbhdoaa.Dec Go.Proofs.Ytbgnkjaikbhdoaa.BackF Go.Proofs.Ytbgnkjaikbhdoaa.Strict Go.Proofs.Ytbgnkjaikbhdoaa.FrAt
open Go.Proofs.Ytbgnkjaikbhdoaa.Bytes (Str)

set_option maxRecDepth 100000 in
set_option maxHeartbeats 8000000 in
theorem far (k s t l q x y er sl rk ep : Int) (d : List UInt8) (hd : 300 < d.length) (w : World) :
    Calls Try.prog 6 #[.agg (fr k s t l q x y er sl rk ep d)] w fun r w' => r = .returned (.bool true) ∧ Below w.heap.size w w' := by
  have es : (Str d).size = d.length := str_size d
  have e1 : decide ((300 : Int) < (d.length : Int)) = true := decide_eq_true (by omega)
  clear hd
  go_enter Try.func6, Try.ntmps6
  go_wp2_with fail
  ((with_reducible refine (awake_any _).mono ?_); rintro r w1 ⟨rfl, hb⟩)
  have A1 : Hid (At w w1 w.heap.size (fr k s t l q x y er sl rk ep d)) := Lib.hid (boxed _ _ _ hb)
  clear hb
  have c0 := cell_of_row w1 _ 0 _ _ _ A1.out.1
  have c1 := cell_of_row w1 _ 1 _ _ _ A1.out.1
  have c2 := cell_of_row w1 _ 2 _ _ _ A1.out.1
  have c3 := cell_of_row w1 _ 3 _ _ _ A1.out.1
  have c4 := cell_of_row w1 _ 4 _ _ _ A1.out.1
  have c5 := cell_of_row w1 _ 5 _ _ _ A1.out.1
  have c6 := cell_of_row w1 _ 6 _ _ _ A1.out.1
  have c7 := cell_of_row w1 _ 7 _ _ _ A1.out.1
  have c8 := cell_of_row w1 _ 8 _ _ _ A1.out.1
  have c9 := cell_of_row w1 _ 9 _ _ _ A1.out.1
  have c10 := cell_of_row w1 _ 10 _ _ _ A1.out.1
  have c11 := cell_of_row w1 _ 11 _ _ _ A1.out.1
  try simp only [fr] at c0 c1 c2 c3 c4 c5 c6 c7 c8 c9 c10 c11
  go_wp2_with fail
  go_ret
  exact ⟨rfl, A1.out.2⟩
set_option maxRecDepth 100000 in
set_option maxHeartbeats 8000000 in
theorem bad (k s t l q x y er sl rk ep : Int) (d : List UInt8) (hd : d.length ≤ 300) (he : encF k s t l q x y er sl rk ep d = ([], 1)) (hck : ckF k s t l q x y er sl rk ep d = 1) (w : World) :
    Calls Try.prog 6 #[.agg (fr k s t l q x y er sl rk ep d)] w fun r w' => r = .returned (.bool true) ∧ Below w.heap.size w w' := by
  have es : (Str d).size = d.length := str_size d
  have e1 : decide ((300 : Int) < (d.length : Int)) = false := decide_eq_false (by omega)
  clear hd
  have HE := Lib.hid (fun w => encode_any k s t l q x y er sl rk ep d _ he w)
  have HK := fun w => check_any k s t l q x y er sl rk ep d w
  rw [hck] at HK
  have HK := Lib.hid HK
  clear he hck
  go_enter Try.func6, Try.ntmps6
  go_wp2_with fail
  ((with_reducible refine (awake_any _).mono ?_); rintro r w1 ⟨rfl, hb⟩)
  have A1 : Hid (At w w1 w.heap.size (fr k s t l q x y er sl rk ep d)) := Lib.hid (boxed _ _ _ hb)
  clear hb
  have c0 := cell_of_row w1 _ 0 _ _ _ A1.out.1
  have c1 := cell_of_row w1 _ 1 _ _ _ A1.out.1
  have c2 := cell_of_row w1 _ 2 _ _ _ A1.out.1
  have c3 := cell_of_row w1 _ 3 _ _ _ A1.out.1
  have c4 := cell_of_row w1 _ 4 _ _ _ A1.out.1
  have c5 := cell_of_row w1 _ 5 _ _ _ A1.out.1
  have c6 := cell_of_row w1 _ 6 _ _ _ A1.out.1
  have c7 := cell_of_row w1 _ 7 _ _ _ A1.out.1
  have c8 := cell_of_row w1 _ 8 _ _ _ A1.out.1
  have c9 := cell_of_row w1 _ 9 _ _ _ A1.out.1
  have c10 := cell_of_row w1 _ 10 _ _ _ A1.out.1
  have c11 := cell_of_row w1 _ 11 _ _ _ A1.out.1
  try simp only [fr] at c0 c1 c2 c3 c4 c5 c6 c7 c8 c9 c10 c11
  go_wp2_with fail
  ((with_reducible refine (HE.out _).mono ?_); rintro r w2 ⟨rfl, hb⟩)
  have A2 := Lib.hid (A1.out.later hb)
  clear hb A1 HE c0 c1 c2 c3 c4 c5 c6 c7 c8 c9 c10 c11
  have c0 := cell_of_row w2 _ 0 _ _ _ A2.out.1
  have c1 := cell_of_row w2 _ 1 _ _ _ A2.out.1
  have c2 := cell_of_row w2 _ 2 _ _ _ A2.out.1
  have c3 := cell_of_row w2 _ 3 _ _ _ A2.out.1
  have c4 := cell_of_row w2 _ 4 _ _ _ A2.out.1
  have c5 := cell_of_row w2 _ 5 _ _ _ A2.out.1
  have c6 := cell_of_row w2 _ 6 _ _ _ A2.out.1
  have c7 := cell_of_row w2 _ 7 _ _ _ A2.out.1
  have c8 := cell_of_row w2 _ 8 _ _ _ A2.out.1
  have c9 := cell_of_row w2 _ 9 _ _ _ A2.out.1
  have c10 := cell_of_row w2 _ 10 _ _ _ A2.out.1
  have c11 := cell_of_row w2 _ 11 _ _ _ A2.out.1
  try simp only [fr] at c0 c1 c2 c3 c4 c5 c6 c7 c8 c9 c10 c11
  go_wp2_with fail
  ((with_reducible refine (HK.out _).mono ?_); rintro r w3 ⟨rfl, hb⟩)
  have A3 := Lib.hid (A2.out.later hb)
  clear hb A2 HK c0 c1 c2 c3 c4 c5 c6 c7 c8 c9 c10 c11
  go_wp2_with fail
  go_ret
  exact ⟨rfl, A3.out.2⟩
set_option maxRecDepth 100000 in
set_option maxHeartbeats 8000000 in
theorem big (k s t l q x y er sl rk ep : Int) (d : List UInt8) (hd : d.length ≤ 300) (he : encF k s t l q x y er sl rk ep d = ([], 8)) (hck : ckF k s t l q x y er sl rk ep d = 0) (w : World) :
    Calls Try.prog 6 #[.agg (fr k s t l q x y er sl rk ep d)] w fun r w' => r = .returned (.bool true) ∧ Below w.heap.size w w' := by
  have es : (Str d).size = d.length := str_size d
  have e1 : decide ((300 : Int) < (d.length : Int)) = false := decide_eq_false (by omega)
  clear hd
  have HE := Lib.hid (fun w => encode_any k s t l q x y er sl rk ep d _ he w)
  have HK := fun w => check_any k s t l q x y er sl rk ep d w
  rw [hck] at HK
  have HK := Lib.hid HK
  clear he hck
  go_enter Try.func6, Try.ntmps6
  go_wp2_with fail
  ((with_reducible refine (awake_any _).mono ?_); rintro r w1 ⟨rfl, hb⟩)
  have A1 : Hid (At w w1 w.heap.size (fr k s t l q x y er sl rk ep d)) := Lib.hid (boxed _ _ _ hb)
  clear hb
  have c0 := cell_of_row w1 _ 0 _ _ _ A1.out.1
  have c1 := cell_of_row w1 _ 1 _ _ _ A1.out.1
  have c2 := cell_of_row w1 _ 2 _ _ _ A1.out.1
  have c3 := cell_of_row w1 _ 3 _ _ _ A1.out.1
  have c4 := cell_of_row w1 _ 4 _ _ _ A1.out.1
  have c5 := cell_of_row w1 _ 5 _ _ _ A1.out.1
  have c6 := cell_of_row w1 _ 6 _ _ _ A1.out.1
  have c7 := cell_of_row w1 _ 7 _ _ _ A1.out.1
  have c8 := cell_of_row w1 _ 8 _ _ _ A1.out.1
  have c9 := cell_of_row w1 _ 9 _ _ _ A1.out.1
  have c10 := cell_of_row w1 _ 10 _ _ _ A1.out.1
  have c11 := cell_of_row w1 _ 11 _ _ _ A1.out.1
  try simp only [fr] at c0 c1 c2 c3 c4 c5 c6 c7 c8 c9 c10 c11
  go_wp2_with fail
  ((with_reducible refine (HE.out _).mono ?_); rintro r w2 ⟨rfl, hb⟩)
  have A2 := Lib.hid (A1.out.later hb)
  clear hb A1 HE c0 c1 c2 c3 c4 c5 c6 c7 c8 c9 c10 c11
  have c0 := cell_of_row w2 _ 0 _ _ _ A2.out.1
  have c1 := cell_of_row w2 _ 1 _ _ _ A2.out.1
  have c2 := cell_of_row w2 _ 2 _ _ _ A2.out.1
  have c3 := cell_of_row w2 _ 3 _ _ _ A2.out.1
  have c4 := cell_of_row w2 _ 4 _ _ _ A2.out.1
  have c5 := cell_of_row w2 _ 5 _ _ _ A2.out.1
  have c6 := cell_of_row w2 _ 6 _ _ _ A2.out.1
  have c7 := cell_of_row w2 _ 7 _ _ _ A2.out.1
  have c8 := cell_of_row w2 _ 8 _ _ _ A2.out.1
  have c9 := cell_of_row w2 _ 9 _ _ _ A2.out.1
  have c10 := cell_of_row w2 _ 10 _ _ _ A2.out.1
  have c11 := cell_of_row w2 _ 11 _ _ _ A2.out.1
  try simp only [fr] at c0 c1 c2 c3 c4 c5 c6 c7 c8 c9 c10 c11
  go_wp2_with fail
  ((with_reducible refine (HK.out _).mono ?_); rintro r w3 ⟨rfl, hb⟩)
  have A3 := Lib.hid (A2.out.later hb)
  clear hb A2 HK c0 c1 c2 c3 c4 c5 c6 c7 c8 c9 c10 c11
  go_wp2_with fail
  go_ret
  exact ⟨rfl, A3.out.2⟩
attribute [local go_sem high] eqFr
set_option maxRecDepth 100000 in
set_option maxHeartbeats 8000000 in
theorem good (k s t l q x y er sl rk ep : Int) (d : List UInt8) (hd : d.length ≤ 300) (p : List UInt8) (he : encF k s t l q x y er sl rk ep d = (p, 0)) (hD : decF p = (⟨k, s, t, l, q, x, y, er, sl, rk, ep, d⟩, 0)) (hck : ckF k s t l q x y er sl rk ep d = 0) (hpl : p.length ≤ 127) (w : World) :
    Calls Try.prog 6 #[.agg (fr k s t l q x y er sl rk ep d)] w fun r w' => r = .returned (.bool true) ∧ Below w.heap.size w w' := by
  have es : (Str d).size = d.length := str_size d
  have e1 : decide ((300 : Int) < (d.length : Int)) = false := decide_eq_false (by omega)
  clear hd
  have HE := Lib.hid (fun w => encode_any k s t l q x y er sl rk ep d _ he w)
  have HK := fun w => check_any k s t l q x y er sl rk ep d w
  rw [hck] at HK
  have HK := Lib.hid HK
  have HD : Hid (∀ w, Calls Try.prog 22 #[.string (Str p)] w fun e w' => e = .returned (.tuple #[.agg (fr k s t l q x y er sl rk ep d), .int .i64 0]) ∧ Below w.heap.size w w') := Lib.hid (fun w => decode_any p _ hD w)
  have hps : (Str p).size = p.length := str_size p
  have p1 : decide ((p.length : Int) ≤ 127) = true := decide_eq_true (by omega)
  have heq := eq_self k s t l q x y er sl rk ep (Str d)
  clear he hck hD hpl
  go_enter Try.func6, Try.ntmps6
  go_wp2_with fail
  ((with_reducible refine (awake_any _).mono ?_); rintro r w1 ⟨rfl, hb⟩)
  have A1 : Hid (At w w1 w.heap.size (fr k s t l q x y er sl rk ep d)) := Lib.hid (boxed _ _ _ hb)
  clear hb
  have c0 := cell_of_row w1 _ 0 _ _ _ A1.out.1
  have c1 := cell_of_row w1 _ 1 _ _ _ A1.out.1
  have c2 := cell_of_row w1 _ 2 _ _ _ A1.out.1
  have c3 := cell_of_row w1 _ 3 _ _ _ A1.out.1
  have c4 := cell_of_row w1 _ 4 _ _ _ A1.out.1
  have c5 := cell_of_row w1 _ 5 _ _ _ A1.out.1
  have c6 := cell_of_row w1 _ 6 _ _ _ A1.out.1
  have c7 := cell_of_row w1 _ 7 _ _ _ A1.out.1
  have c8 := cell_of_row w1 _ 8 _ _ _ A1.out.1
  have c9 := cell_of_row w1 _ 9 _ _ _ A1.out.1
  have c10 := cell_of_row w1 _ 10 _ _ _ A1.out.1
  have c11 := cell_of_row w1 _ 11 _ _ _ A1.out.1
  try simp only [fr] at c0 c1 c2 c3 c4 c5 c6 c7 c8 c9 c10 c11
  go_wp2_with fail
  ((with_reducible refine (HE.out _).mono ?_); rintro r w2 ⟨rfl, hb⟩)
  have A2 := Lib.hid (A1.out.later hb)
  clear hb A1 HE c0 c1 c2 c3 c4 c5 c6 c7 c8 c9 c10 c11
  have c0 := cell_of_row w2 _ 0 _ _ _ A2.out.1
  have c1 := cell_of_row w2 _ 1 _ _ _ A2.out.1
  have c2 := cell_of_row w2 _ 2 _ _ _ A2.out.1
  have c3 := cell_of_row w2 _ 3 _ _ _ A2.out.1
  have c4 := cell_of_row w2 _ 4 _ _ _ A2.out.1
  have c5 := cell_of_row w2 _ 5 _ _ _ A2.out.1
  have c6 := cell_of_row w2 _ 6 _ _ _ A2.out.1
  have c7 := cell_of_row w2 _ 7 _ _ _ A2.out.1
  have c8 := cell_of_row w2 _ 8 _ _ _ A2.out.1
  have c9 := cell_of_row w2 _ 9 _ _ _ A2.out.1
  have c10 := cell_of_row w2 _ 10 _ _ _ A2.out.1
  have c11 := cell_of_row w2 _ 11 _ _ _ A2.out.1
  try simp only [fr] at c0 c1 c2 c3 c4 c5 c6 c7 c8 c9 c10 c11
  go_wp2_with fail
  ((with_reducible refine (HD.out _).mono ?_); rintro r w3 ⟨rfl, hb⟩)
  have A3 := Lib.hid (A2.out.later hb)
  clear hb A2 HD c0 c1 c2 c3 c4 c5 c6 c7 c8 c9 c10 c11
  have c0 := cell_of_row w3 _ 0 _ _ _ A3.out.1
  have c1 := cell_of_row w3 _ 1 _ _ _ A3.out.1
  have c2 := cell_of_row w3 _ 2 _ _ _ A3.out.1
  have c3 := cell_of_row w3 _ 3 _ _ _ A3.out.1
  have c4 := cell_of_row w3 _ 4 _ _ _ A3.out.1
  have c5 := cell_of_row w3 _ 5 _ _ _ A3.out.1
  have c6 := cell_of_row w3 _ 6 _ _ _ A3.out.1
  have c7 := cell_of_row w3 _ 7 _ _ _ A3.out.1
  have c8 := cell_of_row w3 _ 8 _ _ _ A3.out.1
  have c9 := cell_of_row w3 _ 9 _ _ _ A3.out.1
  have c10 := cell_of_row w3 _ 10 _ _ _ A3.out.1
  have c11 := cell_of_row w3 _ 11 _ _ _ A3.out.1
  try simp only [fr] at c0 c1 c2 c3 c4 c5 c6 c7 c8 c9 c10 c11
  have hlt3 : w.heap.size < w3.heap.size := A3.out.lt
  go_wp2_with fail
  ((with_reducible refine (HK.out _).mono ?_); rintro r w4 ⟨rfl, hb⟩)
  have A4 := Lib.hid (A3.out.laid hb)
  clear hb A3 HK c0 c1 c2 c3 c4 c5 c6 c7 c8 c9 c10 c11
  have c0 := cell_of_row w4 _ 0 _ _ _ A4.out.1.1
  have c1 := cell_of_row w4 _ 1 _ _ _ A4.out.1.1
  have c2 := cell_of_row w4 _ 2 _ _ _ A4.out.1.1
  have c3 := cell_of_row w4 _ 3 _ _ _ A4.out.1.1
  have c4 := cell_of_row w4 _ 4 _ _ _ A4.out.1.1
  have c5 := cell_of_row w4 _ 5 _ _ _ A4.out.1.1
  have c6 := cell_of_row w4 _ 6 _ _ _ A4.out.1.1
  have c7 := cell_of_row w4 _ 7 _ _ _ A4.out.1.1
  have c8 := cell_of_row w4 _ 8 _ _ _ A4.out.1.1
  have c9 := cell_of_row w4 _ 9 _ _ _ A4.out.1.1
  have c10 := cell_of_row w4 _ 10 _ _ _ A4.out.1.1
  have c11 := cell_of_row w4 _ 11 _ _ _ A4.out.1.1
  try simp only [fr] at c0 c1 c2 c3 c4 c5 c6 c7 c8 c9 c10 c11
  have b0 := cell_of_row w4 _ 0 _ _ _ A4.out.2.1
  have b1 := cell_of_row w4 _ 1 _ _ _ A4.out.2.1
  have b2 := cell_of_row w4 _ 2 _ _ _ A4.out.2.1
  have b3 := cell_of_row w4 _ 3 _ _ _ A4.out.2.1
  have b4 := cell_of_row w4 _ 4 _ _ _ A4.out.2.1
  have b5 := cell_of_row w4 _ 5 _ _ _ A4.out.2.1
  have b6 := cell_of_row w4 _ 6 _ _ _ A4.out.2.1
  have b7 := cell_of_row w4 _ 7 _ _ _ A4.out.2.1
  have b8 := cell_of_row w4 _ 8 _ _ _ A4.out.2.1
  have b9 := cell_of_row w4 _ 9 _ _ _ A4.out.2.1
  have b10 := cell_of_row w4 _ 10 _ _ _ A4.out.2.1
  have b11 := cell_of_row w4 _ 11 _ _ _ A4.out.2.1
  try simp only [fr] at b0 b1 b2 b3 b4 b5 b6 b7 b8 b9 b10 b11
  go_wp2_with fail
  go_ret
  exact ⟨rfl, A4.out.1.2⟩
theorem walk (k s t l q x y er sl rk ep : Int) (dd : ByteArray) (w : World) (_ : (Lit.int .i64 k).wf = true) (_ : (Lit.int .i64 s).wf = true) (_ : (Lit.int .i64 t).wf = true) (_ : (Lit.int .i64 l).wf = true) (_ : (Lit.int .i64 q).wf = true) (_ : (Lit.int .i64 x).wf = true) (_ : (Lit.int .i64 y).wf = true) (_ : (Lit.int .i64 er).wf = true) (_ : (Lit.int .i64 sl).wf = true) (_ : (Lit.int .i64 rk).wf = true) (_ : (Lit.int .i64 ep).wf = true) (_ : dd.size ≤ maxLen) :
    Calls Try.prog 6 #[.agg #[.int .i64 k, .int .i64 s, .int .i64 t, .int .i64 l, .int .i64 q, .int .i64 x, .int .i64 y, .int .i64 er, .int .i64 sl, .int .i64 rk, .int .i64 ep, .string dd]] w fun r w' => r = .returned (.bool true) ∧ Below w.heap.size w w' := by
  obtain ⟨d, rfl⟩ := str_of dd
  by_cases hd : 300 < d.length
  · exact far k s t l q x y er sl rk ep d hd w
  · rcases enc_err k s t l q x y er sl rk ep d with h | h | h
    · have he : encF k s t l q x y er sl rk ep d = ((encF k s t l q x y er sl rk ep d).1, 0) := Prod.ext rfl h
      exact good k s t l q x y er sl rk ep d (by omega) _ he (dec_enc he) (by unfold ckF; rw [(enc_facts he).1]; rfl) (enc_len ..) w
    · refine bad k s t l q x y er sl rk ep d (by omega) h ?_ w
      unfold ckF
      cases g : okF k s t l q x y er sl rk ep d
      · rfl
      · unfold encF at h; rw [g, if_neg (by simp)] at h
        split at h
        · exact absurd (show (8 : Int) = 1 from congrArg Prod.snd h) (by decide)
        · split at h
          · exact absurd (show (8 : Int) = 1 from congrArg Prod.snd h) (by decide)
          · exact absurd (show (0 : Int) = 1 from congrArg Prod.snd h) (by decide)
    · refine big k s t l q x y er sl rk ep d (by omega) h ?_ w
      unfold ckF
      cases g : okF k s t l q x y er sl rk ep d
      · unfold encF at h; rw [g, if_pos rfl] at h; cases h
      · rfl
end Go.Proofs.Ytbgnkjaikbhdoaa.FrBackW

-- LawFrameBack
namespace Go.Proofs.Ytbgnkjaikbhdoaa.frameBack
open Go.ChangeShapes Go.WideShapes Go.ChangeAt Go.RowKit Go.Proofs.Ytbgnkjaikbhdoaa.Opn
open Go.ChangeMaps (open_string shut_string)
set_option linter.unusedVariables false
theorem own : ownKnob Try.prog.godebug = none := by kernel_rfl
theorem laidOut : laidOutB Try.prog = true := by kernel_rfl
set_option maxRecDepth 100000 in
set_option maxHeartbeats 1000000 in
theorem lifted (os : Os) (started : os.Started) (H : Type) (enc : TypeId × Value → H) :
    ReturnsInHanded {} Try.checked os 6 .any (Rows.frameBackSpec.pre6 enc Try.prog Try.f6 Rows.frameBackRow.domain false) (Rows.frameBackSpec.post enc Try.prog Try.f6 false true false false) := by
  refine returnsInHanded_of_change_sized (C := Try.checked) own started (by kernel_rfl) Try.func6
    (ChangeSpec.witness6 (enc := enc) (C := Try.checked) false ⟨#[], #[.agg #[.int .i64 0, .int .i64 0, .int .i64 0, .int .i64 0, .int .i64 0, .int .i64 0, .int .i64 0, .int .i64 0, .int .i64 0, .int .i64 0, .int .i64 0, .string ByteArray.empty]], []⟩ 8 (by kernel_rfl) (by kernel_rfl) (by kernel_rfl) (by kernel_rfl)) ?_
  intro W base args ds gs before hval0 hW hcnd hsz0 _
  have hsz : (DataW.weightsEach Try.prog (Try.f6.params.toList ++ Rows.frameBackSpec.plain.varTypes Try.prog) (ds ++ gs)).all (· ≤ reachBytes) = true := hsz0
  have hval : ∀ (j : Nat) t v, Try.f6.params[j]? = some t → args[j]? = some v → Value.okWide Try.prog W .any base t v := hval0
  have hW' := hW
  obtain ⟨p, q, hA0, hV, rfl, hfz, hnd⟩ := hW
  have hA : DataW.TrodAll enc Try.prog W 0 (fun _ => true) true Try.f6.params.toList args.toList ds p := hA0
  rw [Try.params6] at hA hval hsz
  obtain ⟨v0, vs0, d0, ds0, p0, q0, hargs, rfl, rfl, h0, r0⟩ := trodAll_cons hA
  obtain ⟨rfl, rfl, rfl⟩ := trodAll_nil r0
  obtain rfl : args = #[v0] := by cases args; simp_all
  obtain ⟨rfl, rfl⟩ := trodVars_none hV
  have k0 := h0
  have lt0 : ∀ x ∈ p0, x.block < W.heap.size := by obtain ⟨m, hm⟩ := k0; exact DataW.trod_lt m _ _ _ hm
  obtain ⟨cs0, rfl, hn0⟩ := okWide_struct Try.underlying23 (hval 0 23 v0 rfl rfl)
  have g0 := rd_struct Try.underlying23 (rd_of h0)
  have hc0 : Try.prog.cellsOf 23 = 12 := by kernel_rfl
  rw [hc0] at hn0
  obtain ⟨c0_0, c0_1, c0_2, c0_3, c0_4, c0_5, c0_6, c0_7, c0_8, c0_9, c0_10, c0_11, rfl⟩ := cells12 hn0
  have e0_0 : Rd enc Try.prog W 3 [c0_0] := g0 0 _ rfl
  obtain ⟨a0_0, rfl, w0_0⟩ := rd_int Try.underlying3 e0_0
  have e0_1 : Rd enc Try.prog W 3 [c0_1] := g0 1 _ rfl
  obtain ⟨a0_1, rfl, w0_1⟩ := rd_int Try.underlying3 e0_1
  have e0_2 : Rd enc Try.prog W 3 [c0_2] := g0 2 _ rfl
  obtain ⟨a0_2, rfl, w0_2⟩ := rd_int Try.underlying3 e0_2
  have e0_3 : Rd enc Try.prog W 3 [c0_3] := g0 3 _ rfl
  obtain ⟨a0_3, rfl, w0_3⟩ := rd_int Try.underlying3 e0_3
  have e0_4 : Rd enc Try.prog W 3 [c0_4] := g0 4 _ rfl
  obtain ⟨a0_4, rfl, w0_4⟩ := rd_int Try.underlying3 e0_4
  have e0_5 : Rd enc Try.prog W 3 [c0_5] := g0 5 _ rfl
  obtain ⟨a0_5, rfl, w0_5⟩ := rd_int Try.underlying3 e0_5
  have e0_6 : Rd enc Try.prog W 3 [c0_6] := g0 6 _ rfl
  obtain ⟨a0_6, rfl, w0_6⟩ := rd_int Try.underlying3 e0_6
  have e0_7 : Rd enc Try.prog W 3 [c0_7] := g0 7 _ rfl
  obtain ⟨a0_7, rfl, w0_7⟩ := rd_int Try.underlying3 e0_7
  have e0_8 : Rd enc Try.prog W 3 [c0_8] := g0 8 _ rfl
  obtain ⟨a0_8, rfl, w0_8⟩ := rd_int Try.underlying3 e0_8
  have e0_9 : Rd enc Try.prog W 3 [c0_9] := g0 9 _ rfl
  obtain ⟨a0_9, rfl, w0_9⟩ := rd_int Try.underlying3 e0_9
  have e0_10 : Rd enc Try.prog W 3 [c0_10] := g0 10 _ rfl
  obtain ⟨a0_10, rfl, w0_10⟩ := rd_int Try.underlying3 e0_10
  have e0_11 : Rd enc Try.prog W 9 [c0_11] := g0 11 _ rfl
  obtain ⟨a0_11, rfl, w0_11⟩ := rd_string Try.underlying9 e0_11
  clear hA0 hval0 hsz0 hsz
  refine (FrBackW.walk a0_0 a0_1 a0_2 a0_3 a0_4 a0_5 a0_6 a0_7 a0_8 a0_9 a0_10 a0_11 W w0_0 w0_1 w0_2 w0_3 w0_4 w0_5 w0_6 w0_7 w0_8 w0_9 w0_10 w0_11).mono fun e W' ⟨he, bel⟩ => ?_
  subst he
  exact ⟨_, rfl, _, _, _, [], _, [], hW', trodAll_mk1 (shut_bool Try.underlying4 _), (trodAll_cons_mk (Below.trod laidOut (by kernel_rfl) (of_decide_eq_true (by kernel_rfl)) k0 bel lt0) trodAll_mk0), rfl, bel.frame _, fun h => by cases h⟩
theorem over : Rows.frameBackRow.holds Try.pinned (OpenSpec.ofChange Rows.frameBackSpec) :=
  OpenClaim.holds_of_wide 6 Try.f6 rfl rfl rfl rfl rfl rfl rfl ⟨rfl, rfl, rfl, rfl, rfl⟩ rfl rfl rfl rfl rfl (by kernel_rfl) Try.func6 (by kernel_rfl)
    (of_decide_eq_true (by kernel_rfl)) (by unfold Func.isWrapper; first | (rw [if_pos (by decide +kernel)]; kernel_rfl) | (rw [if_neg (by decide +kernel)]; exact ⟨rfl, rfl⟩))
    (fun os started H enc _ => lifted os started H enc)
theorem proved : Rows.FrameBackSaid := over
#print axioms proved
end Go.Proofs.Ytbgnkjaikbhdoaa.frameBack
namespace Go.Proofs.Ytbgnkjaikbhdoaa
/-- The row, under a short name, for the claim. -/
theorem frameBack_holds : Rows.FrameBackSaid := frameBack.proved
end Go.Proofs.Ytbgnkjaikbhdoaa
