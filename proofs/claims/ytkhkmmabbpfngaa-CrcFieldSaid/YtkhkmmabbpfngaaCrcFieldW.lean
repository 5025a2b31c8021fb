/- Products of residues: the walk of CrcField. -/
import Derived.Test.YtkhkmmabbpfngaaCrcCon
namespace Go.Proofs.Ytkhkmmabbpfngaa.CrcFieldW
open Go.RowKit Go.Proofs.Ytkhkmmabbpfngaa.Alg Go.Proofs.Ytkhkmmabbpfngaa.Ev Go.Proofs.Ytkhkmmabbpfngaa.Pure Go.Proofs.Ytkhkmmabbpfngaa.CrcA Go.Proofs.Ytkhkmmabbpfngaa.Con Go.Proofs.YtkhkmmabbpfngaaW.PrintWords Go.Proofs.YtkhkmmabbpfngaaW.PrintLast

theorem powI_add (m l : Int) (h0 : 0 ≤ m) (h1 : 0 ≤ l) : mul (powI m) (powI l) = powI (m + l) := by
  unfold powI; rw [if_neg (by omega), if_neg (by omega), if_neg (by omega), pow_mul]; congr 1; omega
set_option maxHeartbeats 4000000 in
theorem walk0 (a b c : BitVec 16) (m l : Int) (w : World) (hm0 : 0 ≤ m) (hm1 : m ≤ 1000000000) (hl0 : 0 ≤ l) (hl1 : l ≤ 1000000000) :
    Calls Try.prog 4 #[.agg #[U a, U b, U c], .int .i64 m, .int .i64 l] w fun e w' => e = .returned (.bool true) ∧ Below w.heap.size w w' := by
  have hx := xor_int b c
  have hy := xor_int (mul a b) (mul a c)
  go_enter Try.func4, Try.ntmps4
  go_wp2_with fail
  refine (awake_any _).mono ?_
  rintro e w1 ⟨rfl, hb⟩
  have hb' : Below w.heap.size w w1 := ((Below.refl _ _).alloc (Nat.le_refl _) _).trans (hb.mono (by simp))
  have c0 : w1.cell? ⟨w.heap.size, 0, none⟩ = some (U a) := by
    rw [hb.cell (p := ⟨w.heap.size, 0, none⟩) (by simp), World.cell?_alloc_at _ _ _ _ rfl]; rfl
  have c1 : w1.cell? ⟨w.heap.size, 1, none⟩ = some (U b) := by
    rw [hb.cell (p := ⟨w.heap.size, 1, none⟩) (by simp), World.cell?_alloc_at _ _ _ _ rfl]; rfl
  have c2 : w1.cell? ⟨w.heap.size, 2, none⟩ = some (U c) := by
    rw [hb.cell (p := ⟨w.heap.size, 2, none⟩) (by simp), World.cell?_alloc_at _ _ _ _ rfl]; rfl
  go_wp2_with fail
  go_quiet (fail)
  go_wp2_with fail
  refine (mul_any a b (mul a b) rfl _).mono ?_
  rintro e w2 ⟨rfl, n2, rfl⟩
  go_wp2_with fail
  refine (mul_any b a (mul a b) (mul_comm b a) _).mono ?_
  rintro e w3 ⟨rfl, n3, rfl⟩
  go_wp2_with fail
  refine (mul_any (mul a b) c (mul (mul a b) c) rfl _).mono ?_
  rintro e w4 ⟨rfl, n4, rfl⟩
  go_wp2_with fail
  refine (mul_any b c (mul b c) rfl _).mono ?_
  rintro e w5 ⟨rfl, n5, rfl⟩
  go_wp2_with fail
  refine (mul_any a (mul b c) (mul (mul a b) c) (mul_assoc a b c).symm _).mono ?_
  rintro e w6 ⟨rfl, n6, rfl⟩
  go_wp2_with fail
  refine (mul_any a (b ^^^ c) (mul a b ^^^ mul a c) (mul_xor a b c) _).mono ?_
  rintro e w7 ⟨rfl, n7, rfl⟩
  go_wp2_with fail
  refine (mul_any a c (mul a c) rfl _).mono ?_
  rintro e w8 ⟨rfl, n8, rfl⟩
  go_wp2_with fail
  refine (mul_any a 1#16 a (mul_one a) _).mono ?_
  rintro e w9 ⟨rfl, n9, rfl⟩
  go_wp2_with fail
  refine (pow_any m (by omega) (powI m) rfl _).mono ?_
  rintro e w20 ⟨rfl, n20, rfl⟩
  go_wp2_with fail
  refine (pow_any l (by omega) (powI l) rfl _).mono ?_
  rintro e w21 ⟨rfl, n21, rfl⟩
  go_wp2_with fail
  refine (mul_any (powI m) (powI l) (powI (m + l)) (powI_add m l hm0 hl0) _).mono ?_
  rintro e w22 ⟨rfl, n22, rfl⟩
  go_wp2_with fail
  refine (pow_any (m + l) (by omega) (powI (m + l)) rfl _).mono ?_
  rintro e w23 ⟨rfl, n23, rfl⟩
  go_wp2_with fail
  go_ret
  exact ⟨rfl, by repeat (first | exact hb' | apply pw_below_drewN | apply below_drew1)⟩

set_option maxHeartbeats 4000000 in
theorem walk1 (a b c : BitVec 16) (m l : Int) (w : World) (ho : m < 0 ∨ l < 0 ∨ 1000000000 < m ∨ 1000000000 < l) :
    Calls Try.prog 4 #[.agg #[U a, U b, U c], .int .i64 m, .int .i64 l] w fun e w' => e = .returned (.bool true) ∧ Below w.heap.size w w' := by
  have hx := xor_int b c
  have hy := xor_int (mul a b) (mul a c)
  rcases (show m < 0 ∨ (0 ≤ m ∧ l < 0) ∨ (0 ≤ m ∧ 0 ≤ l ∧ 1000000000 < m) ∨ (0 ≤ m ∧ 0 ≤ l ∧ m ≤ 1000000000 ∧ 1000000000 < l) by omega) with h | ⟨h, h2⟩ | ⟨h, h2, h3⟩ | ⟨h, h2, h3, h4⟩
  all_goals
    go_enter Try.func4, Try.ntmps4
    go_wp2_with fail
    refine (awake_any _).mono ?_
    rintro e w1 ⟨rfl, hb⟩
    have hb' : Below w.heap.size w w1 := ((Below.refl _ _).alloc (Nat.le_refl _) _).trans (hb.mono (by simp))
    have c0 : w1.cell? ⟨w.heap.size, 0, none⟩ = some (U a) := by
      rw [hb.cell (p := ⟨w.heap.size, 0, none⟩) (by simp), World.cell?_alloc_at _ _ _ _ rfl]; rfl
    have c1 : w1.cell? ⟨w.heap.size, 1, none⟩ = some (U b) := by
      rw [hb.cell (p := ⟨w.heap.size, 1, none⟩) (by simp), World.cell?_alloc_at _ _ _ _ rfl]; rfl
    have c2 : w1.cell? ⟨w.heap.size, 2, none⟩ = some (U c) := by
      rw [hb.cell (p := ⟨w.heap.size, 2, none⟩) (by simp), World.cell?_alloc_at _ _ _ _ rfl]; rfl
    go_wp2_with fail
    go_quiet (fail)
    go_wp2_with fail
    refine (mul_any a b (mul a b) rfl _).mono ?_
    rintro e w2 ⟨rfl, n2, rfl⟩
    go_wp2_with fail
    refine (mul_any b a (mul a b) (mul_comm b a) _).mono ?_
    rintro e w3 ⟨rfl, n3, rfl⟩
    go_wp2_with fail
    refine (mul_any (mul a b) c (mul (mul a b) c) rfl _).mono ?_
    rintro e w4 ⟨rfl, n4, rfl⟩
    go_wp2_with fail
    refine (mul_any b c (mul b c) rfl _).mono ?_
    rintro e w5 ⟨rfl, n5, rfl⟩
    go_wp2_with fail
    refine (mul_any a (mul b c) (mul (mul a b) c) (mul_assoc a b c).symm _).mono ?_
    rintro e w6 ⟨rfl, n6, rfl⟩
    go_wp2_with fail
    refine (mul_any a (b ^^^ c) (mul a b ^^^ mul a c) (mul_xor a b c) _).mono ?_
    rintro e w7 ⟨rfl, n7, rfl⟩
    go_wp2_with fail
    refine (mul_any a c (mul a c) rfl _).mono ?_
    rintro e w8 ⟨rfl, n8, rfl⟩
    go_wp2_with fail
    refine (mul_any a 1#16 a (mul_one a) _).mono ?_
    rintro e w9 ⟨rfl, n9, rfl⟩
    go_wp2_with fail
    go_ret
    exact ⟨rfl, by repeat (first | exact hb' | apply pw_below_drewN | apply below_drew1)⟩

theorem walk (a b c m l : Int) (w : World) (ha : (Lit.int .u16 a).wf = true) (hb : (Lit.int .u16 b).wf = true) (hc : (Lit.int .u16 c).wf = true) (_ : (Lit.int .i64 m).wf = true) (_ : (Lit.int .i64 l).wf = true) :
    Calls Try.prog 4 #[.agg #[.int .u16 a, .int .u16 b, .int .u16 c], .int .i64 m, .int .i64 l] w fun e w' => e = .returned (.bool true) ∧ Below w.heap.size w w' := by
  obtain ⟨x, rfl⟩ := u16_of ha
  obtain ⟨y, rfl⟩ := u16_of hb
  obtain ⟨z, rfl⟩ := u16_of hc
  by_cases h : m < 0 ∨ l < 0 ∨ 1000000000 < m ∨ 1000000000 < l
  · exact walk1 x y z m l w h
  · exact walk0 x y z m l w (by omega) (by omega) (by omega) (by omega)
end Go.Proofs.Ytkhkmmabbpfngaa.CrcFieldW
