/- frame.Time and frame.Room. (cut to what is reached: wip/tools/slimout2.py) -/
import Derived.Test.YtbgnkjaikbhdoaaFGFrEn
namespace Go.Proofs.Ytbgnkjaikbhdoaa.FrT
open Go.RowKit Go.Proofs.Ytbgnkjaikbhdoaa.Pack Go.Proofs.Ytbgnkjaikbhdoaa.FrA Go.Proofs.Ytbgnkjaikbhdoaa.FrCrc Go.Proofs.Ytbgnkjaikbhdoaa.FrE Go.Proofs.Ytbgnkjaikbhdoaa.FrC Go.Proofs.Ytbgnkjaikbhdoaa.FrEn Go.Proofs.Ytbgnkjaikbhdoaa.Alg
open Go.Proofs.Ytbgnkjaikbhdoaa.Bytes (Str)
theorem enc_len (k s t l q x y er sl rk ep : Int) (d : List UInt8) : (encF k s t l q x y er sl rk ep d).1.length ≤ 127 := by
  unfold encF; split
  · simp
  · split
    · simp
    · split
      · simp
      · rw [protect_length]; omega
abbrev Enc (cs : Array Value) (p : List UInt8) (e : Int) : Prop := ∀ w : World, Calls Try.prog 11 #[.agg cs] w fun r w' => r = .returned (.tuple #[.string (Str p), .int .i64 e]) ∧ Below w.heap.size w w'
theorem enc_is (k s t l q x y er sl rk ep : Int) (d : List UInt8) : Enc (fr k s t l q x y er sl rk ep d) (encF k s t l q x y er sl rk ep d).1 (encF k s t l q x y er sl rk ep d).2 := fun w => encode_any _ _ _ _ _ _ _ _ _ _ _ _ _ rfl w
def timeF (k s t l q x y er sl rk ep : Int) (d : List UInt8) : Int × Int :=
  if (encF k s t l q x y er sl rk ep d).2 = 0 then (32 * ((if k = 2 then 20 else ((encF k s t l q x y er sl rk ep d).1.length : Int)) + 6), 0) else (0, (encF k s t l q x y er sl rk ep d).2)
def roomF (k s t l q x y er sl rk ep : Int) (d : List UInt8) : Int × Int :=
  if k = 2 then (0, 1) else if (encF k s t l q x y er sl rk ep d).2 = 0 then (127 - ((encF k s t l q x y er sl rk ep d).1.length : Int), 0) else (0, (encF k s t l q x y er sl rk ep d).2)
theorem boxed (cs : Array Value) (w w1 : World) (hb : Below (w.alloc (.cells cs TF)).heap.size (w.alloc (.cells cs TF)) w1) : w1.heap[w.heap.size]? = some (.cells cs TF (0, 0)) ∧ Below w.heap.size w w1 := by
  refine ⟨by rw [hb.block _ (by simp)]; exact heap_alloc_new _ _, ?_⟩
  exact ((Below.refl _ _).alloc (Nat.le_refl _) _).trans (hb.mono (by simp))
set_option maxRecDepth 100000 in
set_option maxHeartbeats 4000000 in
theorem time_bad (k s t l q x y er sl rk ep : Int) (d : List UInt8) (p : List UInt8) (e : Int) (h : Enc (fr k s t l q x y er sl rk ep d) p e) (he : decide (e = 0) = false) (w : World) :
    Calls Try.prog 13 #[.agg (fr k s t l q x y er sl rk ep d)] w fun r w' => r = .returned (.tuple #[.int .i64 0, .int .i64 e]) ∧ Below w.heap.size w w' := by
  have h2 : (e == 0) = false := he
  go_enter Try.func13, Try.ntmps13
  go_wp2_with fail
  refine (h _).mono ?_
  rintro r w1 ⟨rfl, hb⟩
  have HB := Lib.hid (boxed _ _ _ hb).2
  clear hb h
  go_wp2_with fail
  go_ret2
  exact ⟨rfl, HB.out⟩
set_option maxRecDepth 100000 in
set_option maxHeartbeats 4000000 in
theorem time_ack (s t l q x y er sl rk ep : Int) (d : List UInt8) (p : List UInt8) (h : Enc (fr 2 s t l q x y er sl rk ep d) p 0) (w : World) :
    Calls Try.prog 13 #[.agg (fr 2 s t l q x y er sl rk ep d)] w fun r w' => r = .returned (.tuple #[.int .i64 832, .int .i64 0]) ∧ Below w.heap.size w w' := by
  go_enter Try.func13, Try.ntmps13
  go_wp2_with fail
  refine (h _).mono ?_
  rintro r w1 ⟨rfl, hb⟩
  have HB := Lib.hid (boxed _ _ _ hb).2
  have c0 := cell_of_row w1 _ 0 _ _ _ (boxed _ _ _ hb).1
  simp only [fr] at c0
  clear hb h
  go_wp2_with fail
  go_ret2
  exact ⟨rfl, HB.out⟩
set_option maxRecDepth 100000 in
set_option maxHeartbeats 4000000 in
theorem time_ok (k s t l q x y er sl rk ep : Int) (d : List UInt8) (p : List UInt8) (h : Enc (fr k s t l q x y er sl rk ep d) p 0) (hk : decide (k = 2) = false) (hp : p.length ≤ 127) (n : Int) (hn : n = 32 * ((p.length : Int) + 6)) (w : World) :
    Calls Try.prog 13 #[.agg (fr k s t l q x y er sl rk ep d)] w fun r w' => r = .returned (.tuple #[.int .i64 n, .int .i64 0]) ∧ Below w.heap.size w w' := by
  have hk2 : (k == 2) = false := hk
  have e1 : (Str p).size = p.length := str_size p
  have e2 : IntKind.i64.wrap ((p.length : Int) + 6) = (p.length : Int) + 6 := by rw [IntKind.wrap_i64]; omega
  have e3 : IntKind.i64.wrap (32 * ((p.length : Int) + 6)) = n := by rw [IntKind.wrap_i64]; omega
  clear hn
  go_enter Try.func13, Try.ntmps13
  go_wp2_with fail
  refine (h _).mono ?_
  rintro r w1 ⟨rfl, hb⟩
  have HB := Lib.hid (boxed _ _ _ hb).2
  have c0 := cell_of_row w1 _ 0 _ _ _ (boxed _ _ _ hb).1
  simp only [fr] at c0
  clear hb h
  go_wp2_with fail
  go_ret2
  exact ⟨rfl, HB.out⟩
theorem time_any (k s t l q x y er sl rk ep : Int) (d : List UInt8) (r : Int × Int) (hr : timeF k s t l q x y er sl rk ep d = r) (w : World) :
    Calls Try.prog 13 #[.agg (fr k s t l q x y er sl rk ep d)] w fun e w' => e = .returned (.tuple #[.int .i64 r.1, .int .i64 r.2]) ∧ Below w.heap.size w w' := by
  subst hr
  have h := enc_is k s t l q x y er sl rk ep d
  have hl := enc_len k s t l q x y er sl rk ep d
  unfold timeF
  by_cases he : (encF k s t l q x y er sl rk ep d).2 = 0
  · rw [if_pos he]
    rw [he] at h
    by_cases hk : k = 2
    · subst hk; exact time_ack _ _ _ _ _ _ _ _ _ _ _ _ h w
    · rw [if_neg hk]; exact time_ok _ _ _ _ _ _ _ _ _ _ _ _ _ h (decide_eq_false hk) hl _ rfl w
  · rw [if_neg he]; exact time_bad _ _ _ _ _ _ _ _ _ _ _ _ _ _ h (decide_eq_false he) w
set_option maxRecDepth 100000 in
set_option maxHeartbeats 4000000 in
theorem room_ack (s t l q x y er sl rk ep : Int) (d : List UInt8) (w : World) :
    Calls Try.prog 15 #[.agg (fr 2 s t l q x y er sl rk ep d)] w fun r w' => r = .returned (.tuple #[.int .i64 0, .int .i64 1]) ∧ Below w.heap.size w w' := by
  have hb0 : Below w.heap.size w (w.alloc (.cells (fr 2 s t l q x y er sl rk ep d) TF)) := (Below.refl _ _).alloc (Nat.le_refl _) _
  go_enter Try.func15, Try.ntmps15
  go_wp2_with fail
  go_ret2
  exact ⟨rfl, hb0⟩
set_option maxRecDepth 100000 in
set_option maxHeartbeats 4000000 in
theorem room_bad (k s t l q x y er sl rk ep : Int) (d : List UInt8) (p : List UInt8) (e : Int) (h : Enc (fr k s t l q x y er sl rk ep d) p e) (hk : decide (k = 2) = false) (he : decide (e = 0) = false) (w : World) :
    Calls Try.prog 15 #[.agg (fr k s t l q x y er sl rk ep d)] w fun r w' => r = .returned (.tuple #[.int .i64 0, .int .i64 e]) ∧ Below w.heap.size w w' := by
  have h2 : (e == 0) = false := he
  have hk2 : (k == 2) = false := hk
  go_enter Try.func15, Try.ntmps15
  go_wp2_with fail
  refine (h _).mono ?_
  rintro r w1 ⟨rfl, hb⟩
  have HB := Lib.hid (boxed _ _ _ hb).2
  clear hb h
  go_wp2_with fail
  go_ret2
  exact ⟨rfl, HB.out⟩
set_option maxRecDepth 100000 in
set_option maxHeartbeats 4000000 in
theorem room_ok (k s t l q x y er sl rk ep : Int) (d : List UInt8) (p : List UInt8) (h : Enc (fr k s t l q x y er sl rk ep d) p 0) (hk : decide (k = 2) = false) (hp : p.length ≤ 127) (n : Int) (hn : n = 127 - (p.length : Int)) (w : World) :
    Calls Try.prog 15 #[.agg (fr k s t l q x y er sl rk ep d)] w fun r w' => r = .returned (.tuple #[.int .i64 n, .int .i64 0]) ∧ Below w.heap.size w w' := by
  have hk2 : (k == 2) = false := hk
  have e1 : (Str p).size = p.length := str_size p
  have e2 : IntKind.i64.wrap (127 - (p.length : Int)) = n := by rw [IntKind.wrap_i64]; omega
  clear hn
  go_enter Try.func15, Try.ntmps15
  go_wp2_with fail
  refine (h _).mono ?_
  rintro r w1 ⟨rfl, hb⟩
  have HB := Lib.hid (boxed _ _ _ hb).2
  clear hb h
  go_wp2_with fail
  go_ret2
  exact ⟨rfl, HB.out⟩
theorem room_any (k s t l q x y er sl rk ep : Int) (d : List UInt8) (r : Int × Int) (hr : roomF k s t l q x y er sl rk ep d = r) (w : World) :
    Calls Try.prog 15 #[.agg (fr k s t l q x y er sl rk ep d)] w fun e w' => e = .returned (.tuple #[.int .i64 r.1, .int .i64 r.2]) ∧ Below w.heap.size w w' := by
  subst hr
  have h := enc_is k s t l q x y er sl rk ep d
  have hl := enc_len k s t l q x y er sl rk ep d
  unfold roomF
  by_cases hk : k = 2
  · subst hk; exact room_ack _ _ _ _ _ _ _ _ _ _ _ w
  · rw [if_neg hk]
    by_cases he : (encF k s t l q x y er sl rk ep d).2 = 0
    · rw [if_pos he]
      rw [he] at h
      exact room_ok _ _ _ _ _ _ _ _ _ _ _ _ _ h (decide_eq_false hk) hl _ rfl w
    · rw [if_neg he]; exact room_bad _ _ _ _ _ _ _ _ _ _ _ _ _ _ h (decide_eq_false hk) (decide_eq_false he) w
end Go.Proofs.Ytbgnkjaikbhdoaa.FrT
