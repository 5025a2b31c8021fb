/- hopmeshref13.Time and Room. (cut to what is reached: wip/tools/slimout.py) -/
import Derived.Test.YtbgnkjaikbhdoaaFERfN
import Derived.Test.YtbgnkjaikbhdoaaFEFrT
namespace Go.Proofs.Ytbgnkjaikbhdoaa.RfT
set_option linter.unusedSimpArgs false
set_option linter.unusedVariables false
open Go.RowKit Go.Proofs.Ytbgnkjaikbhdoaa.Pack Go.Proofs.Ytbgnkjaikbhdoaa.FrA Go.Proofs.Ytbgnkjaikbhdoaa.FrCrc Go.Proofs.Ytbgnkjaikbhdoaa.FrE Go.Proofs.Ytbgnkjaikbhdoaa.FrC Go.Proofs.Ytbgnkjaikbhdoaa.FrEn Go.Proofs.Ytbgnkjaikbhdoaa.FrT Go.Proofs.Ytbgnkjaikbhdoaa.RfC Go.Proofs.Ytbgnkjaikbhdoaa.RfN Go.Proofs.Ytbgnkjaikbhdoaa.Alg Go.Proofs.YtbgnkjaikbhdoaaW.PrintWords
open Go.Proofs.Ytbgnkjaikbhdoaa.Bytes (Str)
abbrev REnc (cs : Array Value) (p : List UInt8) (e : Int) : Prop := ∀ w : World, Calls Try.prog 12 #[.agg cs] w fun r w' => r = .returned (.tuple #[.string (Str p), .int .i64 e]) ∧ Below w.heap.size w w'
theorem renc_is (k s t l q x y er sl rk ep : Int) (d : List UInt8) : REnc (fr k s t l q x y er sl rk ep d) (encF k s t l q x y er sl rk ep d).1 (encF k s t l q x y er sl rk ep d).2 := fun w => rencode_any _ _ _ _ _ _ _ _ _ _ _ _ _ rfl w
set_option maxRecDepth 100000 in
set_option maxHeartbeats 4000000 in
theorem time_bad (k s t l q x y er sl rk ep : Int) (d : List UInt8) (p : List UInt8) (e : Int) (h : REnc (fr k s t l q x y er sl rk ep d) p e) (he : decide (e = 0) = false) (w : World) :
    Calls Try.prog 14 #[.agg (fr k s t l q x y er sl rk ep d)] w fun r w' => r = .returned (.tuple #[.int .i64 0, .int .i64 e]) ∧ Below w.heap.size w w' := by
  have h2 : (e == 0) = false := he
  go_enter Try.func14, Try.ntmps14
  go_wp2_with fail
  refine (h _).mono ?_
  rintro r w1 ⟨rfl, hb⟩
  have HB := Lib.hid (boxed _ _ _ hb).2
  clear hb h
  go_wp2_with fail
  go_ret2
  exact ⟨rfl, HB.out⟩
set_option maxRecDepth 100000 in
set_option maxHeartbeats 4000000 in
theorem time_ack (s t l q x y er sl rk ep : Int) (d : List UInt8) (p : List UInt8) (h : REnc (fr 2 s t l q x y er sl rk ep d) p 0) (w : World) :
    Calls Try.prog 14 #[.agg (fr 2 s t l q x y er sl rk ep d)] w fun r w' => r = .returned (.tuple #[.int .i64 832, .int .i64 0]) ∧ Below w.heap.size w w' := by
  go_enter Try.func14, Try.ntmps14
  go_wp2_with fail
  refine (h _).mono ?_
  rintro r w1 ⟨rfl, hb⟩
  have HB := Lib.hid (boxed _ _ _ hb).2
  have c0 := cell_of_row w1 _ 0 _ _ _ (boxed _ _ _ hb).1
  simp only [fr] at c0
  clear hb h
  go_wp2_with fail
  go_ret2
  exact ⟨rfl, HB.out⟩
set_option maxRecDepth 100000 in
set_option maxHeartbeats 4000000 in
theorem time_ok (k s t l q x y er sl rk ep : Int) (d : List UInt8) (p : List UInt8) (h : REnc (fr k s t l q x y er sl rk ep d) p 0) (hk : decide (k = 2) = false) (hp : p.length ≤ 127) (n : Int) (hn : n = 32 * ((p.length : Int) + 6)) (w : World) :
    Calls Try.prog 14 #[.agg (fr k s t l q x y er sl rk ep d)] w fun r w' => r = .returned (.tuple #[.int .i64 n, .int .i64 0]) ∧ Below w.heap.size w w' := by
  have hk2 : (k == 2) = false := hk
  have e1 : (Str p).size = p.length := str_size p
  have e2 : IntKind.i64.wrap ((p.length : Int) + 6) = (p.length : Int) + 6 := by rw [IntKind.wrap_i64]; omega
  have e3 : IntKind.i64.wrap (32 * ((p.length : Int) + 6)) = n := by rw [IntKind.wrap_i64]; omega
  clear hn
  go_enter Try.func14, Try.ntmps14
  go_wp2_with fail
  refine (h _).mono ?_
  rintro r w1 ⟨rfl, hb⟩
  have HB := Lib.hid (boxed _ _ _ hb).2
  have c0 := cell_of_row w1 _ 0 _ _ _ (boxed _ _ _ hb).1
  simp only [fr] at c0
  clear hb h
  go_wp2_with fail
  go_ret2
  exact ⟨rfl, HB.out⟩
theorem rtime_any (k s t l q x y er sl rk ep : Int) (d : List UInt8) (r : Int × Int) (hr : timeF k s t l q x y er sl rk ep d = r) (w : World) :
    Calls Try.prog 14 #[.agg (fr k s t l q x y er sl rk ep d)] w fun e w' => e = .returned (.tuple #[.int .i64 r.1, .int .i64 r.2]) ∧ Below w.heap.size w w' := by
  subst hr
  have h := renc_is k s t l q x y er sl rk ep d
  have hl := enc_len k s t l q x y er sl rk ep d
  unfold timeF
  by_cases he : (encF k s t l q x y er sl rk ep d).2 = 0
  · rw [if_pos he]
    rw [he] at h
    by_cases hk : k = 2
    · subst hk; exact time_ack _ _ _ _ _ _ _ _ _ _ _ _ h w
    · rw [if_neg hk]; exact time_ok _ _ _ _ _ _ _ _ _ _ _ _ _ h (decide_eq_false hk) hl _ rfl w
  · rw [if_neg he]; exact time_bad _ _ _ _ _ _ _ _ _ _ _ _ _ _ h (decide_eq_false he) w
set_option maxRecDepth 100000 in
set_option maxHeartbeats 4000000 in
theorem room_no (k s t l q x y er sl rk ep : Int) (d : List UInt8) (hc : ckF k s t l q x y er sl rk ep d = 1) (w : World) :
    Calls Try.prog 16 #[.agg (fr k s t l q x y er sl rk ep d)] w fun r w' => r = .returned (.tuple #[.int .i64 0, .int .i64 1]) ∧ Below w.heap.size w w' := by
  have HC := Lib.hid hc
  clear hc
  go_enter Try.func16, Try.ntmps16
  go_wp2_with fail
  refine (rcheck_any k s t l q x y er sl rk ep d _).mono ?_
  rintro r w1 ⟨rfl, hb⟩
  rw [HC.out]
  have HB := Lib.hid (boxed _ _ _ hb).2
  clear hb HC
  go_wp2_with fail
  go_ret2
  exact ⟨rfl, HB.out⟩
set_option maxRecDepth 100000 in
set_option maxHeartbeats 4000000 in
theorem room_ack (s t l q x y er sl rk ep : Int) (d : List UInt8) (hc : ckF 2 s t l q x y er sl rk ep d = 0) (w : World) :
    Calls Try.prog 16 #[.agg (fr 2 s t l q x y er sl rk ep d)] w fun r w' => r = .returned (.tuple #[.int .i64 0, .int .i64 1]) ∧ Below w.heap.size w w' := by
  have HC := Lib.hid hc
  clear hc
  go_enter Try.func16, Try.ntmps16
  go_wp2_with fail
  refine (rcheck_any 2 s t l q x y er sl rk ep d _).mono ?_
  rintro r w1 ⟨rfl, hb⟩
  rw [HC.out]
  have c0 : w1.cell? ⟨w.heap.size, 0, none⟩ = some (.int .i64 2) := (cell_of_row w1 _ 0 _ _ _ (boxed _ _ _ hb).1).trans rfl
  have HB := Lib.hid (boxed _ _ _ hb).2
  clear hb HC
  go_wp2_with fail
  go_ret2
  exact ⟨rfl, HB.out⟩
set_option maxRecDepth 100000 in
set_option maxHeartbeats 4000000 in
theorem room_bad (k s t l q x y er sl rk ep : Int) (d : List UInt8) (p : List UInt8) (e : Int) (hc : ckF k s t l q x y er sl rk ep d = 0) (h : REnc (fr k s t l q x y er sl rk ep d) p e) (hk : decide (k = 2) = false) (he : decide (e = 0) = false) (w : World) :
    Calls Try.prog 16 #[.agg (fr k s t l q x y er sl rk ep d)] w fun r w' => r = .returned (.tuple #[.int .i64 0, .int .i64 e]) ∧ Below w.heap.size w w' := by
  have h2 : (e == 0) = false := he
  have hk2 : (k == 2) = false := hk
  have HC := Lib.hid hc
  clear hc
  go_enter Try.func16, Try.ntmps16
  go_wp2_with fail
  refine (rcheck_any k s t l q x y er sl rk ep d _).mono ?_
  rintro r w1 ⟨rfl, hb⟩
  rw [HC.out]
  have hw1 := (boxed _ _ _ hb).1
  have c0 : w1.cell? ⟨w.heap.size, 0, none⟩ = some (.int .i64 k) := (cell_of_row w1 _ 0 _ _ _ hw1).trans rfl
  have HW1 := Lib.hid hw1
  have HB := Lib.hid (boxed _ _ _ hb).2
  clear hb HC hw1
  go_wp2_with ((refine wpList_load_row rfl TF _ rfl w.heap.size rfl TF (fr k s t l q x y er sl rk ep d) (0, 0) _ HW1.out Try.underlying23 rfl (by kernel_rfl) ?_))
  refine (h _).mono ?_
  rintro r w2 ⟨rfl, hb⟩
  have HB2 := Lib.hid (HB.out.trans (hb.mono HB.out.size))
  clear hb h HB HW1 c0
  go_wp2_with fail
  go_ret2
  exact ⟨rfl, HB2.out⟩
set_option maxRecDepth 100000 in
set_option maxHeartbeats 4000000 in
theorem room_ok (k s t l q x y er sl rk ep : Int) (d : List UInt8) (p : List UInt8) (hc : ckF k s t l q x y er sl rk ep d = 0) (h : REnc (fr k s t l q x y er sl rk ep d) p 0) (hk : decide (k = 2) = false) (hp : p.length ≤ 127) (n : Int) (hn : n = 127 - (p.length : Int)) (w : World) :
    Calls Try.prog 16 #[.agg (fr k s t l q x y er sl rk ep d)] w fun r w' => r = .returned (.tuple #[.int .i64 n, .int .i64 0]) ∧ Below w.heap.size w w' := by
  have hk2 : (k == 2) = false := hk
  have e1 : (Str p).size = p.length := str_size p
  have e2 : IntKind.i64.wrap (127 - (p.length : Int)) = n := by rw [IntKind.wrap_i64]; omega
  have HC := Lib.hid hc
  clear hn hc
  go_enter Try.func16, Try.ntmps16
  go_wp2_with fail
  refine (rcheck_any k s t l q x y er sl rk ep d _).mono ?_
  rintro r w1 ⟨rfl, hb⟩
  rw [HC.out]
  have hw1 := (boxed _ _ _ hb).1
  have c0 : w1.cell? ⟨w.heap.size, 0, none⟩ = some (.int .i64 k) := (cell_of_row w1 _ 0 _ _ _ hw1).trans rfl
  have HW1 := Lib.hid hw1
  have HB := Lib.hid (boxed _ _ _ hb).2
  clear hb HC hw1
  go_wp2_with ((refine wpList_load_row rfl TF _ rfl w.heap.size rfl TF (fr k s t l q x y er sl rk ep d) (0, 0) _ HW1.out Try.underlying23 rfl (by kernel_rfl) ?_))
  refine (h _).mono ?_
  rintro r w2 ⟨rfl, hb⟩
  have HB2 := Lib.hid (HB.out.trans (hb.mono HB.out.size))
  clear hb h HB HW1 c0
  go_wp2_with fail
  go_ret2
  exact ⟨rfl, HB2.out⟩
theorem ck_enc {k s t l q x y er sl rk ep : Int} {d : List UInt8} (h : ckF k s t l q x y er sl rk ep d = 1) : encF k s t l q x y er sl rk ep d = ([], 1) := by
  unfold ckF at h
  split at h
  · omega
  · rename_i g
    unfold encF
    rw [if_pos (by simpa using g)]
theorem rroom_any (k s t l q x y er sl rk ep : Int) (d : List UInt8) (r : Int × Int) (hr : roomF k s t l q x y er sl rk ep d = r) (w : World) :
    Calls Try.prog 16 #[.agg (fr k s t l q x y er sl rk ep d)] w fun e w' => e = .returned (.tuple #[.int .i64 r.1, .int .i64 r.2]) ∧ Below w.heap.size w w' := by
  subst hr
  have h := renc_is k s t l q x y er sl rk ep d
  have hl := enc_len k s t l q x y er sl rk ep d
  have hck : ckF k s t l q x y er sl rk ep d = 0 ∨ ckF k s t l q x y er sl rk ep d = 1 := by unfold ckF; split <;> simp
  rcases hck with hck | hck
  · unfold roomF
    by_cases hk : k = 2
    · subst hk; exact room_ack _ _ _ _ _ _ _ _ _ _ _ hck w
    · rw [if_neg hk]
      by_cases he : (encF k s t l q x y er sl rk ep d).2 = 0
      · rw [if_pos he]
        rw [he] at h
        exact room_ok _ _ _ _ _ _ _ _ _ _ _ _ _ hck h (decide_eq_false hk) hl _ rfl w
      · rw [if_neg he]; exact room_bad _ _ _ _ _ _ _ _ _ _ _ _ _ _ hck h (decide_eq_false hk) (decide_eq_false he) w
  · have e : roomF k s t l q x y er sl rk ep d = (0, 1) := by
      unfold roomF
      by_cases hk : k = 2
      · rw [if_pos hk]
      · rw [if_neg hk, ck_enc hck]; rfl
    rw [e]
    exact room_no k s t l q x y er sl rk ep d hck w
end Go.Proofs.Ytbgnkjaikbhdoaa.RfT
