/- hopmeshref13.Encode: what it returns for any frame. (cut to what is reached: wip/tools/slimout.py) -/
import Derived.Test.YtbgnkjaikbhdoaaFERfE
namespace Go.Proofs.Ytbgnkjaikbhdoaa.RfN
set_option linter.unusedSimpArgs false
set_option linter.unusedVariables false
open Go.RowKit Go.Proofs.Ytbgnkjaikbhdoaa.Pack Go.Proofs.Ytbgnkjaikbhdoaa.FrA Go.Proofs.Ytbgnkjaikbhdoaa.FrC Go.Proofs.Ytbgnkjaikbhdoaa.FrCrc Go.Proofs.Ytbgnkjaikbhdoaa.FrEn Go.Proofs.Ytbgnkjaikbhdoaa.RfC Go.Proofs.Ytbgnkjaikbhdoaa.RfE Go.Proofs.YtbgnkjaikbhdoaaW.PrintWords
open Go.Proofs.Ytbgnkjaikbhdoaa.PenF (targetBits)
open Go.Proofs.Ytbgnkjaikbhdoaa.PenFr (headBits)
open Go.Proofs.Ytbgnkjaikbhdoaa.WrText (textBits)
open Go.Proofs.Ytbgnkjaikbhdoaa.Alg (protect)
open Go.Proofs.Ytbgnkjaikbhdoaa.Bytes (Str)
set_option maxRecDepth 100000 in
set_option maxHeartbeats 4000000 in
theorem renc_bad (k s t l q x y er sl rk ep : Int) (d : List UInt8) (hok : ckF k s t l q x y er sl rk ep d = 1) (w : World) :
    Calls Try.prog 12 #[.agg (fr k s t l q x y er sl rk ep d)] w fun e w' => e = .returned (.tuple #[.string (Str []), .int .i64 1]) ∧ Below w.heap.size w w' := by
  have HW0 : Hid ((w.alloc (.cells (fr k s t l q x y er sl rk ep d) TF)).heap[w.heap.size]? = some (.cells (fr k s t l q x y er sl rk ep d) TF (0, 0))) := Lib.hid (heap_alloc_new _ _)
  have HB0 : Hid (Below w.heap.size w (w.alloc (.cells (fr k s t l q x y er sl rk ep d) TF))) := Lib.hid ((Below.refl _ _).alloc (Nat.le_refl _) _)
  have HOK := Lib.hid hok
  clear hok
  go_enter Try.func12, Try.ntmps12
  go_wp2_with ((refine wpList_load_row rfl TF _ rfl w.heap.size rfl TF (fr k s t l q x y er sl rk ep d) (0, 0) _ HW0.out Try.underlying23 rfl (by kernel_rfl) ?_))
  refine (rcheck_any k s t l q x y er sl rk ep d _).mono ?_
  rintro e w1 ⟨rfl, hb1⟩
  rw [HOK.out]
  have HB1 := Lib.hid (HB0.out.trans (hb1.mono HB0.out.size))
  clear hb1 HB0 HW0 HOK
  go_wp2_with fail
  go_ret2
  exact ⟨rfl, HB1.out⟩
set_option maxRecDepth 100000 in
set_option maxHeartbeats 4000000 in
theorem renc_long (k s t l q x y er sl rk ep : Int) (d : List UInt8) (hok : ckF k s t l q x y er sl rk ep d = 0) (hd : 127 < d.length) (w : World) :
    Calls Try.prog 12 #[.agg (fr k s t l q x y er sl rk ep d)] w fun e w' => e = .returned (.tuple #[.string (Str []), .int .i64 8]) ∧ Below w.heap.size w w' := by
  have HW0 : Hid ((w.alloc (.cells (fr k s t l q x y er sl rk ep d) TF)).heap[w.heap.size]? = some (.cells (fr k s t l q x y er sl rk ep d) TF (0, 0))) := Lib.hid (heap_alloc_new _ _)
  have HB0 : Hid (Below w.heap.size w (w.alloc (.cells (fr k s t l q x y er sl rk ep d) TF))) := Lib.hid ((Below.refl _ _).alloc (Nat.le_refl _) _)
  have HOK := Lib.hid hok
  have e1 : (Str d).size = d.length := str_size d
  have e2 : decide ((d.length : Int) > 127) = true := decide_eq_true (by omega)
  clear hok hd
  go_enter Try.func12, Try.ntmps12
  go_wp2_with ((refine wpList_load_row rfl TF _ rfl w.heap.size rfl TF (fr k s t l q x y er sl rk ep d) (0, 0) _ HW0.out Try.underlying23 rfl (by kernel_rfl) ?_))
  refine (rcheck_any k s t l q x y er sl rk ep d _).mono ?_
  rintro e w1 ⟨rfl, hb1⟩
  rw [HOK.out]
  have hw1 : w1.heap[w.heap.size]? = some (.cells (fr k s t l q x y er sl rk ep d) TF (0, 0)) := by rw [hb1.block _ (by simp)]; exact HW0.out
  have c11 : w1.cell? ⟨w.heap.size, 11, none⟩ = some (.string (Str d)) := (cell_of_row w1 _ 11 _ _ _ hw1).trans rfl
  have HB1 := Lib.hid (HB0.out.trans (hb1.mono HB0.out.size))
  clear hb1 HB0 HW0 HOK hw1
  go_wp2_with fail
  go_ret2
  exact ⟨rfl, HB1.out⟩
set_option maxHeartbeats 2000000 in
theorem rencode_any (k s t l q x y er sl rk ep : Int) (d : List UInt8) (r : List UInt8 × Int) (hr : encF k s t l q x y er sl rk ep d = r) (w : World) :
    Calls Try.prog 12 #[.agg (fr k s t l q x y er sl rk ep d)] w fun e w' => e = .returned (.tuple #[.string (Str r.1), .int .i64 r.2]) ∧ Below w.heap.size w w' := by
  unfold encF at hr
  cases g : okF k s t l q x y er sl rk ep d
  · rw [if_pos g] at hr
    subst hr
    exact renc_bad k s t l q x y er sl rk ep d (by unfold ckF; rw [g]; rfl) w
  · have hck : ckF k s t l q x y er sl rk ep d = 0 := by unfold ckF; rw [g]; rfl
    rw [if_neg (by rw [g]; decide)] at hr
    by_cases h8 : k ≠ 2 ∧ 127 < d.length
    · rw [if_pos h8] at hr
      subst hr
      exact renc_long k s t l q x y er sl rk ep d hck h8.2 w
    · rw [if_neg h8] at hr
      have hK := ok_kind g
      rcases hK with rfl | rfl | rfl | rfl
      · obtain ⟨⟨ht, _⟩, hx, hy, _, hs, hl, hq⟩ := ok_1 g
        refine enc_data s t l q x y er sl rk ep d hck hs.1 hs.2 ht.1 ht.2 hl.1 hl.2 hq.1 hq.2 hx.1 hx.2 hy.1 hy.2 (by omega) _ ?_ r hr w
        refine congrArg pack ?_
        simp [frBits, headBits, targetBits, moreBits, ht.1]
      · obtain ⟨⟨ht, _⟩, he, _, hd, hs, hl, hq⟩ := ok_2 g
        subst hd
        have h0 := enc_ack s t l q x y er sl rk ep hck hs.1 hs.2 ht.1 ht.2 hl.1 hl.2 hq.1 hq.2 he.1 he.2 (pack (frBits 2 s t l q x y er sl rk ep []))
        have h1 := h0 (by unfold frBits headBits targetBits moreBits; rw [if_pos ht.1]; simp) r hr w
        exact h1
      · obtain ⟨ht, hz, hk, hp, _, hs, hl, hq⟩ := ok_3 g
        subst ht
        refine enc_beacon s l q x y er sl rk ep d hck hs.1 hs.2 hl.1 hl.2 hq.1 hq.2 hz.1 hz.2 hk.1 hk.2 hp.1 hp.2 (by omega) _ ?_ r hr w
        refine congrArg pack ?_
        simp [frBits, headBits, targetBits, moreBits]
      · obtain ⟨ht, _, hs, hl, hq⟩ := ok_4 g
        rcases ht with rfl | ⟨ht, _⟩
        · refine enc_all s l q x y er sl rk ep d hck hs.1 hs.2 hl.1 hl.2 hq.1 hq.2 (by omega) _ ?_ r hr w
          refine congrArg pack ?_
          simp [frBits, headBits, targetBits, moreBits]
        · refine enc_message s t l q x y er sl rk ep d hck hs.1 hs.2 ht.1 ht.2 hl.1 hl.2 hq.1 hq.2 (by omega) _ ?_ r hr w
          refine congrArg pack ?_
          simp [frBits, headBits, targetBits, moreBits, ht.1]
end Go.Proofs.Ytbgnkjaikbhdoaa.RfN
