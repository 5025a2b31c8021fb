/- hopmeshref02.Writer.Text at the limit 127. (cut to what is reached: wip/tools/slimout.py) -/
import Derived.Test.YtbgnkjaikbhdoaaFEWfAll
import Derived.Test.YtbgnkjaikbhdoaaFEWrText
import Derived.Test.YtbgnkjaikbhdoaaFED2
namespace Go.Proofs.Ytbgnkjaikbhdoaa.WfText
set_option linter.unusedSimpArgs false
set_option linter.unusedVariables false
open Go.RowKit Go.Proofs.Ytbgnkjaikbhdoaa.Pack Go.Proofs.Ytbgnkjaikbhdoaa.Wf Go.Proofs.Ytbgnkjaikbhdoaa.WfPut Go.Proofs.Ytbgnkjaikbhdoaa.WfAll
open Go.Proofs.Ytbgnkjaikbhdoaa.WrText (byteBits byteBits_length byteBits_snoc textBits Below.drewN')
open Go.Proofs.Ytbgnkjaikbhdoaa.Bytes (Str)
theorem width_f (w : World) : Calls Try.prog 65 #[.int .i64 127] w fun e w' => e = .returned (.int .i64 7) ∧ ∃ n, w' = w.drewN n := by
  refine (Go.Proofs.Ytbgnkjaikbhdoaa.D.hopmeshref02_Width.calls 20 127 7 w (by kernel_rfl)).mono ?_
  rintro e w' ⟨rfl, h⟩
  obtain ⟨n, hn⟩ := h
  exact ⟨rfl, n, hn⟩
set_option maxHeartbeats 2000000 in
set_option maxRecDepth 100000 in
theorem text_f {B g : Nat} {G : List (Nat × Obj)} {w : World} {bs : List Bool} (h : Wf B G w g bs) (l : List UInt8) (hl : l.length ≤ 127) (hn : bs.length + 7 + 8 * l.length ≤ 500000) :
    Calls Try.prog 33 #[.pointer (some ⟨g, 0, none⟩), .int .i64 127, .string (Str l)] w fun e w' => e = .returned (.tuple #[]) ∧ Wf B G w' g (bs ++ textBits l) ∧ Below B w w' := by
  obtain ⟨v, c0, c1, hf, hown, _⟩ := WfL.cells h
  have HH := Lib.hid h
  have hs : (Str l).size = l.length := by show l.toArray.size = _; simp
  have hd : decide ((l.length : Int) > 127) = false := by simp; omega
  clear hown c0 hf h
  go_enter Try.func33, Try.ntmps33
  go_wp2_with fail
  refine (width_f _).mono ?_
  rintro e w1 ⟨rfl, nq, rfl⟩
  have HN : Hid (Wf B G (w.drewN nq) g bs) := Lib.hid (WfL.drewN HH.out nq)
  have HB0 := Lib.hid (Below.drewN' B w nq)
  clear HH c1
  generalize World.drewN w nq = w2 at HN HB0 ⊢
  have PR : Hid (Calls Try.prog 63 #[.pointer (some ⟨g, 0, none⟩), .int .i64 (7 + 8 * (l.length : Int))] w2 fun e w' => e = .returned (.bool true) ∧ w2 = w') := Lib.hid (by
    have := room_ok HN.out (7 + 8 * l.length) (by omega)
    rw [show (((7 + 8 * l.length : Nat)) : Int) = 7 + 8 * (l.length : Int) by omega] at this
    exact this)
  go_wp2_with fail
  refine PR.out.mono ?_
  rintro e w3 ⟨rfl, rfl⟩
  clear PR
  go_wp2_with fail
  refine (width_f _).mono ?_
  rintro e w1 ⟨rfl, nq2, rfl⟩
  have HN2 : Hid (Wf B G (w2.drewN nq2) g bs) := Lib.hid (WfL.drewN HN.out nq2)
  have HB1 := Lib.hid (HB0.out.trans (Below.drewN' B w2 nq2))
  clear HN HB0
  generalize World.drewN w2 nq2 = w3 at HN2 HB1 ⊢
  have P7 := put_any HN2.out 7 (by omega) (l.length : Int) (by omega) (by omega) (by omega)
  rw [show ((7 : Nat) : Int) = 7 from rfl, low_small 7 (l.length : Int) (by omega) (by simp; omega), Int.toNat_natCast] at P7
  have HP7 := Lib.hid P7
  clear P7
  go_wp2_with fail
  refine HP7.out.mono ?_
  rintro e w4 ⟨rfl, h3, b3⟩
  have H3 := Lib.hid h3
  have HB3 := Lib.hid (HB1.out.trans b3)
  clear h3 b3 HN2 HB1 HP7
  go_wp2_with fail
  go_loopw [6] (fun i wr => ∃ k : Nat, k ≤ l.length ∧ i = .int .i64 k ∧ Hid (Wf B G wr g (bs ++ bitsN 7 l.length ++ byteBits (l.take k))) ∧ Hid (Below B w wr)) (fun i _ => l.length - (intOf i).toNat)
  case atStart => exact ⟨0, Nat.zero_le _, rfl, by simpa [byteBits] using H3, HB3⟩
  case round =>
    clear H3 HB3
    obtain ⟨k, hk, rfl, H3, HB3⟩ := hrel
    by_cases hlt : k < l.length
    · have hs : (Str l).size = l.length := by show l.toArray.size = _; simp
      have hks : k < (Str l).size := by omega
      clear hs
      have ec : wrap64 (((Str l)[k]'hks).toNat : Int) = ((l[k]'hlt).toNat : Int) := by
        have : (Str l)[k]'hks = l[k]'hlt := by show l.toArray[k]'_ = _; simp
        have h2 := (l[k]'hlt).toNat_lt
        rw [this]; unfold wrap64; omega
      have HE := Lib.hid ec
      have hbl : (byteBits (l.take k)).length ≤ 8 * l.length := by rw [byteBits_length, List.length_take]; omega
      have hcl : (bs ++ bitsN 7 l.length ++ byteBits (l.take k)).length + 8 ≤ 524288 := by
        rw [List.length_append, List.length_append, bitsN_length]; omega
      have hts : byteBits (l.take (k + 1)) = byteBits (l.take k) ++ bitsN 8 (l[k]'hlt).toNat := by
        rw [List.take_succ_eq_append_getElem hlt, byteBits_snoc]
      have HT := Lib.hid hts
      have hb8 := (l[k]'hlt).toNat_lt
      have P8 := put_any H3.out 8 (by omega) ((l[k]'hlt).toNat : Int) (by omega) (by omega) hcl
      rw [show ((8 : Nat) : Int) = 8 from rfl, low_small 8 ((l[k]'hlt).toNat : Int) (by omega) (by simp; omega), Int.toNat_natCast] at P8
      have HP8 := Lib.hid P8
      clear ec hbl hts P8 hb8
      go_wp2_with fail
      rw [HE.out]
      refine HP8.out.mono ?_
      rintro e w4 ⟨rfl, h4, b4⟩
      have H4 : Hid (Wf B G w4 g (bs ++ bitsN 7 l.length ++ byteBits (l.take (k + 1)))) := by
        refine Lib.hid ?_
        rw [HT.out, ← List.append_assoc]
        exact h4
      have HB4 := Lib.hid (HB3.out.trans b4)
      clear h4 b4 H3 HB3 HT HP8 HE
      go_wp2_with fail
      go_roundw
      case rel => exact ⟨k + 1, by omega, by go_num, H4, HB4⟩
      case measure => simp [intOf]; omega
    · obtain rfl : k = l.length := by omega
      have HF : Hid (Wf B G wr g (bs ++ textBits l)) := by
        have := H3.out
        rw [List.take_length, List.append_assoc] at this
        exact Lib.hid this
      clear H3
      go_wp2
      go_end0
      exact ⟨rfl, HF.out, HB3.out⟩
end Go.Proofs.Ytbgnkjaikbhdoaa.WfText
