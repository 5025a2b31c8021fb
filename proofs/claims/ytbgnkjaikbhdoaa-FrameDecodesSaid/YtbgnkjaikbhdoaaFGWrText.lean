/- bitio.Writer.Text at the limit 127. (cut to what is reached: wip/tools/slimout2.py) -/
import Derived.Test.YtbgnkjaikbhdoaaFGWrAll
namespace Go.Proofs.Ytbgnkjaikbhdoaa.WrText
open Go.RowKit Go.Proofs.Ytbgnkjaikbhdoaa.Pack Go.Proofs.Ytbgnkjaikbhdoaa.Wr Go.Proofs.Ytbgnkjaikbhdoaa.WrPut Go.Proofs.Ytbgnkjaikbhdoaa.WrAll
open Go.Proofs.Ytbgnkjaikbhdoaa.Bytes (Str)
theorem limit_127 (w : World) : Calls Try.prog 101 #[.int .i64 127] w fun e w' => e = .returned (.bool true) ∧ w = w' := by
  go_enter Try.func101, Try.ntmps101
  go_wp2
  go_ret
  exact ⟨rfl, rfl⟩
theorem width_127 (w : World) : Calls Try.prog 102 #[.int .i64 127] w fun e w' => e = .returned (.int .i64 7) ∧ w = w' := by
  have PL := fun w => Try.bits_Len 127 w (by omega) (by omega)
  have e7 : ((Lib.bitLen (Int.toNat 127) : Nat) : Int) = 7 := by decide
  rw [e7] at PL
  have HL := Lib.hid PL
  clear PL e7
  have hmx : (max (1 : Int) 7) = 7 := by decide
  go_enter Try.func102, Try.ntmps102
  go_wp2_with fail
  refine (HL.out _).mono ?_
  rintro e w1 ⟨rfl, rfl⟩
  go_wp2_with fail
  go_ret
  exact ⟨rfl, rfl⟩
def byteBits (l : List UInt8) : List Bool := l.flatMap fun c => bitsN 8 c.toNat
theorem byteBits_length (l : List UInt8) : (byteBits l).length = 8 * l.length := by
  induction l with
  | nil => rfl
  | cons c l ih => simp only [byteBits, List.flatMap_cons, List.length_append, bitsN_length] at ih ⊢; rw [ih]; simp; omega
theorem byteBits_snoc (l : List UInt8) (c : UInt8) : byteBits (l ++ [c]) = byteBits l ++ bitsN 8 c.toNat := by simp [byteBits]
def textBits (l : List UInt8) : List Bool := bitsN 7 l.length ++ byteBits l
theorem Below.drewN' (B : Nat) (w : World) (n : Nat) : Below B w (w.drewN n) := ⟨rfl, rfl, rfl, Nat.le_refl _, fun _ _ => rfl⟩
set_option maxHeartbeats 2000000 in
theorem text_ok {B g : Nat} {G : List (Nat × Obj)} {w : World} {bs : List Bool} (h : Wr B G w g bs 0) (l : List UInt8) (hl : l.length ≤ 127) (hn : bs.length + 7 + 8 * l.length ≤ 500000) :
    Calls Try.prog 93 #[.pointer (some ⟨g, 0, none⟩), .int .i64 127, .string (Str l)] w fun e w' => e = .returned (.tuple #[]) ∧ Wr B G w' g (bs ++ textBits l) 0 ∧ Below B w w' := by
  obtain ⟨v, c0, c1, c2, hf, hown, _⟩ := WrL.cells h
  have HH := Lib.hid h
  have hd : decide ((127 : Int) < (l.length : Int)) = false := by simp; omega
  clear hown c0 hf h
  go_enter Try.func93, Try.ntmps93
  go_wp2_with fail
  refine (limit_127 _).mono ?_
  rintro e w1 ⟨rfl, rfl⟩
  go_wp2_with fail
  go_quiet ((go_at_call 102; exact Calls.quiet_of_same ((width_127 _).mono fun _ _ h => ⟨h.1, h.2.symm⟩)))
  have HN := Lib.hid (WrL.drewN HH.out nq)
  have HB0 := Lib.hid (Below.drewN' B w nq)
  clear HH c1 c2 hd
  generalize World.drewN w nq = w2 at HN HB0 ⊢
  go_wp2_with fail
  refine (width_127 _).mono ?_
  rintro e w3 ⟨rfl, rfl⟩
  go_wp2_with fail
  refine (put_any (show Wr B G w2 g bs 0 from HN.out) 7 (by omega) l.length (by unfold U64; omega) (by omega)).mono ?_
  rintro e w3 ⟨rfl, h3, b3⟩
  have H3 := Lib.hid h3
  have HB3 := Lib.hid (HB0.out.trans b3)
  clear h3 b3 HN HB0
  go_wp2_with fail
  go_loopw [16] (fun i wr => ∃ k : Nat, k ≤ l.length ∧ i = .int .i64 k ∧ Hid (Wr B G wr g (bs ++ bitsN 7 l.length ++ byteBits (l.take k)) 0) ∧ Hid (Below B w wr)) (fun i _ => l.length - (intOf i).toNat)
  case atStart => exact ⟨0, Nat.zero_le _, rfl, by simpa [byteBits] using H3, HB3⟩
  case round =>
    clear H3 HB3
    obtain ⟨k, hk, rfl, H3, HB3⟩ := hrel
    by_cases hlt : k < l.length
    · have hs : (Str l).size = l.length := by show l.toArray.size = _; simp
      have hks : k < (Str l).size := by omega
      clear hs
      have ec : IntKind.u64.wrap (((Str l)[k]'hks).toNat : Int) = ((l[k]'hlt).toNat : Int) := by
        have : (Str l)[k]'hks = l[k]'hlt := by show l.toArray[k]'_ = _; simp
        rw [this, WrAll.wrap_small _ (by omega) (by have := (l[k]'hlt).toNat_lt; omega)]; omega
      have HE := Lib.hid ec
      have hbl : (byteBits (l.take k)).length ≤ 8 * l.length := by rw [byteBits_length, List.length_take]; omega
      have hcl : (bs ++ bitsN 7 l.length ++ byteBits (l.take k)).length + 8 ≤ 1000000 := by
        rw [List.length_append, List.length_append, bitsN_length]; omega
      have hts : byteBits (l.take (k + 1)) = byteBits (l.take k) ++ bitsN 8 (l[k]'hlt).toNat := by
        rw [List.take_succ_eq_append_getElem hlt, byteBits_snoc]
      have HT := Lib.hid hts
      clear ec hbl hts
      go_wp2_with fail
      rw [HE.out]
      refine (put_any H3.out 8 (by omega) (l[k]'hlt).toNat (by have := (l[k]'hlt).toNat_lt; unfold U64; omega) hcl).mono ?_
      rintro e w4 ⟨rfl, h4, b4⟩
      have H4 : Hid (Wr B G w4 g (bs ++ bitsN 7 l.length ++ byteBits (l.take (k + 1))) 0) := by
        rw [HT.out, ← List.append_assoc]; exact Lib.hid h4
      have HB4 := Lib.hid (HB3.out.trans b4)
      clear h4 b4 H3 HB3 HT
      go_wp2_with fail
      go_roundw
      case rel => exact ⟨k + 1, by omega, by go_num, H4, HB4⟩
      case measure => simp [intOf]; omega
    · obtain rfl : k = l.length := by omega
      have HF : Hid (Wr B G wr g (bs ++ textBits l) 0) := by
        have := H3.out
        rw [List.take_length, List.append_assoc] at this
        exact Lib.hid this
      clear H3
      go_wp2
      go_end0
      exact ⟨rfl, HF.out, HB3.out⟩
set_option maxHeartbeats 2000000 in
theorem text_long {B g : Nat} {G : List (Nat × Obj)} {w : World} {bs : List Bool} (h : Wr B G w g bs 0) (l : List UInt8) (hl : 127 < l.length) :
    Calls Try.prog 93 #[.pointer (some ⟨g, 0, none⟩), .int .i64 127, .string (Str l)] w fun e w' => e = .returned (.tuple #[]) ∧ Wr B G w' g bs 8 ∧ Below B w w' := by
  obtain ⟨v, c0, c1, c2, hf, hown, hv⟩ := WrL.cells h
  have f2 := hf 2
  have hd : decide ((127 : Int) < (l.length : Int)) = true := by simp; omega
  have HW : Hid (∀ n, Wr B G ((w.drewN n).setCell ⟨g, 2, none⟩ (.int .i64 8)) g bs 8) := Lib.hid (fun n => WrL.put (WrL.drewN h n) (v := v) hv hown rfl)
  have HB0 : Hid (∀ n, Below B w ((w.drewN n).setCell ⟨g, 2, none⟩ (.int .i64 8))) := Lib.hid (fun n => (Below.drewN' B w n).setCell h.1 _)
  clear hown c0 hf h hv
  go_enter Try.func93, Try.ntmps93
  go_wp2_with fail
  refine (limit_127 _).mono ?_
  rintro e w1 ⟨rfl, rfl⟩
  go_wp2_with fail
  go_quiet ((go_at_call 102; exact Calls.quiet_of_same ((width_127 _).mono fun _ _ h => ⟨h.1, h.2.symm⟩)))
  go_wp2_with fail
  go_end0
  exact ⟨rfl, HW.out _, HB0.out _⟩
end Go.Proofs.Ytbgnkjaikbhdoaa.WrText
