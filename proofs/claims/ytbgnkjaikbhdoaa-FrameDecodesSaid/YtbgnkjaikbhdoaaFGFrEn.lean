/- frame.Encode, for every frame. (cut to what is reached: wip/tools/slimout2.py) -/
import Derived.Test.YtbgnkjaikbhdoaaFGFrE
import Derived.Test.YtbgnkjaikbhdoaaFGFrC
namespace Go.Proofs.Ytbgnkjaikbhdoaa.FrEn
set_option linter.unusedSimpArgs false
set_option linter.unusedVariables false
open Go.RowKit Go.Proofs.Ytbgnkjaikbhdoaa.Pack Go.Proofs.Ytbgnkjaikbhdoaa.Wr Go.Proofs.Ytbgnkjaikbhdoaa.WrPut Go.Proofs.Ytbgnkjaikbhdoaa.WrAll Go.Proofs.Ytbgnkjaikbhdoaa.WrText Go.Proofs.Ytbgnkjaikbhdoaa.PenW Go.Proofs.Ytbgnkjaikbhdoaa.PenF Go.Proofs.Ytbgnkjaikbhdoaa.PenFr Go.Proofs.Ytbgnkjaikbhdoaa.FrA Go.Proofs.Ytbgnkjaikbhdoaa.FrCrc Go.Proofs.Ytbgnkjaikbhdoaa.FrE Go.Proofs.Ytbgnkjaikbhdoaa.FrC Go.Proofs.Ytbgnkjaikbhdoaa.Alg
open Go.Proofs.Ytbgnkjaikbhdoaa.Bytes (Str)
def moreBits (k x y er sl rk ep : Int) (d : List UInt8) : List Bool :=
  if k = 1 then bitsN 8 x.toNat ++ bitsN 16 y.toNat ++ textBits d
  else if k = 2 then bitsN 16 (er % 18446744073709551616).toNat
  else if k = 3 then bitsN 27 sl.toNat ++ bitsN 16 rk.toNat ++ bitsN 16 ep.toNat ++ textBits d
  else textBits d
def frBits (k s t l q x y er sl rk ep : Int) (d : List UInt8) : List Bool := headBits k s t l q ++ moreBits k x y er sl rk ep d
def encF (k s t l q x y er sl rk ep : Int) (d : List UInt8) : List UInt8 × Int :=
  if okF k s t l q x y er sl rk ep d = false then ([], 1)
  else if k ≠ 2 ∧ 127 < d.length then ([], 8)
  else if 125 < (pack (frBits k s t l q x y er sl rk ep d)).length then ([], 8)
  else (protect (pack (frBits k s t l q x y er sl rk ep d)), 0)
theorem inB_iff (n m : Int) : inB n m = true ↔ 0 ≤ n ∧ n ≤ m := by simp [inB]
theorem errB_iff (n : Int) : errB n = true ↔ -32768 ≤ n ∧ n ≤ 32767 := by simp [errB]
theorem tgB_iff (s t : Int) : tgB s t = true ↔ (0 ≤ t ∧ t ≤ 31) ∧ t ≠ s := by simp [tgB, inB_iff]
theorem zeroB_iff (x y er sl rk ep : Int) (d : List UInt8) : zeroB x y er sl rk ep d = true ↔ x = 0 ∧ y = 0 ∧ er = 0 ∧ sl = 0 ∧ rk = 0 ∧ ep = 0 ∧ d = [] := by simp [zeroB]
theorem headBits_length (k s t l q : Int) : (headBits k s t l q).length ≤ 30 := by
  unfold headBits
  have := targetBits_length t
  simp only [List.length_append, bitsN_length]; omega
theorem byteBits_length (d : List UInt8) : (byteBits d).length = 8 * d.length := by
  induction d with
  | nil => rfl
  | cons a d ih => simp only [byteBits, List.flatMap_cons, List.length_append, bitsN_length, List.length_cons] at ih ⊢; omega
theorem textBits_length (d : List UInt8) : (textBits d).length = 7 + 8 * d.length := by
  simp only [textBits, List.length_append, bitsN_length, byteBits_length]
theorem frBits_length (k s t l q x y er sl rk ep : Int) (d : List UInt8) : (frBits k s t l q x y er sl rk ep d).length ≤ 100 + 8 * d.length := by
  have h := headBits_length k s t l q
  have ht := textBits_length d
  unfold frBits moreBits
  rw [List.length_append]
  split
  · simp only [List.length_append, bitsN_length]; omega
  · split
    · simp only [bitsN_length]; omega
    · split
      · simp only [List.length_append, bitsN_length]; omega
      · omega
theorem pack_small (k s t l q x y er sl rk ep : Int) (d : List UInt8) (h : d.length ≤ 127) : (pack (frBits k s t l q x y er sl rk ep d)).length ≤ 1000 := by
  have := frBits_length k s t l q x y er sl rk ep d
  rw [pack_length]; omega
theorem ok_1 {s t l q x y er sl rk ep : Int} {d : List UInt8} (h : okF 1 s t l q x y er sl rk ep d = true) : ((0 ≤ t ∧ t ≤ 31) ∧ t ≠ s) ∧ (0 ≤ x ∧ x ≤ 255) ∧ (0 ≤ y ∧ y ≤ 65535) ∧ (er = 0 ∧ sl = 0 ∧ rk = 0 ∧ ep = 0) ∧ (0 ≤ s ∧ s ≤ 31) ∧ (0 ≤ l ∧ l ≤ 255) ∧ (0 ≤ q ∧ q ≤ 255) := by
  simp only [okF, if_pos, Bool.and_eq_true, inB_iff, tgB_iff, zeroB_iff] at h
  omega
theorem ok_2 {s t l q x y er sl rk ep : Int} {d : List UInt8} (h : okF 2 s t l q x y er sl rk ep d = true) : ((0 ≤ t ∧ t ≤ 31) ∧ t ≠ s) ∧ (-32768 ≤ er ∧ er ≤ 32767) ∧ (x = 0 ∧ y = 0 ∧ sl = 0 ∧ rk = 0 ∧ ep = 0) ∧ d = [] ∧ (0 ≤ s ∧ s ≤ 31) ∧ (0 ≤ l ∧ l ≤ 255) ∧ (0 ≤ q ∧ q ≤ 255) := by
  simp only [okF, if_neg (show ¬ (2 : Int) = 1 by decide), if_pos, Bool.and_eq_true, inB_iff, tgB_iff, errB_iff, zeroB_iff] at h
  obtain ⟨⟨⟨⟨⟨⟨a1, a2⟩, a3⟩, b1, b2, b3, b4, b5, b6, b7⟩, c⟩, d1⟩, e⟩ := h
  exact ⟨⟨a1, a2⟩, a3, ⟨b1, b2, b4, b5, b6⟩, b7, c, d1, e⟩
theorem ok_3 {s t l q x y er sl rk ep : Int} {d : List UInt8} (h : okF 3 s t l q x y er sl rk ep d = true) : t = -1 ∧ (0 ≤ sl ∧ sl ≤ 109951162) ∧ (0 ≤ rk ∧ rk ≤ 65535) ∧ (0 ≤ ep ∧ ep ≤ 65535) ∧ (x = 0 ∧ y = 0 ∧ er = 0) ∧ (0 ≤ s ∧ s ≤ 31) ∧ (0 ≤ l ∧ l ≤ 255) ∧ (0 ≤ q ∧ q ≤ 255) := by
  simp only [okF, if_neg (show ¬ (3 : Int) = 1 by decide), if_neg (show ¬ (3 : Int) = 2 by decide), if_pos, Bool.and_eq_true, inB_iff, zeroB_iff, decide_eq_true_eq] at h
  omega
theorem ok_4 {s t l q x y er sl rk ep : Int} {d : List UInt8} (h : okF 4 s t l q x y er sl rk ep d = true) : (t = -1 ∨ (0 ≤ t ∧ t ≤ 31) ∧ t ≠ s) ∧ (x = 0 ∧ y = 0 ∧ er = 0 ∧ sl = 0 ∧ rk = 0 ∧ ep = 0) ∧ (0 ≤ s ∧ s ≤ 31) ∧ (0 ≤ l ∧ l ≤ 255) ∧ (0 ≤ q ∧ q ≤ 255) := by
  simp only [okF, if_neg (show ¬ (4 : Int) = 1 by decide), if_neg (show ¬ (4 : Int) = 2 by decide), if_neg (show ¬ (4 : Int) = 3 by decide), if_pos, Bool.and_eq_true, Bool.or_eq_true, inB_iff, tgB_iff, zeroB_iff, decide_eq_true_eq] at h
  omega
theorem ok_kind {k s t l q x y er sl rk ep : Int} {d : List UInt8} (h : okF k s t l q x y er sl rk ep d = true) : k = 1 ∨ k = 2 ∨ k = 3 ∨ k = 4 := by
  by_cases h1 : k = 1
  · exact .inl h1
  by_cases h2 : k = 2
  · exact .inr (.inl h2)
  by_cases h3 : k = 3
  · exact .inr (.inr (.inl h3))
  by_cases h4 : k = 4
  · exact .inr (.inr (.inr h4))
  · simp [okF, h1, h2, h3, h4] at h
theorem chk_ok {k s t l q x y er sl rk ep : Int} {d : List UInt8} (h : okF k s t l q x y er sl rk ep d = true) : Chk (fr k s t l q x y er sl rk ep d) 0 := fun w => by
  have := check_any k s t l q x y er sl rk ep d w
  rwa [ckF, h, if_pos rfl] at this
theorem chk_no {k s t l q x y er sl rk ep : Int} {d : List UInt8} (h : okF k s t l q x y er sl rk ep d = false) : Chk (fr k s t l q x y er sl rk ep d) 1 := fun w => by
  have := check_any k s t l q x y er sl rk ep d w
  rwa [ckF, h, if_neg (by decide)] at this
def shortBits (k s t l q x y er sl rk ep : Int) : List Bool := headBits k s t l q ++ (if k = 1 then bitsN 8 x.toNat ++ bitsN 16 y.toNat else if k = 3 then bitsN 27 sl.toNat ++ bitsN 16 rk.toNat ++ bitsN 16 ep.toNat else [])
theorem writes_ok {k s t l q x y er sl rk ep : Int} {d : List UInt8} (h : okF k s t l q x y er sl rk ep d = true) (hd : k ≠ 2 → d.length ≤ 127) : Writes (fr k s t l q x y er sl rk ep d) (frBits k s t l q x y er sl rk ep d) 0 := by
  intro B g gf G w hW hG
  rcases ok_kind h with rfl | rfl | rfl | rfl
  · obtain ⟨⟨⟨a1, a2⟩, a3⟩, ⟨b1, b2⟩, ⟨c1, c2⟩, _, ⟨d1, d2⟩, ⟨e1, e2⟩, f1, f2⟩ := ok_1 h
    simpa [frBits, moreBits] using frame_data hW hG rfl s rfl d1 d2 t rfl (by omega) a2 l rfl e1 e2 q rfl f1 f2 x rfl b1 b2 y rfl c1 c2 d rfl (hd (by decide))
  · obtain ⟨⟨⟨a1, a2⟩, a3⟩, ⟨b1, b2⟩, _, _, ⟨d1, d2⟩, ⟨e1, e2⟩, f1, f2⟩ := ok_2 h
    simpa [frBits, moreBits] using frame_ack hW hG rfl s rfl d1 d2 t rfl (by omega) a2 l rfl e1 e2 q rfl f1 f2 er rfl b1 b2
  · obtain ⟨a1, ⟨b1, b2⟩, ⟨c1, c2⟩, ⟨g1, g2⟩, _, ⟨d1, d2⟩, ⟨e1, e2⟩, f1, f2⟩ := ok_3 h
    simpa [frBits, moreBits] using frame_beacon hW hG rfl s rfl d1 d2 t rfl (by omega) (by omega) l rfl e1 e2 q rfl f1 f2 sl rfl b1 b2 rk rfl c1 c2 ep rfl g1 g2 d rfl (hd (by decide))
  · obtain ⟨a1, _, ⟨d1, d2⟩, ⟨e1, e2⟩, f1, f2⟩ := ok_4 h
    simpa [frBits, moreBits] using frame_message hW hG rfl s rfl d1 d2 t rfl (by omega) (by omega) l rfl e1 e2 q rfl f1 f2 d rfl (hd (by decide))
theorem writes_long {k s t l q x y er sl rk ep : Int} {d : List UInt8} (h : okF k s t l q x y er sl rk ep d = true) (hk : k ≠ 2) (hd : 127 < d.length) : Writes (fr k s t l q x y er sl rk ep d) (shortBits k s t l q x y er sl rk ep) 8 := by
  intro B g gf G w hW hG
  rcases ok_kind h with rfl | rfl | rfl | rfl
  · obtain ⟨⟨⟨a1, a2⟩, a3⟩, ⟨b1, b2⟩, ⟨c1, c2⟩, _, ⟨d1, d2⟩, ⟨e1, e2⟩, f1, f2⟩ := ok_1 h
    simpa [shortBits] using frame_data_long hW hG rfl s rfl d1 d2 t rfl (by omega) a2 l rfl e1 e2 q rfl f1 f2 x rfl b1 b2 y rfl c1 c2 d rfl hd
  · exact absurd rfl hk
  · obtain ⟨a1, ⟨b1, b2⟩, ⟨c1, c2⟩, ⟨g1, g2⟩, _, ⟨d1, d2⟩, ⟨e1, e2⟩, f1, f2⟩ := ok_3 h
    simpa [shortBits] using frame_beacon_long hW hG rfl s rfl d1 d2 t rfl (by omega) (by omega) l rfl e1 e2 q rfl f1 f2 sl rfl b1 b2 rk rfl c1 c2 ep rfl g1 g2 d rfl hd
  · obtain ⟨a1, _, ⟨d1, d2⟩, ⟨e1, e2⟩, f1, f2⟩ := ok_4 h
    simpa [shortBits] using frame_message_long hW hG rfl s rfl d1 d2 t rfl (by omega) (by omega) l rfl e1 e2 q rfl f1 f2 d rfl hd
theorem encode_any (k s t l q x y er sl rk ep : Int) (d : List UInt8) (r : List UInt8 × Int) (hr : encF k s t l q x y er sl rk ep d = r) (w : World) :
    Calls Try.prog 11 #[.agg (fr k s t l q x y er sl rk ep d)] w fun e w' => e = .returned (.tuple #[.string (Str r.1), .int .i64 r.2]) ∧ Below w.heap.size w w' := by
  subst hr
  unfold encF
  by_cases h : okF k s t l q x y er sl rk ep d = false
  · rw [if_pos h]; exact enc_bad _ _ _ _ _ _ _ _ _ _ _ _ (chk_no h) w
  · rw [if_neg h]
    have h : okF k s t l q x y er sl rk ep d = true := by simpa using h
    by_cases h2 : k ≠ 2 ∧ 127 < d.length
    · rw [if_pos h2]; exact enc_long _ _ _ _ _ _ _ _ _ _ _ _ (chk_ok h) _ (writes_long h h2.1 h2.2) w
    · rw [if_neg h2]
      have hd : d.length ≤ 127 := by
        by_cases hk : k = 2
        · subst hk; rw [(ok_2 h).2.2.2.1]; decide
        · simp [hk] at h2; omega
      by_cases h3 : 125 < (pack (frBits k s t l q x y er sl rk ep d)).length
      · rw [if_pos h3]; exact enc_big _ _ _ _ _ _ _ _ _ _ _ _ (chk_ok h) _ (writes_ok h (fun _ => hd)) _ rfl h3 (pack_small _ _ _ _ _ _ _ _ _ _ _ _ hd) w
      · rw [if_neg h3]; exact enc_ok _ _ _ _ _ _ _ _ _ _ _ _ (chk_ok h) _ (writes_ok h (fun _ => hd)) _ rfl (by omega) w
end Go.Proofs.Ytbgnkjaikbhdoaa.FrEn
