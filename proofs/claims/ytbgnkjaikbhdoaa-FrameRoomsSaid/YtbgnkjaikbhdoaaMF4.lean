/- Reading a value that came in, cell by cell: structs, arrays, slices. A frame that a law holds in memory. awake of the laws of frame. frame.Time and frame.Room. Bytes that are read are those of their frame: plain. Decode of Encode: plain. Printed by wip/backf.py. -/
import Derived.Test.YtbgnkjaikbhdoaaMF3
import Derived.Test.YtbgnkjaikbhdoaaRows
import Derived.WalkKit
import Derived.ProofKit
import Derived.OpenShut
import Derived.ShutString
import Derived.ChangeOld
import Derived.Below
-- BackF
namespace Go.Proofs.Ytbgnkjaikbhdoaa.BackF
set_option linter.unusedSimpArgs false
set_option linter.unusedVariables false
open Go.Proofs.Ytbgnkjaikbhdoaa.Pack Go.Proofs.Ytbgnkjaikbhdoaa.Rd Go.Proofs.Ytbgnkjaikbhdoaa.RdC Go.Proofs.Ytbgnkjaikbhdoaa.RdT Go.Proofs.Ytbgnkjaikbhdoaa.PenR Go.Proofs.Ytbgnkjaikbhdoaa.PenF Go.Proofs.Ytbgnkjaikbhdoaa.PenFr Go.Proofs.Ytbgnkjaikbhdoaa.WrText Go.Proofs.Ytbgnkjaikbhdoaa.FrCrc Go.Proofs.Ytbgnkjaikbhdoaa.FrC Go.Proofs.Ytbgnkjaikbhdoaa.FrE Go.Proofs.Ytbgnkjaikbhdoaa.FrEn Go.Proofs.Ytbgnkjaikbhdoaa.Alg Go.Proofs.Ytbgnkjaikbhdoaa.Dec Go.Proofs.Ytbgnkjaikbhdoaa.Back

theorem rd_1 (s l q x y : Nat) (t : Int) (d : List UInt8) (t0 : -1 ≤ t) (t1 : t ≤ 31) (hs : s < 32) (hl : l < 256) (hq : q < 256) (hx : x < 256) (hy : y < 65536) (hd : d.length ≤ 127) (bs : List Bool) (hb : bs = (bitsN 3 1 ++ bitsN 5 s ++ targetBits t ++ bitsN 8 l ++ bitsN 8 q) ++ (bitsN 8 x ++ bitsN 16 y ++ textBits d)) :
    rdF (pack bs) = (true, ⟨1, s, t, l, q, x, y, 0, 0, 0, 0, d⟩, bs.length, 0) := by
  obtain ⟨T, hT⟩ : ∃ T, (targetBits t).length = T := ⟨_, rfl⟩
  have r0 : rdf (pack bs) 3 (0) 0 = (1, 0 + 3, 0) := rdf_back' bs ([]) (bitsN 5 s ++ targetBits t ++ bitsN 8 l ++ bitsN 8 q ++ bitsN 8 x ++ bitsN 16 y ++ textBits d) 3 1 (0) (by rw [hb]; try simp only [List.append_assoc, List.nil_append, List.append_nil]) (by simp only [List.length_append, List.length_nil, bitsN_length, hT]) (by omega)
  have r1 : rdf (pack bs) 5 (0 + 3) 0 = (s, 0 + 3 + 5, 0) := rdf_back' bs (bitsN 3 1) (targetBits t ++ bitsN 8 l ++ bitsN 8 q ++ bitsN 8 x ++ bitsN 16 y ++ textBits d) 5 s (0 + 3) (by rw [hb]; try simp only [List.append_assoc, List.nil_append, List.append_nil]) (by simp only [List.length_append, List.length_nil, bitsN_length, hT]) (by omega)
  have r2 : rdTg (pack bs) (0 + 3 + 5) 0 = (t, 0 + 3 + 5 + T, 0) := by have := target_back bs (bitsN 3 1 ++ bitsN 5 s) (bitsN 8 l ++ bitsN 8 q ++ bitsN 8 x ++ bitsN 16 y ++ textBits d) t (0 + 3 + 5) t0 t1 (by rw [hb]; try simp only [List.append_assoc, List.nil_append, List.append_nil]) (by simp only [List.length_append, List.length_nil, bitsN_length, hT]); rwa [hT] at this
  have r3 : rdf (pack bs) 8 (0 + 3 + 5 + T) 0 = (l, 0 + 3 + 5 + T + 8, 0) := rdf_back' bs (bitsN 3 1 ++ bitsN 5 s ++ targetBits t) (bitsN 8 q ++ bitsN 8 x ++ bitsN 16 y ++ textBits d) 8 l (0 + 3 + 5 + T) (by rw [hb]; try simp only [List.append_assoc, List.nil_append, List.append_nil]) (by simp only [List.length_append, List.length_nil, bitsN_length, hT]) (by omega)
  have r4 : rdf (pack bs) 8 (0 + 3 + 5 + T + 8) 0 = (q, 0 + 3 + 5 + T + 8 + 8, 0) := rdf_back' bs (bitsN 3 1 ++ bitsN 5 s ++ targetBits t ++ bitsN 8 l) (bitsN 8 x ++ bitsN 16 y ++ textBits d) 8 q (0 + 3 + 5 + T + 8) (by rw [hb]; try simp only [List.append_assoc, List.nil_append, List.append_nil]) (by simp only [List.length_append, List.length_nil, bitsN_length, hT]) (by omega)
  have r5 : rdf (pack bs) 8 (0 + 3 + 5 + T + 8 + 8) 0 = (x, 0 + 3 + 5 + T + 8 + 8 + 8, 0) := rdf_back' bs (bitsN 3 1 ++ bitsN 5 s ++ targetBits t ++ bitsN 8 l ++ bitsN 8 q) (bitsN 16 y ++ textBits d) 8 x (0 + 3 + 5 + T + 8 + 8) (by rw [hb]; try simp only [List.append_assoc, List.nil_append, List.append_nil]) (by simp only [List.length_append, List.length_nil, bitsN_length, hT]) (by omega)
  have r6 : rdf (pack bs) 16 (0 + 3 + 5 + T + 8 + 8 + 8) 0 = (y, 0 + 3 + 5 + T + 8 + 8 + 8 + 16, 0) := rdf_back' bs (bitsN 3 1 ++ bitsN 5 s ++ targetBits t ++ bitsN 8 l ++ bitsN 8 q ++ bitsN 8 x) (textBits d) 16 y (0 + 3 + 5 + T + 8 + 8 + 8) (by rw [hb]; try simp only [List.append_assoc, List.nil_append, List.append_nil]) (by simp only [List.length_append, List.length_nil, bitsN_length, hT]) (by omega)
  have r7 : rdText (pack bs) (0 + 3 + 5 + T + 8 + 8 + 8 + 16) 0 = (d, 0 + 3 + 5 + T + 8 + 8 + 8 + 16 + 7 + 8 * d.length, 0) := text_back bs (bitsN 3 1 ++ bitsN 5 s ++ targetBits t ++ bitsN 8 l ++ bitsN 8 q ++ bitsN 8 x ++ bitsN 16 y) ([]) d (0 + 3 + 5 + T + 8 + 8 + 8 + 16) hd (by rw [hb]; try simp only [List.append_assoc, List.nil_append, List.append_nil]) (by simp only [List.length_append, List.length_nil, bitsN_length, hT])
  have hl : bs.length = 0 + 3 + 5 + T + 8 + 8 + 8 + 16 + 7 + 8 * d.length := by rw [hb]; simp only [List.length_append, bitsN_length, hT, FrEn.textBits_length]; try omega
  rw [hl]
  unfold rdF
  simp only [r0, r1, r2, r3, r4, r5, r6, r7]
  simp only [if_pos]
  try exact Prod.ext rfl (Prod.ext rfl (Prod.ext (by simp only; omega) rfl))
theorem rd_2 (s l q : Nat) (t : Int) (er : Int) (t0 : -1 ≤ t) (t1 : t ≤ 31) (hs : s < 32) (hl : l < 256) (hq : q < 256) (e0 : -32768 ≤ er) (e1 : er ≤ 32767) (bs : List Bool) (hb : bs = (bitsN 3 2 ++ bitsN 5 s ++ targetBits t ++ bitsN 8 l ++ bitsN 8 q) ++ (bitsN 16 (er % 18446744073709551616).toNat)) :
    rdF (pack bs) = (true, ⟨2, s, t, l, q, 0, 0, er, 0, 0, 0, []⟩, bs.length, 0) := by
  obtain ⟨T, hT⟩ : ∃ T, (targetBits t).length = T := ⟨_, rfl⟩
  have r0 : rdf (pack bs) 3 (0) 0 = (2, 0 + 3, 0) := rdf_back' bs ([]) (bitsN 5 s ++ targetBits t ++ bitsN 8 l ++ bitsN 8 q ++ bitsN 16 (er % 18446744073709551616).toNat) 3 2 (0) (by rw [hb]; try simp only [List.append_assoc, List.nil_append, List.append_nil]) (by simp only [List.length_append, List.length_nil, bitsN_length, hT]) (by omega)
  have r1 : rdf (pack bs) 5 (0 + 3) 0 = (s, 0 + 3 + 5, 0) := rdf_back' bs (bitsN 3 2) (targetBits t ++ bitsN 8 l ++ bitsN 8 q ++ bitsN 16 (er % 18446744073709551616).toNat) 5 s (0 + 3) (by rw [hb]; try simp only [List.append_assoc, List.nil_append, List.append_nil]) (by simp only [List.length_append, List.length_nil, bitsN_length, hT]) (by omega)
  have r2 : rdTg (pack bs) (0 + 3 + 5) 0 = (t, 0 + 3 + 5 + T, 0) := by have := target_back bs (bitsN 3 2 ++ bitsN 5 s) (bitsN 8 l ++ bitsN 8 q ++ bitsN 16 (er % 18446744073709551616).toNat) t (0 + 3 + 5) t0 t1 (by rw [hb]; try simp only [List.append_assoc, List.nil_append, List.append_nil]) (by simp only [List.length_append, List.length_nil, bitsN_length, hT]); rwa [hT] at this
  have r3 : rdf (pack bs) 8 (0 + 3 + 5 + T) 0 = (l, 0 + 3 + 5 + T + 8, 0) := rdf_back' bs (bitsN 3 2 ++ bitsN 5 s ++ targetBits t) (bitsN 8 q ++ bitsN 16 (er % 18446744073709551616).toNat) 8 l (0 + 3 + 5 + T) (by rw [hb]; try simp only [List.append_assoc, List.nil_append, List.append_nil]) (by simp only [List.length_append, List.length_nil, bitsN_length, hT]) (by omega)
  have r4 : rdf (pack bs) 8 (0 + 3 + 5 + T + 8) 0 = (q, 0 + 3 + 5 + T + 8 + 8, 0) := rdf_back' bs (bitsN 3 2 ++ bitsN 5 s ++ targetBits t ++ bitsN 8 l) (bitsN 16 (er % 18446744073709551616).toNat) 8 q (0 + 3 + 5 + T + 8) (by rw [hb]; try simp only [List.append_assoc, List.nil_append, List.append_nil]) (by simp only [List.length_append, List.length_nil, bitsN_length, hT]) (by omega)
  have r5 := signed_back bs (bitsN 3 2 ++ bitsN 5 s ++ targetBits t ++ bitsN 8 l ++ bitsN 8 q) ([]) er (0 + 3 + 5 + T + 8 + 8) e0 e1 (by rw [hb]; try simp only [List.append_assoc, List.nil_append, List.append_nil]) (by simp only [List.length_append, List.length_nil, bitsN_length, hT])
  have hl : bs.length = 0 + 3 + 5 + T + 8 + 8 + 16 := by rw [hb]; simp only [List.length_append, bitsN_length, hT, FrEn.textBits_length]; try omega
  rw [hl]
  unfold rdF
  simp only [r0, r1, r2, r3, r4, r5.1, r5.2]
  simp only [if_neg (show ¬ (2 : Nat) = 1 by decide), if_pos]
  try exact Prod.ext rfl (Prod.ext rfl (Prod.ext (by simp only; omega) rfl))
theorem rd_3 (s l q sl rk ep : Nat) (t : Int) (d : List UInt8) (t0 : -1 ≤ t) (t1 : t ≤ 31) (hs : s < 32) (hl : l < 256) (hq : q < 256) (hsl : sl < 134217728) (hrk : rk < 65536) (hep : ep < 65536) (hd : d.length ≤ 127) (bs : List Bool) (hb : bs = (bitsN 3 3 ++ bitsN 5 s ++ targetBits t ++ bitsN 8 l ++ bitsN 8 q) ++ (bitsN 27 sl ++ bitsN 16 rk ++ bitsN 16 ep ++ textBits d)) :
    rdF (pack bs) = (true, ⟨3, s, t, l, q, 0, 0, 0, sl, rk, ep, d⟩, bs.length, 0) := by
  obtain ⟨T, hT⟩ : ∃ T, (targetBits t).length = T := ⟨_, rfl⟩
  have r0 : rdf (pack bs) 3 (0) 0 = (3, 0 + 3, 0) := rdf_back' bs ([]) (bitsN 5 s ++ targetBits t ++ bitsN 8 l ++ bitsN 8 q ++ bitsN 27 sl ++ bitsN 16 rk ++ bitsN 16 ep ++ textBits d) 3 3 (0) (by rw [hb]; try simp only [List.append_assoc, List.nil_append, List.append_nil]) (by simp only [List.length_append, List.length_nil, bitsN_length, hT]) (by omega)
  have r1 : rdf (pack bs) 5 (0 + 3) 0 = (s, 0 + 3 + 5, 0) := rdf_back' bs (bitsN 3 3) (targetBits t ++ bitsN 8 l ++ bitsN 8 q ++ bitsN 27 sl ++ bitsN 16 rk ++ bitsN 16 ep ++ textBits d) 5 s (0 + 3) (by rw [hb]; try simp only [List.append_assoc, List.nil_append, List.append_nil]) (by simp only [List.length_append, List.length_nil, bitsN_length, hT]) (by omega)
  have r2 : rdTg (pack bs) (0 + 3 + 5) 0 = (t, 0 + 3 + 5 + T, 0) := by have := target_back bs (bitsN 3 3 ++ bitsN 5 s) (bitsN 8 l ++ bitsN 8 q ++ bitsN 27 sl ++ bitsN 16 rk ++ bitsN 16 ep ++ textBits d) t (0 + 3 + 5) t0 t1 (by rw [hb]; try simp only [List.append_assoc, List.nil_append, List.append_nil]) (by simp only [List.length_append, List.length_nil, bitsN_length, hT]); rwa [hT] at this
  have r3 : rdf (pack bs) 8 (0 + 3 + 5 + T) 0 = (l, 0 + 3 + 5 + T + 8, 0) := rdf_back' bs (bitsN 3 3 ++ bitsN 5 s ++ targetBits t) (bitsN 8 q ++ bitsN 27 sl ++ bitsN 16 rk ++ bitsN 16 ep ++ textBits d) 8 l (0 + 3 + 5 + T) (by rw [hb]; try simp only [List.append_assoc, List.nil_append, List.append_nil]) (by simp only [List.length_append, List.length_nil, bitsN_length, hT]) (by omega)
  have r4 : rdf (pack bs) 8 (0 + 3 + 5 + T + 8) 0 = (q, 0 + 3 + 5 + T + 8 + 8, 0) := rdf_back' bs (bitsN 3 3 ++ bitsN 5 s ++ targetBits t ++ bitsN 8 l) (bitsN 27 sl ++ bitsN 16 rk ++ bitsN 16 ep ++ textBits d) 8 q (0 + 3 + 5 + T + 8) (by rw [hb]; try simp only [List.append_assoc, List.nil_append, List.append_nil]) (by simp only [List.length_append, List.length_nil, bitsN_length, hT]) (by omega)
  have r5 : rdf (pack bs) 27 (0 + 3 + 5 + T + 8 + 8) 0 = (sl, 0 + 3 + 5 + T + 8 + 8 + 27, 0) := rdf_back' bs (bitsN 3 3 ++ bitsN 5 s ++ targetBits t ++ bitsN 8 l ++ bitsN 8 q) (bitsN 16 rk ++ bitsN 16 ep ++ textBits d) 27 sl (0 + 3 + 5 + T + 8 + 8) (by rw [hb]; try simp only [List.append_assoc, List.nil_append, List.append_nil]) (by simp only [List.length_append, List.length_nil, bitsN_length, hT]) (by omega)
  have r6 : rdf (pack bs) 16 (0 + 3 + 5 + T + 8 + 8 + 27) 0 = (rk, 0 + 3 + 5 + T + 8 + 8 + 27 + 16, 0) := rdf_back' bs (bitsN 3 3 ++ bitsN 5 s ++ targetBits t ++ bitsN 8 l ++ bitsN 8 q ++ bitsN 27 sl) (bitsN 16 ep ++ textBits d) 16 rk (0 + 3 + 5 + T + 8 + 8 + 27) (by rw [hb]; try simp only [List.append_assoc, List.nil_append, List.append_nil]) (by simp only [List.length_append, List.length_nil, bitsN_length, hT]) (by omega)
  have r7 : rdf (pack bs) 16 (0 + 3 + 5 + T + 8 + 8 + 27 + 16) 0 = (ep, 0 + 3 + 5 + T + 8 + 8 + 27 + 16 + 16, 0) := rdf_back' bs (bitsN 3 3 ++ bitsN 5 s ++ targetBits t ++ bitsN 8 l ++ bitsN 8 q ++ bitsN 27 sl ++ bitsN 16 rk) (textBits d) 16 ep (0 + 3 + 5 + T + 8 + 8 + 27 + 16) (by rw [hb]; try simp only [List.append_assoc, List.nil_append, List.append_nil]) (by simp only [List.length_append, List.length_nil, bitsN_length, hT]) (by omega)
  have r8 : rdText (pack bs) (0 + 3 + 5 + T + 8 + 8 + 27 + 16 + 16) 0 = (d, 0 + 3 + 5 + T + 8 + 8 + 27 + 16 + 16 + 7 + 8 * d.length, 0) := text_back bs (bitsN 3 3 ++ bitsN 5 s ++ targetBits t ++ bitsN 8 l ++ bitsN 8 q ++ bitsN 27 sl ++ bitsN 16 rk ++ bitsN 16 ep) ([]) d (0 + 3 + 5 + T + 8 + 8 + 27 + 16 + 16) hd (by rw [hb]; try simp only [List.append_assoc, List.nil_append, List.append_nil]) (by simp only [List.length_append, List.length_nil, bitsN_length, hT])
  have hl : bs.length = 0 + 3 + 5 + T + 8 + 8 + 27 + 16 + 16 + 7 + 8 * d.length := by rw [hb]; simp only [List.length_append, bitsN_length, hT, FrEn.textBits_length]; try omega
  rw [hl]
  unfold rdF
  simp only [r0, r1, r2, r3, r4, r5, r6, r7, r8]
  simp only [if_neg (show ¬ (3 : Nat) = 1 by decide), if_neg (show ¬ (3 : Nat) = 2 by decide), if_pos]
  try exact Prod.ext rfl (Prod.ext rfl (Prod.ext (by simp only; omega) rfl))
theorem rd_4 (s l q : Nat) (t : Int) (d : List UInt8) (t0 : -1 ≤ t) (t1 : t ≤ 31) (hs : s < 32) (hl : l < 256) (hq : q < 256) (hd : d.length ≤ 127) (bs : List Bool) (hb : bs = (bitsN 3 4 ++ bitsN 5 s ++ targetBits t ++ bitsN 8 l ++ bitsN 8 q) ++ (textBits d)) :
    rdF (pack bs) = (true, ⟨4, s, t, l, q, 0, 0, 0, 0, 0, 0, d⟩, bs.length, 0) := by
  obtain ⟨T, hT⟩ : ∃ T, (targetBits t).length = T := ⟨_, rfl⟩
  have r0 : rdf (pack bs) 3 (0) 0 = (4, 0 + 3, 0) := rdf_back' bs ([]) (bitsN 5 s ++ targetBits t ++ bitsN 8 l ++ bitsN 8 q ++ textBits d) 3 4 (0) (by rw [hb]; try simp only [List.append_assoc, List.nil_append, List.append_nil]) (by simp only [List.length_append, List.length_nil, bitsN_length, hT]) (by omega)
  have r1 : rdf (pack bs) 5 (0 + 3) 0 = (s, 0 + 3 + 5, 0) := rdf_back' bs (bitsN 3 4) (targetBits t ++ bitsN 8 l ++ bitsN 8 q ++ textBits d) 5 s (0 + 3) (by rw [hb]; try simp only [List.append_assoc, List.nil_append, List.append_nil]) (by simp only [List.length_append, List.length_nil, bitsN_length, hT]) (by omega)
  have r2 : rdTg (pack bs) (0 + 3 + 5) 0 = (t, 0 + 3 + 5 + T, 0) := by have := target_back bs (bitsN 3 4 ++ bitsN 5 s) (bitsN 8 l ++ bitsN 8 q ++ textBits d) t (0 + 3 + 5) t0 t1 (by rw [hb]; try simp only [List.append_assoc, List.nil_append, List.append_nil]) (by simp only [List.length_append, List.length_nil, bitsN_length, hT]); rwa [hT] at this
  have r3 : rdf (pack bs) 8 (0 + 3 + 5 + T) 0 = (l, 0 + 3 + 5 + T + 8, 0) := rdf_back' bs (bitsN 3 4 ++ bitsN 5 s ++ targetBits t) (bitsN 8 q ++ textBits d) 8 l (0 + 3 + 5 + T) (by rw [hb]; try simp only [List.append_assoc, List.nil_append, List.append_nil]) (by simp only [List.length_append, List.length_nil, bitsN_length, hT]) (by omega)
  have r4 : rdf (pack bs) 8 (0 + 3 + 5 + T + 8) 0 = (q, 0 + 3 + 5 + T + 8 + 8, 0) := rdf_back' bs (bitsN 3 4 ++ bitsN 5 s ++ targetBits t ++ bitsN 8 l) (textBits d) 8 q (0 + 3 + 5 + T + 8) (by rw [hb]; try simp only [List.append_assoc, List.nil_append, List.append_nil]) (by simp only [List.length_append, List.length_nil, bitsN_length, hT]) (by omega)
  have r5 : rdText (pack bs) (0 + 3 + 5 + T + 8 + 8) 0 = (d, 0 + 3 + 5 + T + 8 + 8 + 7 + 8 * d.length, 0) := text_back bs (bitsN 3 4 ++ bitsN 5 s ++ targetBits t ++ bitsN 8 l ++ bitsN 8 q) ([]) d (0 + 3 + 5 + T + 8 + 8) hd (by rw [hb]; try simp only [List.append_assoc, List.nil_append, List.append_nil]) (by simp only [List.length_append, List.length_nil, bitsN_length, hT])
  have hl : bs.length = 0 + 3 + 5 + T + 8 + 8 + 7 + 8 * d.length := by rw [hb]; simp only [List.length_append, bitsN_length, hT, FrEn.textBits_length]; try omega
  rw [hl]
  unfold rdF
  simp only [r0, r1, r2, r3, r4, r5]
  simp only [if_neg (show ¬ (4 : Nat) = 1 by decide), if_neg (show ¬ (4 : Nat) = 2 by decide), if_neg (show ¬ (4 : Nat) = 3 by decide), if_pos]
  try exact Prod.ext rfl (Prod.ext rfl (Prod.ext (by simp only; omega) rfl))

theorem rdF_back {k s t l q x y er sl rk ep : Int} {d : List UInt8} (h : okF k s t l q x y er sl rk ep d = true) (hd : k ≠ 2 → d.length ≤ 127) :
    rdF (pack (frBits k s t l q x y er sl rk ep d)) = (true, ⟨k, s, t, l, q, x, y, er, sl, rk, ep, d⟩, (frBits k s t l q x y er sl rk ep d).length, 0) := by
  rcases ok_kind h with rfl | rfl | rfl | rfl
  · obtain ⟨⟨⟨a1, a2⟩, a3⟩, ⟨b1, b2⟩, ⟨c1, c2⟩, ⟨rfl, rfl, rfl, rfl⟩, ⟨d1, d2⟩, ⟨e1, e2⟩, f1, f2⟩ := ok_1 h
    obtain ⟨s, rfl⟩ := Int.eq_ofNat_of_zero_le (show 0 ≤ s by omega)
    obtain ⟨l, rfl⟩ := Int.eq_ofNat_of_zero_le (show 0 ≤ l by omega)
    obtain ⟨q, rfl⟩ := Int.eq_ofNat_of_zero_le (show 0 ≤ q by omega)
    obtain ⟨x, rfl⟩ := Int.eq_ofNat_of_zero_le (show 0 ≤ x by omega)
    obtain ⟨y, rfl⟩ := Int.eq_ofNat_of_zero_le (show 0 ≤ y by omega)
    exact rd_1 s l q x y t d (by omega) (by omega) (by omega) (by omega) (by omega) (by omega) (by omega) (hd (by decide)) _ (by simp only [frBits, headBits, moreBits, Int.toNat_natCast, if_pos]; rfl)
  · obtain ⟨⟨⟨a1, a2⟩, a3⟩, ⟨b1, b2⟩, ⟨rfl, rfl, rfl, rfl, rfl⟩, rfl, ⟨d1, d2⟩, ⟨e1, e2⟩, f1, f2⟩ := ok_2 h
    obtain ⟨s, rfl⟩ := Int.eq_ofNat_of_zero_le (show 0 ≤ s by omega)
    obtain ⟨l, rfl⟩ := Int.eq_ofNat_of_zero_le (show 0 ≤ l by omega)
    obtain ⟨q, rfl⟩ := Int.eq_ofNat_of_zero_le (show 0 ≤ q by omega)
    exact rd_2 s l q t er (by omega) (by omega) (by omega) (by omega) (by omega) b1 b2 _ (by simp only [frBits, headBits, moreBits, Int.toNat_natCast, if_neg (show ¬ (2 : Int) = 1 by decide), if_pos]; rfl)
  · obtain ⟨a1, ⟨b1, b2⟩, ⟨c1, c2⟩, ⟨g1, g2⟩, ⟨rfl, rfl, rfl⟩, ⟨d1, d2⟩, ⟨e1, e2⟩, f1, f2⟩ := ok_3 h
    obtain ⟨s, rfl⟩ := Int.eq_ofNat_of_zero_le (show 0 ≤ s by omega)
    obtain ⟨l, rfl⟩ := Int.eq_ofNat_of_zero_le (show 0 ≤ l by omega)
    obtain ⟨q, rfl⟩ := Int.eq_ofNat_of_zero_le (show 0 ≤ q by omega)
    obtain ⟨sl, rfl⟩ := Int.eq_ofNat_of_zero_le (show 0 ≤ sl by omega)
    obtain ⟨rk, rfl⟩ := Int.eq_ofNat_of_zero_le (show 0 ≤ rk by omega)
    obtain ⟨ep, rfl⟩ := Int.eq_ofNat_of_zero_le (show 0 ≤ ep by omega)
    exact rd_3 s l q sl rk ep t d (by omega) (by omega) (by omega) (by omega) (by omega) (by omega) (by omega) (by omega) (hd (by decide)) _ (by simp only [frBits, headBits, moreBits, Int.toNat_natCast, if_neg (show ¬ (3 : Int) = 1 by decide), if_neg (show ¬ (3 : Int) = 2 by decide), if_pos]; rfl)
  · obtain ⟨a1, ⟨rfl, rfl, rfl, rfl, rfl, rfl⟩, ⟨d1, d2⟩, ⟨e1, e2⟩, f1, f2⟩ := ok_4 h
    obtain ⟨s, rfl⟩ := Int.eq_ofNat_of_zero_le (show 0 ≤ s by omega)
    obtain ⟨l, rfl⟩ := Int.eq_ofNat_of_zero_le (show 0 ≤ l by omega)
    obtain ⟨q, rfl⟩ := Int.eq_ofNat_of_zero_le (show 0 ≤ q by omega)
    exact rd_4 s l q t d (by omega) (by omega) (by omega) (by omega) (by omega) (hd (by decide)) _ (by simp only [frBits, headBits, moreBits, Int.toNat_natCast, if_neg (show ¬ (4 : Int) = 1 by decide), if_neg (show ¬ (4 : Int) = 2 by decide), if_neg (show ¬ (4 : Int) = 3 by decide), if_pos]; rfl)

theorem enc_facts {k s t l q x y er sl rk ep : Int} {d p : List UInt8} (h : encF k s t l q x y er sl rk ep d = (p, 0)) :
    okF k s t l q x y er sl rk ep d = true ∧ (k ≠ 2 → d.length ≤ 127) ∧ (pack (frBits k s t l q x y er sl rk ep d)).length ≤ 125 ∧ p = protect (pack (frBits k s t l q x y er sl rk ep d)) := by
  unfold encF at h
  by_cases h1 : okF k s t l q x y er sl rk ep d = false
  · rw [if_pos h1] at h; cases h
  · rw [if_neg h1] at h
    by_cases h2 : k ≠ 2 ∧ 127 < d.length
    · rw [if_pos h2] at h; cases h
    · rw [if_neg h2] at h
      by_cases h3 : 125 < (pack (frBits k s t l q x y er sl rk ep d)).length
      · rw [if_pos h3] at h; cases h
      · rw [if_neg h3] at h
        exact ⟨by simpa using h1, fun hk => by omega, by omega, (Prod.mk.inj h).1.symm⟩
/-- DECODE RESTORES THE FRAME. -/
theorem dec_enc {k s t l q x y er sl rk ep : Int} {d p : List UInt8} (h : encF k s t l q x y er sl rk ep d = (p, 0)) : decF p = (⟨k, s, t, l, q, x, y, er, sl, rk, ep, d⟩, 0) := by
  obtain ⟨ho, hd, hl, rfl⟩ := enc_facts h
  have hr := rdF_back ho hd
  unfold decF
  rw [if_neg (by rw [protect_length]; omega), chk_protect, if_neg (by simp), hr]
  exact if_pos ⟨rfl, close_back _, ho⟩
end Go.Proofs.Ytbgnkjaikbhdoaa.BackF

-- Strict
namespace Go.Proofs.Ytbgnkjaikbhdoaa.Strict
set_option linter.unusedSimpArgs false
set_option linter.unusedVariables false
open Go.Proofs.Ytbgnkjaikbhdoaa.Pack Go.Proofs.Ytbgnkjaikbhdoaa.Rd Go.Proofs.Ytbgnkjaikbhdoaa.RdC Go.Proofs.Ytbgnkjaikbhdoaa.RdT Go.Proofs.Ytbgnkjaikbhdoaa.PenR Go.Proofs.Ytbgnkjaikbhdoaa.PenF Go.Proofs.Ytbgnkjaikbhdoaa.PenFr Go.Proofs.Ytbgnkjaikbhdoaa.WrText Go.Proofs.Ytbgnkjaikbhdoaa.FrCrc Go.Proofs.Ytbgnkjaikbhdoaa.FrC Go.Proofs.Ytbgnkjaikbhdoaa.FrE Go.Proofs.Ytbgnkjaikbhdoaa.FrEn Go.Proofs.Ytbgnkjaikbhdoaa.Alg Go.Proofs.Ytbgnkjaikbhdoaa.Dec Go.Proofs.Ytbgnkjaikbhdoaa.Back

theorem bitsAt_add (p : List UInt8) (i a b : Nat) : bitsAt p i (a + b) = bitsAt p i a ++ bitsAt p (i + a) b := by
  induction b with
  | zero => simp [bitsAt]
  | succ b ih => rw [← Nat.add_assoc, bitsAt_succ, ih, bitsAt_succ, List.append_assoc, Nat.add_assoc]
/-- The bits from place i to place j. -/
def Seg (p : List UInt8) (i j : Nat) (bs : List Bool) : Prop := i ≤ j ∧ j ≤ 8 * p.length ∧ bs = bitsAt p i (j - i)
theorem Seg.trans {p : List UInt8} {i j k : Nat} {a b : List Bool} (h : Seg p i j a) (h2 : Seg p j k b) : Seg p i k (a ++ b) := by
  obtain ⟨x1, x2, x3⟩ := h
  obtain ⟨y1, y2, y3⟩ := h2
  refine ⟨by omega, y2, ?_⟩
  rw [x3, y3, show k - i = (j - i) + (k - j) by omega, bitsAt_add, show i + (j - i) = j by omega]
theorem rdf_inv {p : List UInt8} {k i : Nat} {e : Int} (h : (rdf p k i e).2.2 = 0) : e = 0 ∧ Seg p i (rdf p k i e).2.1 (bitsN k (rdf p k i e).1) := by
  unfold rdf at h ⊢
  by_cases he : e = 0
  · rw [if_pos he] at h ⊢
    by_cases hl : 8 * p.length < i + k
    · rw [if_pos hl] at h; cases h
    · rw [if_neg hl]
      refine ⟨he, by simp, by simp only; omega, ?_⟩
      have := bitsN_valN (bitsAt p i k)
      rw [bitsAt_length] at this
      simp only [Nat.add_sub_cancel_left]; exact this
  · rw [if_neg he] at h; exact absurd h he
theorem rdTg_inv {p : List UInt8} {i : Nat} {e : Int} (h : (rdTg p i e).2.2 = 0) : e = 0 ∧ Seg p i (rdTg p i e).2.1 (targetBits (rdTg p i e).1) := by
  unfold rdTg at h ⊢
  by_cases hf : (rdf p 1 i e).1 = 1
  · rw [if_pos hf] at h ⊢
    obtain ⟨a1, a2⟩ := rdf_inv h
    obtain ⟨b1, b2⟩ := rdf_inv a1
    refine ⟨b1, ?_⟩
    have := b2.trans a2
    rw [hf] at this
    unfold targetBits
    rw [if_pos (by simp only; omega)]
    simpa [bitsN] using this
  · rw [if_neg hf] at h ⊢
    obtain ⟨b1, b2⟩ := rdf_inv h
    have hv := rdf_lt p 1 i e
    have h0 : (rdf p 1 i e).1 = 0 := by omega
    rw [h0] at b2
    refine ⟨b1, ?_⟩
    unfold targetBits
    rw [if_neg (by simp only; omega)]
    simpa [bitsN] using b2
theorem bytes_inv (p : List UInt8) (i : Nat) : ∀ n, byteBits (bytesAt p i n) = bitsAt p i (8 * n) := by
  intro n
  induction n with
  | zero => simp [bytesAt, byteBits, bitsAt]
  | succ n ih =>
    have hc : (UInt8.ofNat (valN (bitsAt p (i + 8 * n) 8))).toNat = valN (bitsAt p (i + 8 * n) 8) := by
      rw [UInt8.toNat_ofNat']; exact Nat.mod_eq_of_lt (val_lt _ _ _)
    have hb := bitsN_valN (bitsAt p (i + 8 * n) 8)
    rw [bitsAt_length] at hb
    rw [bytesAt_succ, byteBits_snoc, ih, hc, hb, show 8 * (n + 1) = 8 * n + 8 by omega, bitsAt_add]
theorem rdText_inv {p : List UInt8} {i : Nat} {e : Int} (h : (rdText p i e).2.2 = 0) : e = 0 ∧ Seg p i (rdText p i e).2.1 (textBits (rdText p i e).1) ∧ (rdText p i e).1.length ≤ 127 := by
  unfold rdText at h ⊢
  by_cases h1 : (rdf p 7 i e).2.2 = 0
  · rw [if_pos h1] at h ⊢
    by_cases h2 : 8 * p.length < (rdf p 7 i e).2.1 + 8 * (rdf p 7 i e).1
    · rw [if_pos h2] at h; cases h
    · rw [if_neg h2]
      obtain ⟨b1, b2⟩ := rdf_inv h1
      have hv := rdf_lt p 7 i e
      refine ⟨b1, ?_, by simp only [bytesAt_length]; omega⟩
      have h3 : Seg p (rdf p 7 i e).2.1 ((rdf p 7 i e).2.1 + 8 * (rdf p 7 i e).1) (byteBits (bytesAt p (rdf p 7 i e).2.1 (rdf p 7 i e).1)) :=
        ⟨by omega, by omega, by rw [bytes_inv, Nat.add_sub_cancel_left]⟩
      have := b2.trans h3
      unfold textBits
      simp only [bytesAt_length]
      exact this
  · rw [if_neg h1] at h; exact absurd h h1
theorem rdS_inv {p : List UInt8} {i : Nat} {e : Int} (h : (rdf p 16 i e).2.2 = 0) : e = 0 ∧ Seg p i (rdf p 16 i e).2.1 (bitsN 16 (rdS p i e % 18446744073709551616).toNat) := by
  obtain ⟨b1, b2⟩ := rdf_inv h
  refine ⟨b1, ?_⟩
  have hv := rdf_lt p 16 i e
  have e1 : (rdS p i e % 18446744073709551616).toNat % 2 ^ 16 = (rdf p 16 i e).1 := by
    unfold rdS
    split <;> omega
  rw [bitsN_mod, e1]; exact b2
theorem close_inv {p : List UInt8} {i : Nat} {e : Int} (h : closeF p i e = 0) : e = 0 ∧ 8 * p.length - i < 8 ∧ valN (bitsAt p i (8 * p.length - i)) = 0 := by
  unfold closeF at h
  by_cases he : e = 0
  · rw [if_pos he] at h
    by_cases h8 : 8 ≤ 8 * p.length - i
    · rw [if_pos h8] at h; cases h
    · rw [if_neg h8] at h
      by_cases hv : valN (bitsAt p i (8 * p.length - i)) ≠ 0
      · rw [if_pos hv] at h; cases h
      · exact ⟨he, by omega, by simpa using hv⟩
  · rw [if_neg he] at h; exact absurd h he
theorem val_zero (bs : List Bool) (h : valN bs = 0) : ∀ b ∈ bs, b = false := by
  induction bs using Pack.snoc_ind with
  | h0 => simp
  | h1 bs b ih =>
    rw [valN_snoc] at h
    intro c hc
    rcases List.mem_append.1 hc with hc | hc
    · exact ih (by omega) c hc
    · simp only [List.mem_singleton] at hc
      subst hc
      cases c
      · rfl
      · simp at h
theorem pack_seg {p : List UInt8} {i : Nat} {bs : List Bool} (h : Seg p 0 i bs) (hl : 8 * p.length - i < 8) (hz : valN (bitsAt p i (8 * p.length - i)) = 0) : pack bs = p := by
  obtain ⟨_, h2, h3⟩ := h
  have hbl : bs.length = i := by rw [h3, bitsAt_length]; omega
  have hpl : (pack bs).length = p.length := by rw [pack_length, hbl]; omega
  apply bytes_ext _ _ hpl
  intro j hj
  rw [hpl] at hj
  rw [bitAt_pack]
  by_cases hji : j < i
  · rw [h3]; simp [bitsAt, List.getD, hji]
  · have : bitAt p j ∈ bitsAt p i (8 * p.length - i) := by
      simp only [bitsAt, List.mem_map, List.mem_range]
      exact ⟨j - i, by omega, by congr 1; omega⟩
    rw [val_zero _ hz _ this]
    simp [List.getD, List.getElem?_eq_none (show bs.length ≤ j by omega)]
/-- The bits of a frame that was read. -/
def Fm.bits (f : Fm) : List Bool := frBits f.k f.s f.t f.a f.q f.x f.y f.er f.sl f.rk f.ep f.d
theorem rdF_inv {p : List UInt8} (hk : (rdF p).1 = true) (he : (rdF p).2.2.2 = 0) : Seg p 0 (rdF p).2.2.1 (Fm.bits (rdF p).2.1) ∧ (rdF p).2.1.d.length ≤ 127 := by
  unfold rdF at hk he ⊢
  simp only at hk he ⊢
  by_cases c1 : (rdf p 3 0 0).1 = 1
  · rw [if_pos c1] at hk he ⊢
    simp only at he ⊢
    obtain ⟨e7, s8, hd⟩ := rdText_inv he
    obtain ⟨e6, s7⟩ := rdf_inv e7
    obtain ⟨e5, s6⟩ := rdf_inv e6
    obtain ⟨e4, s5⟩ := rdf_inv e5
    obtain ⟨e3, s4⟩ := rdf_inv e4
    obtain ⟨e2, s3⟩ := rdTg_inv e3
    obtain ⟨e1, s2⟩ := rdf_inv e2
    obtain ⟨_, s1⟩ := rdf_inv e1
    rw [c1] at s1
    have := ((((s1.trans s2).trans s3).trans s4).trans s5).trans ((s6.trans s7).trans s8)
    refine ⟨?_, hd⟩
    simp only [Fm.bits, frBits, headBits, moreBits, if_pos, Int.toNat_natCast]
    exact this
  · by_cases c2 : (rdf p 3 0 0).1 = 2
    · rw [if_neg c1, if_pos c2] at hk he ⊢
      simp only at he ⊢
      obtain ⟨e5, s6⟩ := rdS_inv he
      obtain ⟨e4, s5⟩ := rdf_inv e5
      obtain ⟨e3, s4⟩ := rdf_inv e4
      obtain ⟨e2, s3⟩ := rdTg_inv e3
      obtain ⟨e1, s2⟩ := rdf_inv e2
      obtain ⟨_, s1⟩ := rdf_inv e1
      rw [c2] at s1
      have := ((((s1.trans s2).trans s3).trans s4).trans s5).trans s6
      refine ⟨?_, by simp⟩
      simp only [Fm.bits, frBits, headBits, moreBits, if_neg (show ¬ (2 : Int) = 1 by decide), if_pos, Int.toNat_natCast]
      exact this
    · by_cases c3 : (rdf p 3 0 0).1 = 3
      · rw [if_neg c1, if_neg c2, if_pos c3] at hk he ⊢
        simp only at he ⊢
        obtain ⟨e8, s9, hd⟩ := rdText_inv he
        obtain ⟨e7, s8⟩ := rdf_inv e8
        obtain ⟨e6, s7⟩ := rdf_inv e7
        obtain ⟨e5, s6⟩ := rdf_inv e6
        obtain ⟨e4, s5⟩ := rdf_inv e5
        obtain ⟨e3, s4⟩ := rdf_inv e4
        obtain ⟨e2, s3⟩ := rdTg_inv e3
        obtain ⟨e1, s2⟩ := rdf_inv e2
        obtain ⟨_, s1⟩ := rdf_inv e1
        rw [c3] at s1
        have := ((((s1.trans s2).trans s3).trans s4).trans s5).trans (((s6.trans s7).trans s8).trans s9)
        refine ⟨?_, hd⟩
        simp only [Fm.bits, frBits, headBits, moreBits, if_neg (show ¬ (3 : Int) = 1 by decide), if_neg (show ¬ (3 : Int) = 2 by decide), if_pos, Int.toNat_natCast]
        exact this
      · by_cases c4 : (rdf p 3 0 0).1 = 4
        · rw [if_neg c1, if_neg c2, if_neg c3, if_pos c4] at hk he ⊢
          simp only at he ⊢
          obtain ⟨e5, s6, hd⟩ := rdText_inv he
          obtain ⟨e4, s5⟩ := rdf_inv e5
          obtain ⟨e3, s4⟩ := rdf_inv e4
          obtain ⟨e2, s3⟩ := rdTg_inv e3
          obtain ⟨e1, s2⟩ := rdf_inv e2
          obtain ⟨_, s1⟩ := rdf_inv e1
          rw [c4] at s1
          have := ((((s1.trans s2).trans s3).trans s4).trans s5).trans s6
          refine ⟨?_, hd⟩
          simp only [Fm.bits, frBits, headBits, moreBits, if_neg (show ¬ (4 : Int) = 1 by decide), if_neg (show ¬ (4 : Int) = 2 by decide), if_neg (show ¬ (4 : Int) = 3 by decide), if_pos, Int.toNat_natCast]
          exact this
        · rw [if_neg c1, if_neg c2, if_neg c3, if_neg c4] at hk; cases hk
theorem chk_inv {l p : List UInt8} (h : chk l = (p, 0)) : l = protect p ∧ l.length = p.length + 2 := by
  unfold chk at h
  by_cases h2 : l.length < 2
  · rw [if_pos h2] at h; cases h
  · rw [if_neg h2] at h
    obtain ⟨m, a, b, hl⟩ := long_parts l (by omega)
    by_cases hr : rem l = 0#16
    · rw [if_pos hr] at h
      have hp : p = l.take (l.length - 2) := (Prod.mk.inj h).1.symm
      have hm : l.take (l.length - 2) = m := by rw [hl]; simp
      rw [hm] at hp
      subst hp
      rw [hl] at hr
      exact ⟨by rw [hl]; exact protect_of hr, by rw [hl]; simp⟩
    · rw [if_neg hr] at h; cases h
/-- BYTES THAT ARE READ ARE THOSE OF THEIR FRAME. -/
theorem enc_dec {l : List UInt8} {f : Fm} (h : decF l = (f, 0)) : encF f.k f.s f.t f.a f.q f.x f.y f.er f.sl f.rk f.ep f.d = (l, 0) := by
  unfold decF at h
  by_cases h1 : 127 < l.length
  · rw [if_pos h1] at h; cases h
  · rw [if_neg h1] at h
    by_cases h2 : (chk l).2 ≠ 0
    · rw [if_pos h2] at h; exact absurd (Prod.mk.inj h).2 h2
    · rw [if_neg h2] at h
      obtain ⟨hl, hn⟩ := chk_inv (show chk l = ((chk l).1, 0) from Prod.ext rfl (by simpa using h2))
      generalize (chk l).1 = p at *
      split at h
      · rename_i hc
        obtain ⟨c1, c2, c3⟩ := hc
        obtain ⟨e0, hl8, hz⟩ := close_inv c2
        obtain ⟨hs, hd⟩ := rdF_inv c1 e0
        have hp := pack_seg hs hl8 hz
        have hf : (rdF p).2.1 = f := (Prod.mk.inj h).1
        rw [hf] at hs hd hp c3
        unfold encF
        rw [show okF f.k f.s f.t f.a f.q f.x f.y f.er f.sl f.rk f.ep f.d = true from c3, if_neg (by simp), if_neg (by omega)]
        rw [show pack (frBits f.k f.s f.t f.a f.q f.x f.y f.er f.sl f.rk f.ep f.d) = p from hp, if_neg (by omega), hl]
      · cases h
theorem dec_err (l : List UInt8) : (decF l).2 = 0 ∨ (decF l).1 = .zero := by
  unfold decF
  split
  · exact .inr rfl
  · split
    · exact .inr rfl
    · split
      · exact .inl rfl
      · exact .inr rfl
theorem dec_bent {l : List UInt8} (h1 : l.length ≤ 127) (h2 : 2 ≤ l.length) (hr : rem l ≠ 0#16) : decF l = (.zero, 10) := by
  have hc : chk l = ([], 10) := by unfold chk; rw [if_neg (by omega), if_neg hr]
  unfold decF
  rw [if_neg (by omega), hc]; rfl
end Go.Proofs.Ytbgnkjaikbhdoaa.Strict

-- FrT
namespace Go.Proofs.Ytbgnkjaikbhdoaa.FrT
open Go.RowKit Go.Proofs.Ytbgnkjaikbhdoaa.Pack Go.Proofs.Ytbgnkjaikbhdoaa.FrA Go.Proofs.Ytbgnkjaikbhdoaa.FrCrc Go.Proofs.Ytbgnkjaikbhdoaa.FrE Go.Proofs.Ytbgnkjaikbhdoaa.FrC Go.Proofs.Ytbgnkjaikbhdoaa.FrEn Go.Proofs.Ytbgnkjaikbhdoaa.Alg
open Go.Proofs.Ytbgnkjaikbhdoaa.Bytes (Str)

theorem enc_err (k s t l q x y er sl rk ep : Int) (d : List UInt8) : (encF k s t l q x y er sl rk ep d).2 = 0 ∨ (encF k s t l q x y er sl rk ep d) = ([], 1) ∨ (encF k s t l q x y er sl rk ep d) = ([], 8) := by
  unfold encF; split
  · exact .inr (.inl rfl)
  · split
    · exact .inr (.inr rfl)
    · split
      · exact .inr (.inr rfl)
      · exact .inl rfl
theorem enc_len (k s t l q x y er sl rk ep : Int) (d : List UInt8) : (encF k s t l q x y er sl rk ep d).1.length ≤ 127 := by
  unfold encF; split
  · simp
  · split
    · simp
    · split
      · simp
      · rw [protect_length]; omega
/-- frame.Encode returns the bytes p and the error e. -/
abbrev Enc (cs : Array Value) (p : List UInt8) (e : Int) : Prop := ∀ w : World, Calls Try.prog 11 #[.agg cs] w fun r w' => r = .returned (.tuple #[.string (Str p), .int .i64 e]) ∧ Below w.heap.size w w'
theorem enc_is (k s t l q x y er sl rk ep : Int) (d : List UInt8) : Enc (fr k s t l q x y er sl rk ep d) (encF k s t l q x y er sl rk ep d).1 (encF k s t l q x y er sl rk ep d).2 := fun w => encode_any _ _ _ _ _ _ _ _ _ _ _ _ _ rfl w

/-- What Time returns. -/
def timeF (k s t l q x y er sl rk ep : Int) (d : List UInt8) : Int × Int :=
  if (encF k s t l q x y er sl rk ep d).2 = 0 then (32 * ((if k = 2 then 20 else ((encF k s t l q x y er sl rk ep d).1.length : Int)) + 6), 0) else (0, (encF k s t l q x y er sl rk ep d).2)
/-- What Room returns. -/
def roomF (k s t l q x y er sl rk ep : Int) (d : List UInt8) : Int × Int :=
  if k = 2 then (0, 1) else if (encF k s t l q x y er sl rk ep d).2 = 0 then (127 - ((encF k s t l q x y er sl rk ep d).1.length : Int), 0) else (0, (encF k s t l q x y er sl rk ep d).2)

theorem boxed (cs : Array Value) (w w1 : World) (hb : Below (w.alloc (.cells cs TF)).heap.size (w.alloc (.cells cs TF)) w1) : w1.heap[w.heap.size]? = some (.cells cs TF (0, 0)) ∧ Below w.heap.size w w1 := by
  refine ⟨by rw [hb.block _ (by simp)]; exact heap_alloc_new _ _, ?_⟩
  exact ((Below.refl _ _).alloc (Nat.le_refl _) _).trans (hb.mono (by simp))

set_option maxRecDepth 100000 in
set_option maxHeartbeats 4000000 in
theorem time_bad (k s t l q x y er sl rk ep : Int) (d : List UInt8) (p : List UInt8) (e : Int) (h : Enc (fr k s t l q x y er sl rk ep d) p e) (he : decide (e = 0) = false) (w : World) :
    Calls Try.prog 13 #[.agg (fr k s t l q x y er sl rk ep d)] w fun r w' => r = .returned (.tuple #[.int .i64 0, .int .i64 e]) ∧ Below w.heap.size w w' := by
  have h2 : (e == 0) = false := he
  go_enter Try.func13, Try.ntmps13
  go_wp2_with fail
  refine (h _).mono ?_
  rintro r w1 ⟨rfl, hb⟩
  have HB := Lib.hid (boxed _ _ _ hb).2
  clear hb h
  go_wp2_with fail
  go_ret2
  exact ⟨rfl, HB.out⟩
set_option maxRecDepth 100000 in
set_option maxHeartbeats 4000000 in
theorem time_ack (s t l q x y er sl rk ep : Int) (d : List UInt8) (p : List UInt8) (h : Enc (fr 2 s t l q x y er sl rk ep d) p 0) (w : World) :
    Calls Try.prog 13 #[.agg (fr 2 s t l q x y er sl rk ep d)] w fun r w' => r = .returned (.tuple #[.int .i64 832, .int .i64 0]) ∧ Below w.heap.size w w' := by
  go_enter Try.func13, Try.ntmps13
  go_wp2_with fail
  refine (h _).mono ?_
  rintro r w1 ⟨rfl, hb⟩
  have HB := Lib.hid (boxed _ _ _ hb).2
  have c0 := cell_of_row w1 _ 0 _ _ _ (boxed _ _ _ hb).1
  simp only [fr] at c0
  clear hb h
  go_wp2_with fail
  go_ret2
  exact ⟨rfl, HB.out⟩
set_option maxRecDepth 100000 in
set_option maxHeartbeats 4000000 in
theorem time_ok (k s t l q x y er sl rk ep : Int) (d : List UInt8) (p : List UInt8) (h : Enc (fr k s t l q x y er sl rk ep d) p 0) (hk : decide (k = 2) = false) (hp : p.length ≤ 127) (n : Int) (hn : n = 32 * ((p.length : Int) + 6)) (w : World) :
    Calls Try.prog 13 #[.agg (fr k s t l q x y er sl rk ep d)] w fun r w' => r = .returned (.tuple #[.int .i64 n, .int .i64 0]) ∧ Below w.heap.size w w' := by
  have hk2 : (k == 2) = false := hk
  have e1 : (Str p).size = p.length := str_size p
  have e2 : IntKind.i64.wrap ((p.length : Int) + 6) = (p.length : Int) + 6 := by rw [IntKind.wrap_i64]; omega
  have e3 : IntKind.i64.wrap (32 * ((p.length : Int) + 6)) = n := by rw [IntKind.wrap_i64]; omega
  clear hn
  go_enter Try.func13, Try.ntmps13
  go_wp2_with fail
  refine (h _).mono ?_
  rintro r w1 ⟨rfl, hb⟩
  have HB := Lib.hid (boxed _ _ _ hb).2
  have c0 := cell_of_row w1 _ 0 _ _ _ (boxed _ _ _ hb).1
  simp only [fr] at c0
  clear hb h
  go_wp2_with fail
  go_ret2
  exact ⟨rfl, HB.out⟩
theorem time_any (k s t l q x y er sl rk ep : Int) (d : List UInt8) (r : Int × Int) (hr : timeF k s t l q x y er sl rk ep d = r) (w : World) :
    Calls Try.prog 13 #[.agg (fr k s t l q x y er sl rk ep d)] w fun e w' => e = .returned (.tuple #[.int .i64 r.1, .int .i64 r.2]) ∧ Below w.heap.size w w' := by
  subst hr
  have h := enc_is k s t l q x y er sl rk ep d
  have hl := enc_len k s t l q x y er sl rk ep d
  unfold timeF
  by_cases he : (encF k s t l q x y er sl rk ep d).2 = 0
  · rw [if_pos he]
    rw [he] at h
    by_cases hk : k = 2
    · subst hk; exact time_ack _ _ _ _ _ _ _ _ _ _ _ _ h w
    · rw [if_neg hk]; exact time_ok _ _ _ _ _ _ _ _ _ _ _ _ _ h (decide_eq_false hk) hl _ rfl w
  · rw [if_neg he]; exact time_bad _ _ _ _ _ _ _ _ _ _ _ _ _ _ h (decide_eq_false he) w

set_option maxRecDepth 100000 in
set_option maxHeartbeats 4000000 in
theorem room_ack (s t l q x y er sl rk ep : Int) (d : List UInt8) (w : World) :
    Calls Try.prog 15 #[.agg (fr 2 s t l q x y er sl rk ep d)] w fun r w' => r = .returned (.tuple #[.int .i64 0, .int .i64 1]) ∧ Below w.heap.size w w' := by
  have hb0 : Below w.heap.size w (w.alloc (.cells (fr 2 s t l q x y er sl rk ep d) TF)) := (Below.refl _ _).alloc (Nat.le_refl _) _
  go_enter Try.func15, Try.ntmps15
  go_wp2_with fail
  go_ret2
  exact ⟨rfl, hb0⟩
set_option maxRecDepth 100000 in
set_option maxHeartbeats 4000000 in
theorem room_bad (k s t l q x y er sl rk ep : Int) (d : List UInt8) (p : List UInt8) (e : Int) (h : Enc (fr k s t l q x y er sl rk ep d) p e) (hk : decide (k = 2) = false) (he : decide (e = 0) = false) (w : World) :
    Calls Try.prog 15 #[.agg (fr k s t l q x y er sl rk ep d)] w fun r w' => r = .returned (.tuple #[.int .i64 0, .int .i64 e]) ∧ Below w.heap.size w w' := by
  have h2 : (e == 0) = false := he
  have hk2 : (k == 2) = false := hk
  go_enter Try.func15, Try.ntmps15
  go_wp2_with fail
  refine (h _).mono ?_
  rintro r w1 ⟨rfl, hb⟩
  have HB := Lib.hid (boxed _ _ _ hb).2
  clear hb h
  go_wp2_with fail
  go_ret2
  exact ⟨rfl, HB.out⟩
set_option maxRecDepth 100000 in
set_option maxHeartbeats 4000000 in
theorem room_ok (k s t l q x y er sl rk ep : Int) (d : List UInt8) (p : List UInt8) (h : Enc (fr k s t l q x y er sl rk ep d) p 0) (hk : decide (k = 2) = false) (hp : p.length ≤ 127) (n : Int) (hn : n = 127 - (p.length : Int)) (w : World) :
    Calls Try.prog 15 #[.agg (fr k s t l q x y er sl rk ep d)] w fun r w' => r = .returned (.tuple #[.int .i64 n, .int .i64 0]) ∧ Below w.heap.size w w' := by
  have hk2 : (k == 2) = false := hk
  have e1 : (Str p).size = p.length := str_size p
  have e2 : IntKind.i64.wrap (127 - (p.length : Int)) = n := by rw [IntKind.wrap_i64]; omega
  clear hn
  go_enter Try.func15, Try.ntmps15
  go_wp2_with fail
  refine (h _).mono ?_
  rintro r w1 ⟨rfl, hb⟩
  have HB := Lib.hid (boxed _ _ _ hb).2
  clear hb h
  go_wp2_with fail
  go_ret2
  exact ⟨rfl, HB.out⟩
theorem room_any (k s t l q x y er sl rk ep : Int) (d : List UInt8) (r : Int × Int) (hr : roomF k s t l q x y er sl rk ep d = r) (w : World) :
    Calls Try.prog 15 #[.agg (fr k s t l q x y er sl rk ep d)] w fun e w' => e = .returned (.tuple #[.int .i64 r.1, .int .i64 r.2]) ∧ Below w.heap.size w w' := by
  subst hr
  have h := enc_is k s t l q x y er sl rk ep d
  have hl := enc_len k s t l q x y er sl rk ep d
  unfold roomF
  by_cases hk : k = 2
  · subst hk; exact room_ack _ _ _ _ _ _ _ _ _ _ _ w
  · rw [if_neg hk]
    by_cases he : (encF k s t l q x y er sl rk ep d).2 = 0
    · rw [if_pos he]
      rw [he] at h
      exact room_ok _ _ _ _ _ _ _ _ _ _ _ _ _ h (decide_eq_false hk) hl _ rfl w
    · rw [if_neg he]; exact room_bad _ _ _ _ _ _ _ _ _ _ _ _ _ _ h (decide_eq_false hk) (decide_eq_false he) w
end Go.Proofs.Ytbgnkjaikbhdoaa.FrT

-- FrAw
namespace Go.Proofs.Ytbgnkjaikbhdoaa.FrAw
open Go.RowKit Go.Proofs.Ytbgnkjaikbhdoaa.Pack Go.Proofs.Ytbgnkjaikbhdoaa.FrA Go.Proofs.Ytbgnkjaikbhdoaa.FrF Go.Proofs.Ytbgnkjaikbhdoaa.FrCrc Go.Proofs.Ytbgnkjaikbhdoaa.FrE Go.Proofs.Ytbgnkjaikbhdoaa.FrC Go.Proofs.Ytbgnkjaikbhdoaa.FrEn Go.Proofs.Ytbgnkjaikbhdoaa.FrT Go.Proofs.Ytbgnkjaikbhdoaa.Alg
open Go.Proofs.Ytbgnkjaikbhdoaa.Bytes (Str)

set_option maxRecDepth 100000 in
theorem enc_c : encF 2 2 1 3 4 0 0 (-1) 0 0 0 [] = (protect [66, 132, 12, 19, 255, 252], 0) := by
  have e : pack (frBits 2 2 1 3 4 0 0 (-1) 0 0 0 []) = [66, 132, 12, 19, 255, 252] := by decide +kernel
  unfold encF
  rw [e, if_neg (by decide), if_neg (by decide), if_neg (by decide)]
theorem time_c : timeF 2 2 1 3 4 0 0 (-1) 0 0 0 [] = (832, 0) := by
  unfold timeF; rw [enc_c]; rfl
set_option maxRecDepth 100000 in
theorem room_c : roomF 1 0 1 0 0 0 0 0 0 0 0 [] = (117, 0) := by
  have e : (pack (frBits 1 0 1 0 0 0 0 0 0 0 0 [])).length = 8 := by decide +kernel
  have f : encF 1 0 1 0 0 0 0 0 0 0 0 [] = (protect (pack (frBits 1 0 1 0 0 0 0 0 0 0 0 [])), 0) := by
    unfold encF
    rw [if_neg (by decide), if_neg (by decide), if_neg (by rw [e]; decide)]
  unfold roomF; rw [f, if_neg (by decide), if_pos rfl]
  show ((127 - ((protect _).length : Int)), (0 : Int)) = _
  rw [protect_length, e]; rfl
set_option maxRecDepth 100000 in
set_option maxHeartbeats 4000000 in
theorem awake_any (w : World) : Calls Try.prog 10 #[] w fun r w' => r = .returned (.bool true) ∧ Below w.heap.size w w' := by
  have hp : (Str (protect [66, 132, 12, 19, 255, 252])).size = 8 := by rw [str_size, protect_length]; rfl
  have P1 := fun w => encode_any 2 2 1 3 4 0 0 (-1) 0 0 0 [] _ enc_c w
  have P4 := fun w => protect_any [66, 132, 12, 19, 255, 252] (by decide) w
  generalize protect [66, 132, 12, 19, 255, 252] = p at hp P1 P4
  go_enter Try.func10, Try.ntmps10
  go_wp2_with fail
  refine (P1 _).mono ?_
  rintro r w1 ⟨rfl, hb⟩
  have c0 := cell_of_row w1 _ 0 _ _ _ (boxed _ _ _ hb).1
  have c1 := cell_of_row w1 _ 1 _ _ _ (boxed _ _ _ hb).1
  have c2 := cell_of_row w1 _ 2 _ _ _ (boxed _ _ _ hb).1
  have c3 := cell_of_row w1 _ 3 _ _ _ (boxed _ _ _ hb).1
  have c4 := cell_of_row w1 _ 4 _ _ _ (boxed _ _ _ hb).1
  have c5 := cell_of_row w1 _ 5 _ _ _ (boxed _ _ _ hb).1
  have c6 := cell_of_row w1 _ 6 _ _ _ (boxed _ _ _ hb).1
  have c7 := cell_of_row w1 _ 7 _ _ _ (boxed _ _ _ hb).1
  have c8 := cell_of_row w1 _ 8 _ _ _ (boxed _ _ _ hb).1
  have c9 := cell_of_row w1 _ 9 _ _ _ (boxed _ _ _ hb).1
  have c10 := cell_of_row w1 _ 10 _ _ _ (boxed _ _ _ hb).1
  have c11 := cell_of_row w1 _ 11 _ _ _ (boxed _ _ _ hb).1
  have HB := Lib.hid (boxed _ _ _ hb).2
  clear hb P1
  go_wp2_with fail
  refine (time_any 2 2 1 3 4 0 0 (-1) 0 0 0 [] _ time_c _).mono ?_
  rintro r w2 ⟨rfl, hb⟩
  have HB2 := Lib.hid (HB.out.trans (hb.mono HB.out.size))
  clear hb HB c0 c1 c2 c3 c4 c5 c6 c7 c8 c9 c10 c11
  go_wp2_with fail
  refine (room_any 1 0 1 0 0 0 0 0 0 0 0 [] _ room_c _).mono ?_
  rintro r w3 ⟨rfl, hb⟩
  have HB3 := Lib.hid (HB2.out.trans (hb.mono HB2.out.size))
  clear hb HB2
  go_wp2_with fail
  refine (P4 _).mono ?_
  rintro r w4 ⟨rfl, hb⟩
  have HB4 := Lib.hid (HB3.out.trans (hb.mono HB3.out.size))
  clear hb HB3 P4
  go_wp2_with fail
  go_ret
  exact ⟨rfl, HB4.out⟩
end Go.Proofs.Ytbgnkjaikbhdoaa.FrAw

-- FrAt
namespace Go.Proofs.Ytbgnkjaikbhdoaa.FrAt
set_option linter.unusedSimpArgs false
set_option linter.unusedVariables false
open Go.RowKit Go.Proofs.Ytbgnkjaikbhdoaa.FrA Go.Proofs.Ytbgnkjaikbhdoaa.FrE Go.Proofs.Ytbgnkjaikbhdoaa.FrC Go.Proofs.Ytbgnkjaikbhdoaa.FrT
open Go.Proofs.Ytbgnkjaikbhdoaa.Bytes (Str)
/-- Block b holds the frame cs, and all below it is as it was. -/
abbrev At (w w1 : World) (b : Nat) (cs : Array Value) : Prop := w1.heap[b]? = some (.cells cs TF (0, 0)) ∧ Below w.heap.size w w1
theorem At.later {w w1 w2 : World} {b : Nat} {cs : Array Value} (h : At w w1 b cs) (hb : Below w1.heap.size w1 w2) : At w w2 b cs := by
  have hlt : b < w1.heap.size := (Array.getElem?_eq_some_iff.1 h.1).1
  exact ⟨by rw [hb.block _ hlt]; exact h.1, h.2.trans (hb.mono h.2.size)⟩
theorem At.lt {w w1 : World} {b : Nat} {cs : Array Value} (h : At w w1 b cs) : b < w1.heap.size := (Array.getElem?_eq_some_iff.1 h.1).1
theorem At.laid {w w1 w2 : World} {b : Nat} {cs ds : Array Value} (h : At w w1 b cs) (hb : Below (w1.alloc (.cells ds TF)).heap.size (w1.alloc (.cells ds TF)) w2) : At w w2 b cs ∧ At w w2 w1.heap.size ds := by
  have hlt : b < w1.heap.size := (Array.getElem?_eq_some_iff.1 h.1).1
  have hl := (h.2.alloc h.2.size (.cells ds TF)).trans (hb.mono (by simp; have := h.2.size; omega))
  refine ⟨⟨?_, hl⟩, ?_, hl⟩
  · rw [hb.block _ (by simp; omega), heap_alloc_old _ _ hlt]; exact h.1
  · rw [hb.block _ (by simp)]; exact heap_alloc_new _ _
theorem At.set {w w1 : World} {b : Nat} {cs : Array Value} (h : At w w1 b cs) (hb : w.heap.size ≤ b) (i : Nat) (v : Value) (ds : Array Value) (hd : cs.setIfInBounds i v = ds) : At w (w1.setCell ⟨b, i, none⟩ v) b ds := by
  subst hd
  refine ⟨heap_setCell_same _ _ _ _ _ _ h.1, ?_⟩
  rw [setCell_eq_setRow _ _ _ _ _ _ _ h.1]; exact below_setRow h.2 hb _
theorem At.drew {w w1 : World} {b : Nat} {cs : Array Value} (h : At w w1 b cs) : At w w1.drew b cs := ⟨h.1, Go.Proofs.Ytbgnkjaikbhdoaa.WrPut.below_drew' h.2⟩
theorem eq_self (x0 x1 x2 x3 x4 x5 x6 x7 x8 x9 x10 : Int) (x11 : ByteArray) : eqF x0 x0 x1 x1 x2 x2 x3 x3 x4 x4 x5 x5 x6 x6 x7 x7 x8 x8 x9 x9 x10 x10 x11 x11 = true := by simp [eqF]
end Go.Proofs.Ytbgnkjaikbhdoaa.FrAt

-- Opn
namespace Go.Proofs.Ytbgnkjaikbhdoaa.Opn
open Go.ChangeShapes Go.WideShapes Go.ChangeAt Go.RowKit
variable {H : Type} {enc : TypeId × Value → H} {P : Program} {w : World}

/-- Cells that read as some datum. -/
def Rd (enc : TypeId × Value → H) (P : Program) (w : World) (t : TypeId) (cs : List Value) : Prop :=
  ∃ n x, DataW.trod enc P w 0 (fun _ => true) true n t cs = some x
theorem rd_of {t : TypeId} {v : Value} {d : DataW H} {ps : List MemPlace} (h : DataW.Trod enc P w 0 (fun _ => true) true t v d ps) : Rd enc P w t v.cells.toList := by
  obtain ⟨n, h⟩ := h; exact ⟨n, _, h⟩
theorem rd_int {t : TypeId} {k : IntKind} {cs : Value} (ht : P.underlying t = some (.int k)) (h : Rd enc P w t [cs]) : ∃ n, cs = .int k n ∧ (Lit.int k n).wf = true := by
  obtain ⟨m, x, h⟩ := h
  obtain ⟨n, h1, _, h2⟩ := DataW.trod_int ht h
  exact ⟨n, by simpa using h1, h2⟩
theorem rd_bool {t : TypeId} {cs : Value} (ht : P.underlying t = some .bool) (h : Rd enc P w t [cs]) : ∃ n, cs = .bool n := by
  obtain ⟨m, x, h⟩ := h
  cases m with
  | zero => simp [DataW.trod] at h
  | succ m =>
    unfold DataW.trod at h
    rw [ht] at h
    split at h <;> simp_all
theorem rd_string {t : TypeId} {cs : Value} (ht : P.underlying t = some .string) (h : Rd enc P w t [cs]) : ∃ s, cs = .string s ∧ s.size ≤ maxLen := by
  obtain ⟨m, x, h⟩ := h
  obtain ⟨n, h1, _, h2⟩ := DataW.trod_string ht h
  exact ⟨n, by simpa using h1, h2⟩
theorem rd_struct {t : TypeId} {fs : Array Field} {cs : Array Value} (ht : P.underlying t = some (.struct fs)) (h : Rd enc P w t (Value.agg cs).cells.toList) :
    ∀ (i : Nat) (f : Field), fs[i]? = some f → Rd enc P w f.type ((cs.toList.drop f.offset).take (P.cellsOf f.type)) := by
  obtain ⟨m, x, h⟩ := h
  obtain ⟨xs, n, _, _, _, hl, hf⟩ := DataW.trod_struct ht h
  intro i f hi
  have := hf i f hi
  have hlt : i < xs.length := by rw [hl]; exact (Array.getElem?_eq_some_iff.1 hi).1
  rw [List.getElem?_eq_getElem hlt] at this
  exact ⟨n, _, this⟩
theorem rd_array {t e : TypeId} {n : Nat} {cs : Array Value} (ht : P.underlying t = some (.array n e)) (h : Rd enc P w t (Value.agg cs).cells.toList) :
    ∀ (i : Nat), i < n → Rd enc P w e ((cs.toList.drop (i * P.cellsOf e)).take (P.cellsOf e)) := by
  obtain ⟨m, x, h⟩ := h
  obtain ⟨xs, m, _, _, _, hl, hf⟩ := DataW.trod_array ht h
  intro i hi
  have := hf i hi
  rw [List.getElem?_eq_getElem (by omega)] at this
  exact ⟨m, _, this⟩
theorem okWide_array' {r : Reach} {base : Nat} {t e : TypeId} {n : Nat} {v : Value} (ht : P.underlying t = some (.array n e)) (h : Value.okWide P w r base t v) : ∃ cs, v = .agg cs ∧ cs.size = P.cellsOf t := by
  simp only [Value.okWide, ht] at h
  obtain ⟨cs, h1, h2, _⟩ := h
  exact ⟨cs, h1, h2⟩
theorem cells2 {cs : Array Value} (h : cs.size = 2) : ∃ a b, cs = #[a, b] := by
  obtain ⟨l⟩ := cs
  match l, h with
  | [a, b], _ => exact ⟨a, b, rfl⟩
theorem cells3 {cs : Array Value} (h : cs.size = 3) : ∃ a b c, cs = #[a, b, c] := by
  obtain ⟨l⟩ := cs
  match l, h with
  | [a, b, c], _ => exact ⟨a, b, c, rfl⟩
theorem cells7 {cs : Array Value} (h : cs.size = 7) : ∃ a b c d e f g, cs = #[a, b, c, d, e, f, g] := by
  obtain ⟨l⟩ := cs
  match l, h with
  | [a, b, c, d, e, f, g], _ => exact ⟨a, b, c, d, e, f, g, rfl⟩
theorem cells12 {cs : Array Value} (h : cs.size = 12) : ∃ a b c d e f g h i j k l, cs = #[a, b, c, d, e, f, g, h, i, j, k, l] := by
  obtain ⟨l⟩ := cs
  match l, h with
  | [a, b, c, d, e, f, g, h, i, j, k, l], _ => exact ⟨a, b, c, d, e, f, g, h, i, j, k, l, rfl⟩
end Go.Proofs.Ytbgnkjaikbhdoaa.Opn
namespace Go.Proofs.Ytbgnkjaikbhdoaa.Opn
open Go.ChangeShapes Go.WideShapes Go.ChangeAt Go.RowKit
/-- What the walk is told of a slice of integers that came in. -/
def IsRow (k : IntKind) (w : World) (a : Option Addr) (len cap : Nat) (zs : List Int) : Prop :=
  (a = none ∧ len = 0 ∧ cap = 0 ∧ zs = []) ∨
  ∃ x, a = some x ∧ len ≤ cap ∧ cap ≤ maxLen ∧ zs.length = cap ∧ (∀ i, i < zs.length → w.cell? (x.add i) = some (.int k (zs.getD i 0))) ∧ ∀ n ∈ zs, (Lit.int k n).wf = true
end Go.Proofs.Ytbgnkjaikbhdoaa.Opn
