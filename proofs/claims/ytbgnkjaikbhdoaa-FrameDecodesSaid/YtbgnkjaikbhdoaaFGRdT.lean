/- bitio.Reader.Signed (16 bits) and Text (limit 127). (cut to what is reached: wip/tools/slimout2.py) -/
import Derived.Test.YtbgnkjaikbhdoaaFGRdC
import Derived.Test.YtbgnkjaikbhdoaaFGWrText
import Derived.Laws.MakeOwn
namespace Go.Proofs.Ytbgnkjaikbhdoaa.RdT
set_option linter.unusedSimpArgs false
set_option linter.unusedVariables false
open Go.RowKit Go.Proofs.Ytbgnkjaikbhdoaa.Pack Go.Proofs.Ytbgnkjaikbhdoaa.WrPut Go.Proofs.Ytbgnkjaikbhdoaa.WrText Go.Proofs.Ytbgnkjaikbhdoaa.Rd Go.Proofs.Ytbgnkjaikbhdoaa.RdC
open Go.Proofs.Ytbgnkjaikbhdoaa.Bytes (Str)
variable {B g i : Nat} {G : List (Nat × Obj)} {w : World} {l : List UInt8} {e : Int}
def rdS (l : List UInt8) (i : Nat) (e : Int) : Int := if (rdf l 16 i e).2.2 = 0 ∧ 32768 ≤ (rdf l 16 i e).1 then ((rdf l 16 i e).1 : Int) - 65536 else ((rdf l 16 i e).1 : Int)
set_option maxHeartbeats 2000000 in
theorem signed_any (h : Rd B G w g l i e) (hs : l.length ≤ 65536) (hi : i ≤ 8 * l.length) :
    Calls Try.prog 84 #[.pointer (some ⟨g, 0, none⟩), .int .i64 16] w fun r w' => r = .returned (.int .i64 (rdS l i e)) ∧ Rd B G w' g l (rdf l 16 i e).2.1 (rdf l 16 i e).2.2 ∧ Below B w w' := by
  have HF := Lib.hid (field_any h hs hi 16 (by omega))
  rw [show ((16 : Nat) : Int) = 16 from rfl] at HF
  have hv := rdf_lt l 16 i e
  unfold rdS
  clear h
  generalize (rdf l 16 i e).1 = v at *
  generalize (rdf l 16 i e).2.1 = i' at *
  generalize (rdf l 16 i e).2.2 = e' at *
  have hw : IntKind.i64.wrap (v : Int) = (v : Int) := by rw [IntKind.wrap_i64]; omega
  by_cases he : e' = 0
  · subst he
    by_cases h15 : 32768 ≤ v
    · rw [if_pos ⟨rfl, h15⟩]
      obtain ⟨z, hz⟩ : ∃ z : Int, (v : Int) / 32768 = z := ⟨_, rfl⟩
      have hz1 : z = 1 := by omega
      have hb : (Go.bits .and .i64 z 1 == 1) = true := by subst hz1; decide
      have hsub : IntKind.i64.wrap ((v : Int) - 65536) = (v : Int) - 65536 := by rw [IntKind.wrap_i64]; omega
      clear hz1 h15 hv
      go_enter Try.func84, Try.ntmps84
      go_wp2_with fail
      ((with_reducible refine HF.out.mono ?_); rintro r w2 ⟨rfl, h2, b2⟩)
      have H2 := Lib.hid h2
      have HB2 := Lib.hid b2
      obtain ⟨c0, c1, c2, hf⟩ := Rd.cells h2
      clear h2 b2 c0 c1 hf
      go_wp2_with fail
      go_ret
      exact ⟨rfl, H2.out, HB2.out⟩
    · rw [if_neg (fun h => h15 h.2)]
      obtain ⟨z, hz⟩ : ∃ z : Int, (v : Int) / 32768 = z := ⟨_, rfl⟩
      have hz1 : z = 0 := by omega
      have hb : (Go.bits .and .i64 z 1 == 1) = false := by subst hz1; decide
      clear hz1 h15 hv
      go_enter Try.func84, Try.ntmps84
      go_wp2_with fail
      ((with_reducible refine HF.out.mono ?_); rintro r w2 ⟨rfl, h2, b2⟩)
      have H2 := Lib.hid h2
      have HB2 := Lib.hid b2
      obtain ⟨c0, c1, c2, hf⟩ := Rd.cells h2
      clear h2 b2 c0 c1 hf
      go_wp2_with fail
      go_ret
      exact ⟨rfl, H2.out, HB2.out⟩
  · rw [if_neg (fun h => he h.1)]
    have he2 : (e' == 0) = false := by simpa using he
    clear he hv
    go_enter Try.func84, Try.ntmps84
    go_wp2_with fail
    ((with_reducible refine HF.out.mono ?_); rintro r w2 ⟨rfl, h2, b2⟩)
    have H2 := Lib.hid h2
    have HB2 := Lib.hid b2
    obtain ⟨c0, c1, c2, hf⟩ := Rd.cells h2
    clear h2 b2 c0 c1 hf
    go_wp2_with fail
    go_ret
    exact ⟨rfl, H2.out, HB2.out⟩
def bytesAt (l : List UInt8) (i n : Nat) : List UInt8 := (List.range n).map fun j => UInt8.ofNat (valN (bitsAt l (i + 8 * j) 8))
theorem bytesAt_length (l : List UInt8) (i n : Nat) : (bytesAt l i n).length = n := by simp [bytesAt]
theorem bytesAt_succ (l : List UInt8) (i n : Nat) : bytesAt l i (n + 1) = bytesAt l i n ++ [UInt8.ofNat (valN (bitsAt l (i + 8 * n) 8))] := by
  simp [bytesAt, List.range_succ]
def rdText (l : List UInt8) (i : Nat) (e : Int) : List UInt8 × Nat × Int :=
  if (rdf l 7 i e).2.2 = 0 then if 8 * l.length < (rdf l 7 i e).2.1 + 8 * (rdf l 7 i e).1 then ([], (rdf l 7 i e).2.1, 9) else (bytesAt l (rdf l 7 i e).2.1 (rdf l 7 i e).1, (rdf l 7 i e).2.1 + 8 * (rdf l 7 i e).1, 0)
  else ([], (rdf l 7 i e).2.1, (rdf l 7 i e).2.2)
theorem rdText_le (l : List UInt8) (i : Nat) (e : Int) (h : i ≤ 8 * l.length) : (rdText l i e).2.1 ≤ 8 * l.length := by
  have := rdf_le l 7 i e h
  unfold rdText
  split
  · split
    · exact this
    · show _ + _ ≤ _; omega
  · exact this
def half (l : List UInt8) (i n k : Nat) : List UInt8 := bytesAt l i k ++ List.replicate (n - k) 0
theorem half_length (l : List UInt8) (i n k : Nat) (h : k ≤ n) : (half l i n k).length = n := by
  simp [half, bytesAt_length]; omega
theorem half_set (l : List UInt8) (i n k : Nat) (h : k < n) : (half l i n k).set k (UInt8.ofNat (valN (bitsAt l (i + 8 * k) 8))) = half l i n (k + 1) := by
  unfold half
  rw [bytesAt_succ, List.append_assoc]
  have e : n - k = (n - (k + 1)) + 1 := by omega
  rw [e, List.replicate_succ, List.set_append_right _ _ (by rw [bytesAt_length]; omega), bytesAt_length]
  simp
abbrev rowB (m : List UInt8) : Array Value := (m.map Go.Proofs.Ytbgnkjaikbhdoaa.Bytes.B).toArray
theorem rowB_get (m : List UInt8) (k : Nat) (h : k < m.length) : (rowB m)[k]? = some (.int .u8 ((m.getD k 0).toNat : Int)) := by
  simp [rowB, Go.Proofs.Ytbgnkjaikbhdoaa.Bytes.B, h, List.getD]
theorem rowB_set (m : List UInt8) (k : Nat) (c : UInt8) : (rowB m).setIfInBounds k (.int .u8 (c.toNat : Int)) = rowB (m.set k c) := by
  simp [rowB, List.map_set, Go.Proofs.Ytbgnkjaikbhdoaa.Bytes.B]
theorem made (n : Nat) : madeCells (Value.int .u8 0).cells n = rowB (List.replicate n 0) := by
  apply Array.ext_getElem?
  intro j
  by_cases h : j < n
  · simp [madeCells, rowB, h, Value.cells, Nat.mod_one, Go.Proofs.Ytbgnkjaikbhdoaa.Bytes.B]
  · simp [madeCells, rowB, h]
theorem info8 : (Try.prog.info? 5).map (fun i => (i.zero, i.size, i.bytes)) = some (some (.int .u8 0), 1, 1) := by kernel_rfl
theorem make_row (n : Nat) (hn : n ≤ 1000) (w : World) : (Instr.makeSlice 40 (.int .i64 (n : Int)) (.int .i64 (n : Int))).run Try.prog w = .ok (.slice (some ⟨w.heap.size, 0, none⟩) n n) (w.alloc (.cells (rowB (List.replicate n 0)) 5)) := by
  obtain ⟨i0, hi, hz0, hz1, hz2⟩ := info_parts info8
  have := run_make (P := Try.prog) w 40 5 i0 (.int .u8 0) Try.underlying40 hi hz0 .i64 .i64 n n (by omega) (Int.le_refl _) (by rw [hz2]; omega) (by omega)
  rw [this, hz1, Int.toNat_natCast, Nat.mul_one, made]
theorem row_text (w : World) (gr : Nat) (m : List UInt8) (h : w.heap[gr]? = some (.cells (rowB m) 5 (0, 0))) (cap : Nat) :
    (convert 40 9 (.slice (some ⟨gr, 0, none⟩) m.length cap)).run Try.prog w = .ok (.string (Str m)) w :=
  Bytes.ByteRow.text (P := Try.prog) (w := w) (g := gr) (l := m) (fun j hj => ⟨by rw [cell_of_row _ _ _ _ _ _ h]; exact rowB_get m j hj, frozen_of_row _ _ _ _ _ h⟩) cap 40 5 9 Try.underlying40 Try.underlying5 Try.underlying9
set_option maxRecDepth 100000 in
set_option maxHeartbeats 4000000 in
theorem text_err (h : Rd B G w g l i e) (hs : l.length ≤ 65536) (hi : i ≤ 8 * l.length) (he : (rdf l 7 i e).2.2 ≠ 0) :
    Calls Try.prog 94 #[.pointer (some ⟨g, 0, none⟩), .int .i64 127] w fun r w' => r = .returned (.string (Str [])) ∧ Rd B G w' g l (rdf l 7 i e).2.1 (rdf l 7 i e).2.2 ∧ Below B w w' := by
  have HF := Lib.hid (field_any h hs hi 7 (by omega))
  rw [show ((7 : Nat) : Int) = 7 from rfl] at HF
  have hv := rdf_lt l 7 i e
  have he2 : ((rdf l 7 i e).2.2 == 0) = false := by simpa using he
  have he3 : ((rdf l 7 i e).2.2 != 0) = true := by simpa using he
  clear h he
  generalize (rdf l 7 i e).1 = v at *
  generalize (rdf l 7 i e).2.1 = i' at *
  generalize (rdf l 7 i e).2.2 = e' at *
  have hw : IntKind.i64.wrap (v : Int) = (v : Int) := by rw [IntKind.wrap_i64]; omega
  clear hv
  go_enter Try.func94, Try.ntmps94
  go_wp2_with fail
  ((with_reducible refine (limit_127 _).mono ?_); rintro e w1 ⟨rfl, rfl⟩)
  go_wp2_with fail
  ((with_reducible refine (width_127 _).mono ?_); rintro e w1 ⟨rfl, rfl⟩)
  go_wp2_with fail
  ((with_reducible refine HF.out.mono ?_); rintro r w2 ⟨rfl, h2, b2⟩)
  have H2 := Lib.hid h2
  have HB2 := Lib.hid b2
  obtain ⟨c0, c1, c2, hf⟩ := Rd.cells h2
  clear h2 b2 c0 c1 hf
  go_wp2_with fail
  go_ret
  exact ⟨rfl, H2.out, HB2.out⟩
set_option maxRecDepth 100000 in
set_option maxHeartbeats 4000000 in
theorem text_short (h : Rd B G w g l i e) (hs : l.length ≤ 65536) (hi : i ≤ 8 * l.length) (he : (rdf l 7 i e).2.2 = 0) (hl : 8 * l.length < (rdf l 7 i e).2.1 + 8 * (rdf l 7 i e).1) :
    Calls Try.prog 94 #[.pointer (some ⟨g, 0, none⟩), .int .i64 127] w fun r w' => r = .returned (.string (Str [])) ∧ Rd B G w' g l (rdf l 7 i e).2.1 9 ∧ Below B w w' := by
  have HF := Lib.hid (field_any h hs hi 7 (by omega))
  rw [show ((7 : Nat) : Int) = 7 from rfl] at HF
  have hv := rdf_lt l 7 i e
  have hle := rdf_le l 7 i e hi
  clear h
  generalize (rdf l 7 i e).1 = v at *
  generalize (rdf l 7 i e).2.1 = i' at *
  generalize (rdf l 7 i e).2.2 = e' at *
  subst he
  have hw : IntKind.i64.wrap (v : Int) = (v : Int) := by rw [IntKind.wrap_i64]; omega
  have d1 : decide ((127 : Int) < (v : Int)) = false := decide_eq_false (by omega)
  have hl0 : (leftN l i' 0 : Int) = 8 * (l.length : Int) - (i' : Int) := by simp only [leftN, if_pos]; omega
  have d2 : decide (8 * (l.length : Int) - (i' : Int) < 8 * (v : Int)) = true := decide_eq_true (by omega)
  have HL := Lib.hid (fun (w : World) (h : Rd B G w g l i' 0) => left_any h hs hle)
  rw [hl0] at HL
  generalize 8 * (l.length : Int) - (i' : Int) = lf at *
  have hm : IntKind.i64.wrap (8 * (v : Int)) = 8 * (v : Int) := by rw [IntKind.wrap_i64]; omega
  clear hl0 hl hv
  go_enter Try.func94, Try.ntmps94
  go_wp2_with fail
  ((with_reducible refine (limit_127 _).mono ?_); rintro e w1 ⟨rfl, rfl⟩)
  go_wp2_with fail
  ((with_reducible refine (width_127 _).mono ?_); rintro e w1 ⟨rfl, rfl⟩)
  go_wp2_with fail
  ((with_reducible refine HF.out.mono ?_); rintro r w2 ⟨rfl, h2, b2⟩)
  have H2 := Lib.hid h2
  have HB2 := Lib.hid b2
  obtain ⟨c0, c1, c2, hf⟩ := Rd.cells h2
  clear h2 b2 c0 c1 hf
  go_wp2_with fail
  ((with_reducible refine (HL.out _ H2.out).mono ?_); rintro r w3 ⟨rfl, n3, rfl⟩)
  go_wp2_with fail
  ((with_reducible refine (fail_any (Rd.drewN H2.out n3) 9).mono ?_); rintro r w4 ⟨rfl, h4, b4⟩)
  have H4 := Lib.hid h4
  have HB4 := Lib.hid ((HB2.out.trans (bel_drewN B w2 n3)).trans b4)
  clear h4 b4
  go_wp2_with fail
  go_ret
  exact ⟨rfl, H4.out, HB4.out⟩
set_option maxRecDepth 100000 in
set_option maxHeartbeats 4000000 in
theorem text_full (h : Rd B G w g l i e) (hs : l.length ≤ 65536) (hi : i ≤ 8 * l.length) (he : (rdf l 7 i e).2.2 = 0) (hl : (rdf l 7 i e).2.1 + 8 * (rdf l 7 i e).1 ≤ 8 * l.length) :
    Calls Try.prog 94 #[.pointer (some ⟨g, 0, none⟩), .int .i64 127] w fun r w' => r = .returned (.string (Str (bytesAt l (rdf l 7 i e).2.1 (rdf l 7 i e).1))) ∧ Rd B G w' g l ((rdf l 7 i e).2.1 + 8 * (rdf l 7 i e).1) 0 ∧ Below B w w' := by
  have HF := Lib.hid (field_any h hs hi 7 (by omega))
  rw [show ((7 : Nat) : Int) = 7 from rfl] at HF
  have hv := rdf_lt l 7 i e
  have hle := rdf_le l 7 i e hi
  have hB := h.1
  have hlt := h.lt
  clear h
  generalize (rdf l 7 i e).1 = v at *
  generalize (rdf l 7 i e).2.1 = i' at *
  generalize (rdf l 7 i e).2.2 = e' at *
  subst he
  have hw : IntKind.i64.wrap (v : Int) = (v : Int) := by rw [IntKind.wrap_i64]; omega
  have d1 : decide ((127 : Int) < (v : Int)) = false := decide_eq_false (by omega)
  have hl0 : (leftN l i' 0 : Int) = 8 * (l.length : Int) - (i' : Int) := by simp only [leftN, if_pos]; omega
  have d2 : decide (8 * (l.length : Int) - (i' : Int) < 8 * (v : Int)) = false := decide_eq_false (by omega)
  have HL := Lib.hid (fun (w : World) (h : Rd B G w g l i' 0) => left_any h hs hle)
  rw [hl0] at HL
  generalize 8 * (l.length : Int) - (i' : Int) = lf at *
  have hm : IntKind.i64.wrap (8 * (v : Int)) = 8 * (v : Int) := by rw [IntKind.wrap_i64]; omega
  have hmk := fun w => make_row v (by omega) w
  have HLE := Lib.hid hl
  clear hl0 hl hle
  go_enter Try.func94, Try.ntmps94
  go_wp2_with fail
  ((with_reducible refine (limit_127 _).mono ?_); rintro e w1 ⟨rfl, rfl⟩)
  go_wp2_with fail
  ((with_reducible refine (width_127 _).mono ?_); rintro e w1 ⟨rfl, rfl⟩)
  go_wp2_with fail
  ((with_reducible refine HF.out.mono ?_); rintro r w2 ⟨rfl, h2, b2⟩)
  have H2 := Lib.hid h2
  have HB2 := Lib.hid b2
  obtain ⟨c0, c1, c2, hf⟩ := Rd.cells h2
  clear h2 b2 c0 c1 hf
  go_wp2_with fail
  ((with_reducible refine (HL.out _ H2.out).mono ?_); rintro r w3 ⟨rfl, n3, rfl⟩)
  have H3 := Lib.hid (Rd.drewN H2.out n3)
  have HB3 := Lib.hid (HB2.out.trans (bel_drewN B w2 n3))
  clear H2 HB2 HL HF c2 d1 hw
  generalize World.drewN w2 n3 = w3 at H3 HB3 ⊢
  have HR0 := Lib.hid (Rd.allocG H3.out (.cells (rowB (List.replicate v 0)) 5))
  have HBL := Lib.hid (HB3.out.alloc (by have := HB3.out.size; have := Rd.lt H3.out; omega) (.cells (rowB (List.replicate v 0)) 5))
  have HGN : Hid (∀ p ∈ G, p.1 ≠ w3.heap.size) := Lib.hid (fun p hp => by have := Rd.guest_lt H3.out (k := p.1) (o := p.2) hp; omega)
  have HGB : Hid (B ≤ w3.heap.size) := Lib.hid (by have := Rd.lt H3.out; omega)
  clear H3 HB3
  go_wp2_with fail
  generalize World.alloc w3 (Obj.cells (rowB (List.replicate v 0)) 5) = w5 at HR0 HBL ⊢
  generalize w3.heap.size = gr at HR0 HGN HGB ⊢
  go_loopw [8, 42] (fun a j wr => ∃ k : Nat, k ≤ v ∧ j = .int .i64 k ∧ Hid (Rd B ((gr, .cells (rowB (half l i' v k)) 5 (0, 0)) :: G) wr g l (i' + 8 * k) 0) ∧ Hid (Below B w wr)) (fun a j _ => v - (intOf j).toNat)
  case atStart => exact ⟨0, Nat.zero_le _, rfl, by simpa [half, bytesAt] using HR0, HBL⟩
  case round =>
    clear HR0 HBL
    obtain ⟨k, hk, rfl, HR, HB⟩ := hrel
    by_cases hlt : k < v
    · have HG := Lib.hid (get_any HR.out hs 8 (by omega) (by have := HLE.out; omega))
      rw [show ((8 : Nat) : Int) = 8 from rfl] at HG
      have hx : valN (bitsAt l (i' + 8 * k) 8) < 2 ^ 8 := val_lt _ _ _
      have hc1 : IntKind.u8.wrap (valN (bitsAt l (i' + 8 * k) 8) : Int) = ((UInt8.ofNat (valN (bitsAt l (i' + 8 * k) 8))).toNat : Int) := by
        rw [IntKind.wrap_u8, UInt8.toNat_ofNat']; omega
      have hc2 : (valN (bitsAt l (i' + 8 * k) 8) : Int) % 256 = ((UInt8.ofNat (valN (bitsAt l (i' + 8 * k) 8))).toNat : Int) := by
        rw [UInt8.toNat_ofNat']; omega
      have HS := Lib.hid (half_set l i' v k hlt)
      generalize valN (bitsAt l (i' + 8 * k) 8) = x at *
      have HC2 := Lib.hid hc2
      generalize UInt8.ofNat x = c at *
      clear hx hc2
      have hhl : k < (half l i' v k).length := by rw [half_length _ _ _ _ hk]; exact hlt
      have HRG := Lib.hid (rowB_get (half l i' v k) k hhl)
      have HSET := Lib.hid (rowB_set (half l i' v k) k c)
      rw [HS.out] at HSET
      clear hhl HS
      have HK : Hid (i' + 8 * k + 8 = i' + 8 * (k + 1)) := Lib.hid (by omega)
      generalize rowB (half l i' v k) = row at *
      go_wp2_with fail
      ((with_reducible refine HG.out.mono ?_); rintro r w6 ⟨rfl, h6, b6⟩)
      obtain ⟨d0, f0⟩ := Rd.cellG h6 (.head _) HRG.out
      have H7 := Lib.hid (Rd.putG h6 HGN.out HSET.out)
      have HB7 := Lib.hid ((HB.out.trans b6).setCell (p := ⟨gr, k, none⟩) HGB.out (.int .u8 (c.toNat : Int)))
      clear h6 b6 HG HR HB
      go_wp2
      go_roundw
      case rel => exact ⟨k + 1, by omega, by go_num, by rw [← HK.out]; exact H7, HB7⟩
      case measure => simp [intOf]; omega
    · obtain rfl : k = v := by omega
      have hlen : (half l i' k k).length = k := half_length _ _ _ _ (Nat.le_refl _)
      have hcv := row_text wr gr (half l i' k k) (Rd.guest HR.out (.head _)) k
      rw [hlen, show half l i' k k = bytesAt l i' k by simp [half]] at hcv
      clear hlen
      have H9 := Lib.hid (Rd.drop HR.out)
      clear HR
      go_wp2
      go_ret
      exact ⟨rfl, H9.out, HB.out⟩
theorem text_any (h : Rd B G w g l i e) (hs : l.length ≤ 65536) (hi : i ≤ 8 * l.length) :
    Calls Try.prog 94 #[.pointer (some ⟨g, 0, none⟩), .int .i64 127] w fun r w' => r = .returned (.string (Str (rdText l i e).1)) ∧ Rd B G w' g l (rdText l i e).2.1 (rdText l i e).2.2 ∧ Below B w w' := by
  unfold rdText
  by_cases he : (rdf l 7 i e).2.2 = 0
  · rw [if_pos he]
    by_cases hl : 8 * l.length < (rdf l 7 i e).2.1 + 8 * (rdf l 7 i e).1
    · rw [if_pos hl]; exact text_short h hs hi he hl
    · rw [if_neg hl]; exact text_full h hs hi he (by omega)
  · rw [if_neg he]; exact text_err h hs hi he
end Go.Proofs.Ytbgnkjaikbhdoaa.RdT
