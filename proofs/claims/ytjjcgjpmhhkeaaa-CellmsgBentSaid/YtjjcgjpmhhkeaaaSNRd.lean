/- bitio.Reader in memory, and what its methods do to it. (cut to what is reached: wip/tools/slimout2.py) -/
import Derived.Test.YtjjcgjpmhhkeaaaSNWrAll
import Derived.Deep.QuietTactic
import Derived.BigQuiet
namespace Go.Proofs.Ytjjcgjpmhhkeaaa.Rd
set_option linter.unusedSimpArgs false
set_option linter.unusedVariables false
open Go.RowKit Go.Proofs.Ytjjcgjpmhhkeaaa.Pack Go.Proofs.Ytjjcgjpmhhkeaaa.WrPut
open Go.Proofs.Ytjjcgjpmhhkeaaa.Bytes (Str)
def bitsAt (l : List UInt8) (i k : Nat) : List Bool := (List.range k).map fun j => bitAt l (i + j)
theorem bitsAt_length (l : List UInt8) (i k : Nat) : (bitsAt l i k).length = k := by simp [bitsAt]
theorem bitsAt_succ (l : List UInt8) (i k : Nat) : bitsAt l i (k + 1) = bitsAt l i k ++ [bitAt l (i + k)] := by
  simp [bitsAt, List.range_succ]
theorem val_lt (l : List UInt8) (i k : Nat) : valN (bitsAt l i k) < 2 ^ k := by
  have := valN_lt (bitsAt l i k); rwa [bitsAt_length] at this
theorem bel_drewN (B : Nat) (w : World) (n : Nat) : Below B w (w.drewN n) := ⟨rfl, rfl, rfl, Nat.le_refl _, fun _ _ => rfl⟩
abbrev TR : TypeId := 79
abbrev TRc (l : List UInt8) (i : Nat) (e : Int) : Array Value := #[.string (Str l), .int .i64 (i : Int), .int .i64 e]
def Rd (B : Nat) (G : List (Nat × Obj)) (w : World) (g : Nat) (l : List UInt8) (i : Nat) (e : Int) : Prop :=
  B ≤ g ∧ w.heap[g]? = some (.cells (TRc l i e) TR (0, 0)) ∧ ∀ p ∈ G, w.heap[p.1]? = some p.2 ∧ p.1 ≠ g
variable {B g i : Nat} {G : List (Nat × Obj)} {w : World} {l : List UInt8} {e : Int}
theorem Rd.lt (h : Rd B G w g l i e) : g < w.heap.size := (Array.getElem?_eq_some_iff.1 h.2.1).1
theorem Rd.alloc (h : Rd B G w g l i e) (o : Obj) : Rd B G (w.alloc o) g l i e := by
  have hlt := h.lt
  refine ⟨h.1, by rw [heap_alloc_old _ _ hlt]; exact h.2.1, fun p hp => ?_⟩
  obtain ⟨a, b⟩ := h.2.2 p hp
  exact ⟨by rw [heap_alloc_old _ _ (Array.getElem?_eq_some_iff.1 a).1]; exact a, b⟩
theorem Rd.drop {p : Nat × Obj} (h : Rd B (p :: G) w g l i e) : Rd B G w g l i e := ⟨h.1, h.2.1, fun q hq => h.2.2 q (List.mem_cons_of_mem _ hq)⟩
theorem Rd.drew (h : Rd B G w g l i e) : Rd B G w.drew g l i e := h
theorem Rd.drewN (h : Rd B G w g l i e) (k : Nat) : Rd B G (w.drewN k) g l i e := h
theorem Rd.below {w' : World} (h : Rd B G w g l i e) (hb : Below w.heap.size w w') : Rd B G w' g l i e := by
  refine ⟨h.1, by rw [hb.block _ h.lt]; exact h.2.1, fun p hp => ?_⟩
  obtain ⟨a, b⟩ := h.2.2 p hp
  exact ⟨by rw [hb.block _ (Array.getElem?_eq_some_iff.1 a).1]; exact a, b⟩
theorem Rd.cells (h : Rd B G w g l i e) : w.cell? ⟨g, 0, none⟩ = some (.string (Str l)) ∧ w.cell? ⟨g, 1, none⟩ = some (.int .i64 (i : Int)) ∧ w.cell? ⟨g, 2, none⟩ = some (.int .i64 e) ∧ ∀ j, w.frozen? ⟨g, j, none⟩ = false := by
  refine ⟨?_, ?_, ?_, fun j => frozen_of_row _ _ _ _ _ h.2.1⟩
  · rw [cell_of_row _ _ _ _ _ _ h.2.1]; rfl
  · rw [cell_of_row _ _ _ _ _ _ h.2.1]; rfl
  · rw [cell_of_row _ _ _ _ _ _ h.2.1]; rfl
theorem Rd.put (h : Rd B G w g l i e) {j : Nat} {x : Value} {i' : Nat} {e' : Int} (he : (TRc l i e).setIfInBounds j x = TRc l i' e') :
    Rd B G (w.setCell ⟨g, j, none⟩ x) g l i' e' := by
  refine ⟨h.1, by rw [heap_setCell_same _ _ _ _ _ _ h.2.1, he], fun p hp => ?_⟩
  obtain ⟨a, b⟩ := h.2.2 p hp
  exact ⟨by rw [heap_setCell_other _ _ _ _ b]; exact a, b⟩
theorem Rd.step (h : Rd B G w g l i e) : Rd B G (w.setCell ⟨g, 1, none⟩ (.int .i64 ((i : Int) + 1))) g l (i + 1) e := h.put rfl
theorem bit_val (l : List UInt8) (i x : Nat) (hx : (l.getD (i / 8) 0).toNat = x) (z : Int) (hz : (x : Int) / 2 ^ (7 - i % 8) = z) (v : Nat) (hv : v < 9223372036854775808) :
    Go.bits .or .u64 (IntKind.u64.wrap ((v : Int) * 2)) (IntKind.u64.wrap (Go.bits .and .u8 z 1)) = ((2 * v + (if bitAt l i then 1 else 0) : Nat) : Int) := by
  unfold bitAt
  rw [hx]
  have hb : x < 256 := by rw [← hx]; exact (l.getD (i / 8) 0).toNat_lt
  have e1 : z = ((x / 2 ^ (7 - i % 8) : Nat) : Int) := by rw [← hz]; simp
  have hl : x / 2 ^ (7 - i % 8) < 256 := Nat.lt_of_le_of_lt (Nat.div_le_self _ _) hb
  rw [e1, show (1 : Int) = ((1 : Nat) : Int) from rfl, u8_and_nat _ _ hl (by decide), nat_mask1, Nat.testBit_eq_decide_div_mod_eq]
  generalize x / 2 ^ (7 - i % 8) = c
  have e2 : IntKind.u64.wrap ((c % 2 : Nat) : Int) = ((c % 2 : Nat) : Int) := by rw [IntKind.wrap_u64]; omega
  have e3 : IntKind.u64.wrap ((v : Int) * 2) = ((2 * v : Nat) : Int) := by rw [IntKind.wrap_u64]; omega
  rw [e2, e3, u64_or_nat _ _ (by omega) (by omega)]
  congr 1
  have : 2 * v ||| c % 2 = 2 * v + c % 2 := by
    have := Nat.two_pow_add_eq_or_of_lt (i := 1) (b := c % 2) (by omega) v
    rw [show 2 ^ 1 * v = 2 * v by omega] at this
    exact this.symm
  rw [this]
  by_cases hc : c % 2 = 1
  · simp [hc]
  · have : c % 2 = 0 := by omega
    simp [this]
set_option maxRecDepth 100000 in
set_option maxHeartbeats 2000000 in
theorem get_any (h : Rd B G w g l i e) (hs : l.length ≤ 65536) (k : Nat) (hk : k ≤ 64) (hi : i + k ≤ 8 * l.length) :
    Calls Try.prog 66 #[.pointer (some ⟨g, 0, none⟩), .int .i64 (k : Int)] w fun r w' => r = .returned (.int .u64 (valN (bitsAt l i k) : Int)) ∧ Rd B G w' g l (i + k) e ∧ Below B w w' := by
  have HH := Lib.hid h
  have hB := h.1
  clear h
  go_enter Try.func66, Try.ntmps66
  go_wp2
  go_loopw [5, 7] (fun n j wr => ∃ q : Nat, q ≤ k ∧ j = .int .i64 q ∧ n = .int .u64 (valN (bitsAt l i q) : Int) ∧ Hid (Rd B G wr g l (i + q) e) ∧ Hid (Below B w wr)) (fun _ j _ => k - (intOf j).toNat)
  case atStart => exact ⟨0, Nat.zero_le _, rfl, by simp [bitsAt, valN], HH, Lib.hid (Below.refl _ _)⟩
  case round =>
    clear HH
    obtain ⟨q, hq, rfl, rfl, HR, HB⟩ := hrel
    obtain ⟨c0, c1, c2, hf⟩ := Rd.cells HR.out
    by_cases hlt : q < k
    · obtain ⟨m, hm⟩ : ∃ m, m = i + q := ⟨_, rfl⟩
      have hmx : m < 8 * l.length := by omega
      rw [← hm] at c1 HR
      have hs8 : (Str l).size = l.length := by show l.toArray.size = _; simp
      obtain ⟨a, ha⟩ : ∃ a : Int, IntKind.i64.wrap ((m : Int) / 8) = a := ⟨_, rfl⟩
      obtain ⟨b, hb⟩ : ∃ b : Int, IntKind.i64.wrap (7 - (m : Int) % 8) = b := ⟨_, rfl⟩
      have ha2 : a = ((m / 8 : Nat) : Int) := by rw [← ha, IntKind.wrap_i64]; omega
      have hb2 : b = ((7 - m % 8 : Nat) : Int) := by rw [← hb, IntKind.wrap_i64]; omega
      have p1 : (0 ≤ a) = True := eq_true (by omega)
      have p2 : (a < ((Str l).size : Int)) = True := eq_true (by rw [hs8]; omega)
      have p22 : (a < (l.length : Int)) = True := eq_true (by omega)
      have p3 : (0 ≤ b) = True := eq_true (by omega)
      obtain ⟨x, hx⟩ : ∃ x : Nat, (l.getD (m / 8) 0).toNat = x := ⟨_, rfl⟩
      have hx2 : ∀ h : a.toNat < (Str l).size, ((Str l)[a.toNat]'h).toNat = x := by
        intro h
        have e1 : a.toNat = m / 8 := by omega
        have e2 : m / 8 < l.length := by omega
        rw [← hx]; simp only [e1]
        show (l.toArray[m / 8]'_).toNat = _
        simp [List.getD, e2]
      have hx3 : ∀ h : a.toNat < l.length, (l[a.toNat]'h).toNat = x := by
        intro h
        have e1 : a.toNat = m / 8 := by omega
        have e2 : m / 8 < l.length := by omega
        rw [← hx]; simp [e1, List.getD, e2]
      obtain ⟨z, hz⟩ : ∃ z : Int, (x : Int) / 2 ^ min b.toNat 8 = z := ⟨_, rfl⟩
      have hz2 : (x : Int) / 2 ^ b.toNat = z := by rw [← hz, Nat.min_eq_left (by omega)]
      have hb8 : b ≤ 8 := by omega
      have hv63 : valN (bitsAt l i q) < 9223372036854775808 := Nat.lt_of_lt_of_le (val_lt l i q) (by
        have : (2 : Nat) ^ q ≤ 2 ^ 63 := Nat.pow_le_pow_right (by decide) (by omega)
        omega)
      have hval : Go.bits .or .u64 (IntKind.u64.wrap ((valN (bitsAt l i q) : Int) * 2)) (IntKind.u64.wrap (Go.bits .and .u8 z 1)) = (valN (bitsAt l i (q + 1)) : Int) := by
        rw [bitsAt_succ, valN_snoc, ← hm]
        exact bit_val l m x hx z (by rw [← hz2]; congr 2; omega) _ hv63
      have HV := Lib.hid hval
      have HN : Hid (m + 1 = i + (q + 1)) := Lib.hid (by omega)
      clear hs8 ha2 hb2 hx hm hval hv63
      go_wp2_with fail
      go_quiet (fail)
      rw [HV.out]
      have HR2 := Lib.hid (Rd.step (Rd.drewN HR.out nq))
      have HB2 := Lib.hid ((HB.out.trans (bel_drewN B wr nq)).setCell (p := ⟨g, 1, none⟩) hB (.int .i64 ((m : Int) + 1)))
      have d1 : (wr.drewN nq).cell? ⟨g, 1, none⟩ = some (.int .i64 (m : Int)) := c1
      have f1 : (wr.drewN nq).frozen? ⟨g, 1, none⟩ = false := hf 1
      clear HR HB c0 c1 c2 hf p1 p2 p22 p3 hx2 hx3 hz hz2 ha hb hb8 HV
      generalize World.drewN wr nq = w2 at HR2 HB2 d1 f1 ⊢
      go_wp2
      go_roundw
      case rel => exact ⟨q + 1, by omega, by go_num, rfl, by rw [← HN.out]; exact HR2, HB2⟩
      case measure => simp [intOf]; omega
    · obtain rfl : q = k := by omega
      go_wp2
      go_ret
      exact ⟨rfl, HR.out, HB.out⟩
def leftN (l : List UInt8) (i : Nat) (e : Int) : Nat := if e = 0 then 8 * l.length - i else 0
set_option maxHeartbeats 2000000 in
theorem left_any (h : Rd B G w g l i e) (hs : l.length ≤ 65536) (hi : i ≤ 8 * l.length) :
    Calls Try.prog 67 #[.pointer (some ⟨g, 0, none⟩)] w fun r w' => r = .returned (.int .i64 (leftN l i e : Int)) ∧ ∃ n, w' = w.drewN n := by
  obtain ⟨c0, c1, c2, hf⟩ := Rd.cells h
  clear h
  by_cases he : e = 0
  · subst he
    have hv : IntKind.i64.wrap (IntKind.i64.wrap (8 * (l.length : Int)) - (i : Int)) = (leftN l i 0 : Int) := by
      simp only [leftN, if_pos, IntKind.wrap_i64]; omega
    have hv2 : IntKind.i64.wrap (8 * (l.length : Int) - (i : Int)) = (leftN l i 0 : Int) := by
      simp only [leftN, if_pos, IntKind.wrap_i64]; omega
    have hv3 : (8 * (l.length : Int) - (i : Int)) = (leftN l i 0 : Int) := by
      simp only [leftN, if_pos]; omega
    have hs2 : (Str l).size = l.length := by show l.toArray.size = _; simp
    generalize (leftN l i 0 : Int) = v at hv hv2 hv3 ⊢
    clear hv3
    go_enter Try.func67, Try.ntmps67
    go_wp2
    go_quiet (fail)
    go_wp2
    go_ret
    exact ⟨rfl, _, rfl⟩
  · have he2 : (e == 0) = false := by simpa using he
    have he3 : (e != 0) = true := by simpa using he
    have hl : leftN l i e = 0 := by simp [leftN, he]
    rw [hl]
    clear hl he
    go_enter Try.func67, Try.ntmps67
    go_wp2
    go_ret
    exact ⟨rfl, 0, rfl⟩
def rdf (l : List UInt8) (k i : Nat) (e : Int) : Nat × Nat × Int := if e = 0 then if 8 * l.length < i + k then (0, i, 9) else (valN (bitsAt l i k), i + k, 0) else (0, i, e)
theorem rdf_lt (l : List UInt8) (k i : Nat) (e : Int) : (rdf l k i e).1 < 2 ^ k := by
  unfold rdf
  split
  · split
    · exact Nat.two_pow_pos k
    · exact val_lt _ _ _
  · exact Nat.two_pow_pos k
theorem rdf_le (l : List UInt8) (k i : Nat) (e : Int) (h : i ≤ 8 * l.length) : (rdf l k i e).2.1 ≤ 8 * l.length := by
  unfold rdf
  split
  · split
    · exact h
    · show i + k ≤ _; omega
  · exact h
end Go.Proofs.Ytjjcgjpmhhkeaaa.Rd
