/- hopmeshref02.Writer: the contracts of its methods, for what is written without an error. (cut to what is reached: wip/tools/slimout2.py) -/
import Derived.Test.YtjjcgjpmhhkeaaaSBWfPut
import Derived.Test.YtjjcgjpmhhkeaaaSBWrAll
import Derived.Deep.QuietTactic
import Derived.BigQuiet
namespace Go.Proofs.Ytjjcgjpmhhkeaaa.WfAll
set_option linter.unusedSimpArgs false
set_option linter.unusedVariables false
open Go.RowKit Go.Proofs.Ytjjcgjpmhhkeaaa.Pack Go.Proofs.Ytjjcgjpmhhkeaaa.Wf Go.Proofs.Ytjjcgjpmhhkeaaa.WfPut
open Go.Proofs.Ytjjcgjpmhhkeaaa.Wr (B8 T8)
open Go.Proofs.Ytjjcgjpmhhkeaaa.WrPut (info8 below_drew' cell_new)
open Go.Proofs.Ytjjcgjpmhhkeaaa.Bytes (Str)
theorem new_f {B : Nat} (w : World) (hB : B ≤ w.heap.size) :
    Calls Try.prog 35 #[] w fun e w' => e = .returned (.pointer (some ⟨w.heap.size, 0, none⟩)) ∧ Wf B [] w' w.heap.size [] ∧ Below w.heap.size w w' := by
  have hw : Wf B [] (w.alloc (.cells #[.slice none 0 0, .int .i64 0] TR)) w.heap.size [] :=
    ⟨hB, ⟨.slice none 0 0, heap_alloc_new _ _, ⟨rfl, .inl ⟨rfl, rfl⟩⟩⟩, fun p hp => by cases hp⟩
  have HW := Lib.hid hw
  clear hw
  go_enter Try.func35, Try.ntmps35
  go_wp2
  go_ret
  exact ⟨rfl, HW.out, (Below.refl _ _).alloc (Nat.le_refl _) _⟩
theorem row_form {B : Nat} {w : World} {v : Value} {l : List UInt8} (h : w.ownsRow B 5 1 v l.length (l.map B8)) : ∃ A c, v = .slice A l.length c := by
  rcases h.2 with ⟨rfl, h0⟩ | ⟨gr, cap, cur, rfl, _⟩
  · exact ⟨none, 0, by rw [h0]⟩
  · exact ⟨_, _, rfl⟩
theorem room_ok {B g : Nat} {G : List (Nat × Obj)} {w : World} {bs : List Bool} (h : Wf B G w g bs) (k : Nat) (hn : bs.length + k ≤ 524288) :
    Calls Try.prog 57 #[.pointer (some ⟨g, 0, none⟩), .int .i64 (k : Int)] w fun e w' => e = .returned (.bool true) ∧ w = w' := by
  obtain ⟨v, c0, c1, hf, hown, _⟩ := WfL.cells h
  obtain ⟨A, c, rfl⟩ := row_form hown
  rw [List.length_map] at c0
  have hle : decide ((bs.length : Int) + (k : Int) > 524288) = false := decide_eq_false (by omega)
  clear hown h hf
  go_enter Try.func57, Try.ntmps57
  go_wp2
  go_ret
  exact ⟨rfl, rfl⟩
theorem low_small (k : Nat) (n : Int) (h0 : 0 ≤ n) (h2 : n.toNat < 2 ^ k) : low k n = n.toNat := by
  unfold low
  rw [Int.emod_eq_of_lt h0 (by omega)]
set_option maxHeartbeats 1000000 in
theorem unsigned_f {B g : Nat} {G : List (Nat × Obj)} {w : World} {bs : List Bool} (h : Wf B G w g bs) (k : Nat) (hk1 : 1 ≤ k) (hk : k ≤ 62) (n : Int) (h0 : 0 ≤ n) (h1 : n ≤ 4611686018427387903) (h2 : n.toNat < 2 ^ k) (hn : bs.length + k ≤ 524288) :
    Calls Try.prog 36 #[.pointer (some ⟨g, 0, none⟩), .int .i64 (k : Int), .int .i64 n] w fun e w' => e = .returned (.tuple #[]) ∧ Wf B G w' g (bs ++ bitsN k n.toNat) ∧ Below B w w' := by
  obtain ⟨v, c0, c1, hf, _, _⟩ := WfL.cells h
  have PR := Lib.hid (room_ok h k hn)
  have PF := put_any h k (by omega) n (by omega) h1 hn
  rw [low_small k n h0 h2] at PF
  have HF := Lib.hid PF
  have hp : (2 : Int) ^ k ≤ 4611686018427387904 := by
    have h3 : (2 : Nat) ^ k ≤ 4611686018427387904 := Nat.le_trans (Nat.pow_le_pow_right (by decide) hk) (by decide)
    rw [show (2 : Int) ^ k = ((2 ^ k : Nat) : Int) by simp]
    omega
  have hlt : n < 2 ^ k := by
    have : (n.toNat : Int) < ((2 ^ k : Nat) : Int) := by exact_mod_cast h2
    rw [Int.toNat_of_nonneg h0] at this
    simpa using this
  have k63 : decide ((k : Int) < 63) = true := decide_eq_true (by omega)
  have k1 : decide ((k : Int) < 1) = false := decide_eq_false (by omega)
  have k2 : decide ((k : Int) > 63) = false := decide_eq_false (by omega)
  have n0 : decide (n < 0) = false := decide_eq_false (by omega)
  clear PF h2 h hf c0
  go_enter Try.func36, Try.ntmps36
  go_wp2_with fail
  refine PR.out.mono ?_
  rintro e w1 ⟨rfl, rfl⟩
  go_wp2_with fail
  refine HF.out.mono ?_
  rintro e w1 ⟨rfl, h1, h2⟩
  have H1 := Lib.hid h1
  clear h1
  go_wp2_with fail
  go_end0
  exact ⟨rfl, H1.out, h2⟩
theorem list_app {ops : Array Oper} {rest : List Oper} {o : Oper} {a : Act} {W : World} {Q : Exit → Act → World → Prop} {B : Nat} {l : List UInt8} (s x : Operand) (hgd : o.guard = none)
    (ho : o.op = .call { callee := .builtin .append, args := #[s, x], argTypes := #[43, 43] }) (v : Value) (hs : a.eval s = v) (ad : Addr) (hx : a.eval x = .slice (some ad) 1 1) (u : UInt8)
    (hO : W.ownsRow B 5 1 v l.length (l.map B8)) (hc : ∀ (j : Nat) (x : Value), [B8 u][j]? = some x → W.cell? (ad.add j) = some x) (hl : l.length ≤ 1000000) (hB : B ≤ W.heap.size)
    (h : ∀ g cap w', w'.ownsRow B 5 1 (.slice (some ⟨g, 0, none⟩) (l.length + 1) cap) (l ++ [u]).length ((l ++ [u]).map B8) → W.grownBy w' v.ownBlock → wpList Try.prog ops Q rest (a.put o.dst (.slice (some ⟨g, 0, none⟩) (l.length + 1) cap)) w') : wpList Try.prog ops Q (o :: rest) a W := by
  obtain ⟨i0, hi, hz0, hz1, hz2⟩ := info_parts info8
  refine wpList_append_lies W hgd s x 43 ho B 5 i0 (.int .u8 0) 1 1 Try.underlying43 hi hz0 hz1 hz2 rfl (by decide) v l.length (l.map B8) hs hO ad 1 1 [B8 u] hx rfl hc (by intro x hx; simp at hx; subst hx; rfl) (by decide) (by unfold maxLen; omega) (by omega) hB _ rfl ?_
  intro g cap w' h1 h2 _ _
  exact h g cap w' (by rw [List.length_append, List.map_append]; exact h1) h2
set_option maxHeartbeats 1000000 in
theorem flag_f {B g : Nat} {G : List (Nat × Obj)} {w : World} {bs : List Bool} (h : Wf B G w g bs) (b : Bool) (hn : bs.length + 1 ≤ 524288) :
    Calls Try.prog 37 #[.pointer (some ⟨g, 0, none⟩), .bool b] w fun e w' => e = .returned (.tuple #[]) ∧ Wf B G w' g (bs ++ [b]) ∧ Below B w w' := by
  obtain ⟨v, c0, c1, hf, hown, hv⟩ := WfL.cells h
  have PR := Lib.hid (room_ok h 1 hn)
  have f0 := hf 0
  have hgl : g < w.heap.size := WfL.lt h
  have hBg : B ≤ g := h.1
  have HO2 := fun u => Lib.hid (hown.alloc (.cells #[B8 u] 5))
  have HC2 : ∀ u, Hid (∀ (j : Nat) (x : Value), [B8 u][j]? = some x → (w.alloc (.cells #[B8 u] 5)).cell? ((⟨w.heap.size, 0, none⟩ : Addr).add j) = some x) := fun u => Lib.hid (fun j x hx => cell_new _ _ _ hx)
  have HL2 : Hid ((bs.map bb).length ≤ 1000000) := Lib.hid (by simp; omega)
  have HB2 : ∀ u, Hid (B ≤ (w.alloc (.cells #[B8 u] 5)).heap.size) := fun u => Lib.hid (by simp; omega)
  have HV2 := fun u => Lib.hid ((heap_alloc_old w (.cells #[B8 u] 5) hgl).trans hv)
  have HW2 := fun u => Lib.hid (WfL.alloc h (.cells #[B8 u] 5))
  have HB3 := fun u => Lib.hid ((Below.refl B w).alloc (by omega) (.cells #[B8 u] 5))
  have HG2 : ∀ u, Hid (g < (w.alloc (.cells #[B8 u] 5)).heap.size) := fun u => Lib.hid (by simp; omega)
  clear hown hv hf c1 h
  cases b
  all_goals
    go_enter Try.func37, Try.ntmps37
    go_wp2_with fail
    refine PR.out.mono ?_
    rintro e w1 ⟨rfl, rfl⟩
    go_wp2_with (at_builtin; first
      | (refine list_app (B := B) (l := bs.map bb) (.tmp 12) (.tmp 13) rfl rfl v rfl ⟨w.heap.size, 0, none⟩ rfl 1 (HO2 1).out (HC2 1).out HL2.out (HB2 1).out ?_; intro g' cap' w' hown' hgrow; have hk1 := WfL.keepG (HV2 1).out (HO2 1).out hgrow; have d0 : w'.cell? ⟨g, 0, none⟩ = some v := (cell_of_row _ _ _ _ _ _ hk1).trans rfl; have e0 : w'.frozen? ⟨g, 0, none⟩ = false := frozen_of_row _ _ _ _ _ hk1; have HW := Lib.hid (WfL.grow (HW2 1).out (HV2 1).out (HO2 1).out hgrow hown'); have HB4 := Lib.hid ((below_row (HB3 1).out hBg (HG2 1).out (HO2 1).out hgrow).setCell (p := ⟨g, 0, none⟩) hBg (.slice (some ⟨g', 0, none⟩) ((bs.map bb).length + 1) cap')); clear hown' hgrow hk1)
      | (refine list_app (B := B) (l := bs.map bb) (.tmp 21) (.tmp 22) rfl rfl v rfl ⟨w.heap.size, 0, none⟩ rfl 0 (HO2 0).out (HC2 0).out HL2.out (HB2 0).out ?_; intro g' cap' w' hown' hgrow; have hk1 := WfL.keepG (HV2 0).out (HO2 0).out hgrow; have d0 : w'.cell? ⟨g, 0, none⟩ = some v := (cell_of_row _ _ _ _ _ _ hk1).trans rfl; have e0 : w'.frozen? ⟨g, 0, none⟩ = false := frozen_of_row _ _ _ _ _ hk1; have HW := Lib.hid (WfL.grow (HW2 0).out (HV2 0).out (HO2 0).out hgrow hown'); have HB4 := Lib.hid ((below_row (HB3 0).out hBg (HG2 0).out (HO2 0).out hgrow).setCell (p := ⟨g, 0, none⟩) hBg (.slice (some ⟨g', 0, none⟩) ((bs.map bb).length + 1) cap')); clear hown' hgrow hk1))
    go_end0
    rw [List.length_map] at HW HB4
    refine ⟨rfl, ?_, HB4.out⟩
    unfold Wf
    rw [List.map_append]
    exact HW.out
end Go.Proofs.Ytjjcgjpmhhkeaaa.WfAll
