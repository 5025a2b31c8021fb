/- hopmeshref02.Writer.put: the bits of a number behind what was written. (cut to what is reached: wip/tools/slimout2.py) -/
import Derived.Test.YtjjcgjpmhhkeaaaSBWf
import Derived.Test.YtjjcgjpmhhkeaaaSBWrPut
import Derived.Deep.RegionLaw
import Derived.Deep.AppendLies
namespace Go.Proofs.Ytjjcgjpmhhkeaaa.WfPut
set_option linter.unusedSimpArgs false
set_option linter.unusedVariables false
open Go.RowKit Go.Proofs.Ytjjcgjpmhhkeaaa.Pack Go.Proofs.Ytjjcgjpmhhkeaaa.Wf
open Go.Proofs.Ytjjcgjpmhhkeaaa.Wr (B8 T8 ne_of_types)
open Go.Proofs.Ytjjcgjpmhhkeaaa.WrPut (info8 below_drew' cell_new take_step)
def low (k : Nat) (n : Int) : Nat := (n % (2 ^ k : Nat)).toNat
theorem i64_and1 (n : Int) : bits .and .i64 n 1 = n % 2 := by
  have h1 : (BitVec.ofInt 64 1).toNat = 2 ^ 1 - 1 := by decide
  have key : (BitVec.ofInt 64 n &&& BitVec.ofInt 64 1).toNat = (n % ((2 ^ 64 : Nat) : Int)).toNat % 2 ^ 1 := by
    rw [BitVec.toNat_and, BitVec.toNat_ofInt, h1, Nat.and_two_pow_sub_one_eq_mod]
  show IntKind.i64.wrap ((BitVec.ofInt 64 n &&& BitVec.ofInt 64 1).toNat : Nat) = n % 2
  rw [key, IntKind.wrap_i64]
  omega
theorem low_test (k q : Nat) (n : Int) (hq : q < k) : (n / 2 ^ q) % 2 = if (low k n).testBit q then 1 else 0 := by
  have hp : (0 : Int) < ((2 ^ k : Nat) : Int) := by exact_mod_cast Nat.two_pow_pos k
  have h0 : 0 ≤ n % ((2 ^ k : Nat) : Int) := Int.emod_nonneg _ (by omega)
  have e : ((low k n : Nat) : Int) = n % ((2 ^ k : Nat) : Int) := Int.toNat_of_nonneg h0
  obtain ⟨r, rfl⟩ : ∃ r, k = q + 1 + r := ⟨k - (q + 1), by omega⟩
  have e2 : n / 2 ^ q = ((low (q + 1 + r) n : Nat) : Int) / 2 ^ q + 2 * (2 ^ r * (n / ((2 ^ (q + 1 + r) : Nat) : Int))) := by
    have hq0 : (0 : Int) < 2 ^ q := Int.pow_pos (by decide)
    have hn : n = n % ((2 ^ (q + 1 + r) : Nat) : Int) + 2 ^ q * (2 * (2 ^ r * (n / ((2 ^ (q + 1 + r) : Nat) : Int)))) := by
      have h1 := Int.emod_add_mul_ediv n ((2 ^ (q + 1 + r) : Nat) : Int)
      have h2 : ((2 ^ (q + 1 + r) : Nat) : Int) = 2 ^ q * (2 * 2 ^ r) := by push_cast; rw [Int.pow_add, Int.pow_add]; simp [Int.mul_assoc]
      rw [h2] at h1 ⊢
      rw [Int.mul_assoc, Int.mul_assoc] at h1
      exact h1.symm
    rw [e]
    conv => lhs; rw [hn]
    rw [Int.add_mul_ediv_left _ _ (by omega)]
  rw [e2, Int.add_mul_emod_self_left]
  generalize low (q + 1 + r) n = m
  rw [Nat.testBit_eq_decide_div_mod_eq]
  have e3 : ((m : Int) / 2 ^ q) = ((m / 2 ^ q : Nat) : Int) := by simp
  rw [e3]
  generalize m / 2 ^ q = z
  by_cases h : z % 2 = 1
  · rw [h]; simp; omega
  · simp [h]; omega
theorem low_bit (k q : Nat) (n : Int) (hq : q < k) : IntKind.u8.wrap (bits .and .i64 (n / 2 ^ q) 1) = ((bb ((low k n).testBit q)).toNat : Int) := by
  rw [i64_and1, low_test k q n hq]
  cases (low k n).testBit q <;> rfl
theorem step_app {ops : Array Oper} {o : Oper} {a : Act} {W : World} {K : Act → World → Prop} {Q : Exit → Act → World → Prop} {E : Prop} {B : Nat} {l : List UInt8} (s x : Operand) (hgd : o.guard = none)
    (ho : o.op = .call { callee := .builtin .append, args := #[s, x], argTypes := #[43, 43] }) (v : Value) (hs : a.eval s = v) (ad : Addr) (hx : a.eval x = .slice (some ad) 1 1) (u : UInt8)
    (hO : W.ownsRow B 5 1 v l.length (l.map B8)) (hc : ∀ (j : Nat) (x : Value), [B8 u][j]? = some x → W.cell? (ad.add j) = some x) (hl : l.length ≤ 1000000) (hB : B ≤ W.heap.size)
    (h : ∀ g cap w', w'.ownsRow B 5 1 (.slice (some ⟨g, 0, none⟩) (l.length + 1) cap) (l ++ [u]).length ((l ++ [u]).map B8) → W.grownBy w' v.ownBlock → K (a.put o.dst (.slice (some ⟨g, 0, none⟩) (l.length + 1) cap)) w') :
    if Region.wanted o (yielded ops a.tmps) = true then Oper.wp Try.prog o a W K Q else E := by
  obtain ⟨i0, hi, hz0, hz1, hz2⟩ := info_parts info8
  refine step_append_lies W hgd s x 43 ho B 5 i0 (.int .u8 0) 1 1 Try.underlying43 hi hz0 hz1 hz2 rfl (by decide) v l.length (l.map B8) hs hO ad 1 1 [B8 u] hx rfl hc (by intro x hx; simp at hx; subst hx; rfl) (by decide) (by unfold maxLen; omega) (by omega) hB _ rfl ?_
  intro g cap w' h1 h2 _ _
  exact h g cap w' (by rw [List.length_append, List.map_append]; exact h1) h2
set_option maxRecDepth 100000 in
set_option maxHeartbeats 4000000 in
theorem put_any {B g : Nat} {G : List (Nat × Obj)} {w : World} {bs : List Bool} (h : Wf B G w g bs) (k : Nat) (hk : k ≤ 63) (n : Int) (hn0 : -4611686018427387904 ≤ n) (hn1 : n ≤ 4611686018427387903) (hn : bs.length + k ≤ 524288) :
    Calls Try.prog 58 #[.pointer (some ⟨g, 0, none⟩), .int .i64 (k : Int), .int .i64 n] w fun e w' => e = .returned (.tuple #[]) ∧ Wf B G w' g (bs ++ bitsN k (low k n)) ∧ Below B w w' := by
  obtain ⟨i0, hi, hz0, hz1, hz2⟩ := info_parts info8
  have HI := Lib.hid hi
  have HZ0 := Lib.hid hz0
  have HZ1 := Lib.hid hz1
  have HZ2 := Lib.hid hz2
  have HH := Lib.hid h
  clear hi hz0 hz1 hz2 h
  go_enter Try.func58, Try.ntmps58
  go_wp2
  go_loopw [6] (fun i wr => ∃ d : Nat, d ≤ k ∧ i = .int .i64 ((d : Int) - 1) ∧ Hid (Wf B G wr g (bs ++ (bitsN k (low k n)).take (k - d))) ∧ Hid (Below B w wr)) (fun i _ => (intOf i + 1).toNat)
  case atStart => exact ⟨k, Nat.le_refl _, rfl, by rw [Nat.sub_self, List.take_zero, List.append_nil]; exact HH, Lib.hid (Below.refl _ _)⟩
  case round =>
    clear HH
    obtain ⟨d, hd, rfl, HH, HB⟩ := hrel
    by_cases h0 : d = 0
    · subst h0
      have HH2 : Hid (Wf B G wr g (bs ++ bitsN k (low k n))) := by
        have := HH.out
        rw [Nat.sub_zero, List.take_of_length_le (by rw [bitsN_length]; exact Nat.le_refl _)] at this
        exact Lib.hid this
      go_wp2
      go_end0
      exact ⟨rfl, HH2.out, HB.out⟩
    · obtain ⟨q, rfl⟩ : ∃ q, d = q + 1 := ⟨d - 1, by omega⟩
      have e : (((q + 1 : Nat) : Int) - 1) = (q : Int) := by omega
      rw [e]
      clear e h0
      have hq : q < k := by omega
      have hq63 : q < 63 := by omega
      generalize hcs : bs ++ (bitsN k (low k n)).take (k - (q + 1)) = cs at HH
      have hlen : cs.length = bs.length + (k - (q + 1)) := by
        rw [← hcs, List.length_append, List.length_take, bitsN_length]; omega
      have hL : cs.length ≤ 524288 := by omega
      obtain ⟨v, c0, c1, hf, hown, hv⟩ := WfL.cells HH.out
      have HO := Lib.hid hown
      have HV := Lib.hid hv
      have f0 := hf 0
      have HL := Lib.hid hlen
      have HC := Lib.hid hcs
      clear hown hv hf hlen hcs c1
      have hgl : g < wr.heap.size := WfL.lt HH.out
      have hBg : B ≤ g := HH.out.1
      have hX := low_bit k q n hq
      generalize hu : bb ((low k n).testBit q) = u at hX
      have HU := Lib.hid hu
      clear hu
      have HO2 : Hid ((wr.alloc (.cells #[B8 u] 5)).drew.ownsRow B 5 1 v (cs.map bb).length ((cs.map bb).map B8)) := Lib.hid (HO.out.alloc (.cells #[B8 u] 5))
      have HC2 : Hid (∀ (j : Nat) (x : Value), [B8 u][j]? = some x → (wr.alloc (.cells #[B8 u] 5)).drew.cell? ((⟨wr.heap.size, 0, none⟩ : Addr).add j) = some x) := Lib.hid (fun j x hx => cell_new _ _ _ hx)
      have HL2 : Hid ((cs.map bb).length ≤ 1000000) := Lib.hid (by simp; omega)
      have HB2 : Hid (B ≤ (wr.alloc (.cells #[B8 u] 5)).drew.heap.size) := Lib.hid (by show B ≤ (wr.alloc (.cells #[B8 u] 5)).heap.size; simp; omega)
      have HV2 : Hid ((wr.alloc (.cells #[B8 u] 5)).drew.heap[g]? = some (.cells #[v, .int .i64 0] TR (0, 0))) := Lib.hid ((heap_alloc_old wr (.cells #[B8 u] 5) hgl).trans HV.out)
      have HW2 : Hid (WfL B G (wr.alloc (.cells #[B8 u] 5)).drew g (cs.map bb) 0) := Lib.hid (WfL.alloc HH.out (.cells #[B8 u] 5))
      have HB3 : Hid (Below B w (wr.alloc (.cells #[B8 u] 5)).drew) := Lib.hid (below_drew' (HB.out.alloc (by omega) (.cells #[B8 u] 5)))
      have HG2 : Hid (g < (wr.alloc (.cells #[B8 u] 5)).drew.heap.size) := Lib.hid (by show g < (wr.alloc (.cells #[B8 u] 5)).heap.size; simp; omega)
      go_wp2
      go_region_law ((refine step_app (B := B) (l := cs.map bb) (.tmp 17) (.tmp 23) rfl rfl v rfl ⟨wr.heap.size, 0, none⟩ rfl u HO2.out HC2.out HL2.out HB2.out ?_); intro g' cap' w' hown' hgrow; have hk1 := WfL.keepG HV2.out HO2.out hgrow; have d0 : w'.cell? ⟨g, 0, none⟩ = some v := (cell_of_row _ _ _ _ _ _ hk1).trans rfl; have e0 : w'.frozen? ⟨g, 0, none⟩ = false := frozen_of_row _ _ _ _ _ hk1; have HW := Lib.hid (WfL.grow HW2.out HV2.out HO2.out hgrow hown'); have HB4 := Lib.hid ((below_row HB3.out hBg HG2.out HO2.out hgrow).setCell (p := ⟨g, 0, none⟩) hBg (.slice (some ⟨g', 0, none⟩) ((cs.map bb).length + 1) cap')); clear hown' hgrow hk1)
      all_goals (
        clear d0 e0 c0 f0 HO HV HH HB HO2 HC2 HL2 HB2 HV2 HW2 HB3 HG2 hX
        rw [List.length_map] at HW HB4
        generalize w'.setCell ⟨g, 0, none⟩ (.slice (some ⟨g', 0, none⟩) (cs.length + 1) cap') = w3 at HW HB4 ⊢
        have HS : Hid (Wf B G w3 g (bs ++ (bitsN k (low k n)).take (k - q))) := by
          refine Lib.hid ?_
          unfold Wf
          rw [take_step k (low k n) q hq, ← List.append_assoc, HC.out, List.map_append, List.map_cons, List.map_nil, HU.out]
          exact HW.out
        go_wp2
        go_roundw
        case rel => exact ⟨q, by omega, rfl, HS, HB4⟩
        case measure => simp [intOf])
end Go.Proofs.Ytjjcgjpmhhkeaaa.WfPut
