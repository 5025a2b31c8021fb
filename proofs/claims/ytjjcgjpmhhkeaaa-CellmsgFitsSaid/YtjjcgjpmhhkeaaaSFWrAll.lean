/- bitio.Writer: the contracts of its methods, for what is written without an error. (cut to what is reached: wip/tools/slimout2.py) -/
import Derived.Test.YtjjcgjpmhhkeaaaSFWrPut
import Derived.Test.YtjjcgjpmhhkeaaaSFShelf
import Derived.Test.YtjjcgjpmhhkeaaaSFBytes
import Derived.Deep.QuietTactic
import Derived.BigQuiet
namespace Go.Proofs.Ytjjcgjpmhhkeaaa.WrAll
open Go.RowKit Go.Proofs.Ytjjcgjpmhhkeaaa.Pack Go.Proofs.Ytjjcgjpmhhkeaaa.Wr Go.Proofs.Ytjjcgjpmhhkeaaa.WrPut
open Go.Proofs.Ytjjcgjpmhhkeaaa.Bytes (Str)
theorem new_any {B : Nat} (w : World) (hB : B ≤ w.heap.size) :
    Calls Try.prog 31 #[] w fun e w' => e = .returned (.pointer (some ⟨w.heap.size, 0, none⟩)) ∧ Wr B [] w' w.heap.size [] 0 ∧ Below w.heap.size w w' := by
  have hw : Wr B [] (w.alloc (.cells #[.slice none 0 0, .int .i64 0, .int .i64 0] TW)) w.heap.size [] 0 :=
    ⟨hB, ⟨.slice none 0 0, heap_alloc_new _ _, ⟨rfl, .inl ⟨rfl, rfl⟩⟩⟩, fun p hp => by cases hp⟩
  have HW := Lib.hid hw
  clear hw
  go_enter Try.func31, Try.ntmps31
  go_wp2
  go_ret
  exact ⟨rfl, HW.out, (Below.refl _ _).alloc (Nat.le_refl _) _⟩
set_option maxHeartbeats 1000000 in
theorem field_ok {B g : Nat} {G : List (Nat × Obj)} {w : World} {bs : List Bool} (h : Wr B G w g bs 0) (k : Nat) (hk : k ≤ 64) (n : Int) (m : Nat) (hm : U64 m) (hc : IntKind.u64.wrap n = (m : Int)) (hn : bs.length + k ≤ 524288) :
    Calls Try.prog 55 #[.pointer (some ⟨g, 0, none⟩), .bool true, .bool true, .int .i64 (k : Int), .int .i64 n] w fun e w' => e = .returned (.tuple #[]) ∧ Wr B G w' g (bs ++ bitsN k m) 0 ∧ Below B w w' := by
  obtain ⟨v, c0, c1, c2, hf, _, _⟩ := WrL.cells h
  have P := put_any h k hk m hm (by omega)
  have HP := Lib.hid P
  have HC := Lib.hid hc
  clear P c0 hf h hc
  go_enter Try.func55, Try.ntmps55
  go_wp2_with fail
  rw [HC.out]
  refine HP.out.mono ?_
  rintro e w1 ⟨rfl, h1, h2⟩
  have H1 := Lib.hid h1
  clear h1
  go_wp2_with fail
  go_end0
  exact ⟨rfl, H1.out, h2⟩
theorem wrap_small (n : Int) (h0 : 0 ≤ n) (h1 : n ≤ 9223372036854775807) : IntKind.u64.wrap n = (n.toNat : Int) := by
  simp only [IntKind.wrap, IntKind.bits, IntKind.signed]; simp; omega
theorem bitLen_le (n k : Nat) (h : n < 2 ^ k) : Lib.bitLen n ≤ k := by
  have : ∀ f n k, n < 2 ^ k → Lib.bitLenAux f n ≤ k := by
    intro f
    induction f with
    | zero => intro n k _; simp [Lib.bitLenAux]
    | succ f ih =>
      intro n k h
      unfold Lib.bitLenAux
      split
      · omega
      · cases k with
        | zero => simp at h; omega
        | succ k => have := ih (n / 2) k (by rw [Nat.pow_succ] at h; omega); omega
  exact this _ _ _ h
set_option maxHeartbeats 1000000 in
theorem unsigned_ok {B g : Nat} {G : List (Nat × Obj)} {w : World} {bs : List Bool} (h : Wr B G w g bs 0) (k : Nat) (hk1 : 1 ≤ k) (hk : k ≤ 63) (n : Int) (h0 : 0 ≤ n) (h1 : n ≤ 4611686018427387903) (h2 : n.toNat < 2 ^ k) (hn : bs.length + k ≤ 524288) :
    Calls Try.prog 32 #[.pointer (some ⟨g, 0, none⟩), .int .i64 (k : Int), .int .i64 n] w fun e w' => e = .returned (.tuple #[]) ∧ Wr B G w' g (bs ++ bitsN k n.toNat) 0 ∧ Below B w w' := by
  have hl : ((Lib.bitLen n.toNat : Nat) : Int) ≤ (k : Int) := by have := bitLen_le _ _ h2; omega
  have PL := fun w => Try.bits_Len n w h0 (by omega)
  have PF := field_ok h k (by omega) n n.toNat (by unfold U64; omega) (wrap_small n h0 (by omega)) hn
  have HL := Lib.hid PL
  have HF := Lib.hid PF
  clear PL PF h2 h
  go_enter Try.func32, Try.ntmps32
  go_wp2_with fail
  refine (HL.out _).mono ?_
  rintro e w1 ⟨rfl, rfl⟩
  go_wp2_with fail
  refine HF.out.mono ?_
  rintro e w1 ⟨rfl, h1, h2⟩
  have H1 := Lib.hid h1
  clear h1
  go_wp2_with fail
  go_end0
  exact ⟨rfl, H1.out, h2⟩
set_option maxHeartbeats 1000000 in
theorem flag_ok {B g : Nat} {G : List (Nat × Obj)} {w : World} {bs : List Bool} (h : Wr B G w g bs 0) (b : Bool) (hn : bs.length + 1 ≤ 524288) :
    Calls Try.prog 33 #[.pointer (some ⟨g, 0, none⟩), .bool b] w fun e w' => e = .returned (.tuple #[]) ∧ Wr B G w' g (bs ++ [b]) 0 ∧ Below B w w' := by
  have PF := field_ok h 1 (by omega) (if b then 1 else 0) (if b then 1 else 0) (by unfold U64; split <;> omega) (by cases b <;> rfl) hn
  rw [show bitsN 1 (if b then 1 else 0) = [b] by cases b <;> rfl] at PF
  have HF := Lib.hid PF
  clear PF h
  cases b
  all_goals
    go_enter Try.func33, Try.ntmps33
    go_wp2_with fail
    refine HF.out.mono ?_
    rintro e w1 ⟨rfl, h1, h2⟩
    have H1 := Lib.hid h1
    clear h1
    go_wp2_with fail
    go_end0
    exact ⟨rfl, H1.out, h2⟩
set_option maxHeartbeats 1000000 in
theorem bytes_ok {B g : Nat} {G : List (Nat × Obj)} {w : World} {bs : List Bool} (h : Wr B G w g bs 0) :
    Calls Try.prog 34 #[.pointer (some ⟨g, 0, none⟩)] w fun e w' => e = .returned (.tuple #[.string (Str (pack bs)), .int .i64 0]) ∧ w = w' := by
  obtain ⟨v, c0, c1, c2, hf, hown, _⟩ := WrL.cells h
  have hconv : (convert 43 9 v).run Try.prog w = .ok (.string (Str (pack bs))) w := by
    by_cases h0 : (pack bs).length = 0
    · have e : pack bs = [] := List.eq_nil_of_length_eq_zero h0
      rw [e] at hown ⊢
      rcases hown.2 with ⟨rfl, _⟩ | ⟨gr, cap, cur, rfl, _, b3, _, _, _, _⟩
      · rw [run_convert_bytes_nil w 43 5 Try.underlying43 Try.underlying5 0 0 9 Try.underlying9]; rfl
      · have := Bytes.ByteRow.text (P := Try.prog) (w := w) (g := gr) (l := []) (fun j hj => by simp at hj) cap 43 5 9 Try.underlying43 Try.underlying5 Try.underlying9
        exact this
    · obtain ⟨gr, cap, rfl, hcell⟩ := WrL.row_cells hown (by omega)
      have := run_convert_bytes_arg w 43 5 Try.underlying43 Try.underlying5 gr 0 (pack bs).length cap ((pack bs).map fun c => (c.toNat : Int)) (by simp) (fun i hi => by
        rw [Nat.zero_add, hcell i hi]; congr 2
        simp [List.getD, List.getElem?_map, List.getElem?_eq_getElem hi]) 9 Try.underlying9
      rw [this, Bytes.nums_back]
  clear hown h
  go_enter Try.func34, Try.ntmps34
  go_wp2
  go_ret2
  exact ⟨rfl, rfl⟩
end Go.Proofs.Ytjjcgjpmhhkeaaa.WrAll
