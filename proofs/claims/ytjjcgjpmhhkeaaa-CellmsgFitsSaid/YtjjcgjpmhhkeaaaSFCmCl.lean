/- slices.Clone of places. (cut to what is reached: wip/tools/slimout2.py) -/
import Derived.Test.YtjjcgjpmhhkeaaaSFCmA
import Derived.Laws.AppendOwn
import Derived.WalkSpells
import Derived.Lib.LazyBuf
namespace Go.Proofs.Ytjjcgjpmhhkeaaa.CmCl
set_option linter.unusedSimpArgs false
set_option linter.unusedVariables false
open Go.RowKit Go.Proofs.Ytjjcgjpmhhkeaaa.CmF Go.Proofs.Ytjjcgjpmhhkeaaa.CmS Go.Proofs.Ytjjcgjpmhhkeaaa.CmA Go.Proofs.YtjjcgjpmhhkeaaaW.PrintWords
theorem info37 : (Try.prog.info? TP).map (fun i => (i.zero, i.size, i.bytes)) = some (some (.agg #[.int .i64 0, .int .i64 0]), 2, 16) := by kernel_rfl
def New (l : List (Int × Int)) (w : World) (e : Ending) (w' : World) : Prop := ∃ v : Value, e = .returned v ∧ kp.R TP w' w.heap.size (fun _ => True) v l ∧ Below w.heap.size w w'
set_option maxRecDepth 100000 in
set_option maxHeartbeats 4000000 in
theorem build0 {ops : Array Oper} {Q : Exit → Act → World → Prop} {rest : List Oper} {a : Act} {w : World} {o : Oper} (hgd : o.guard = none) (ho : o.op = .buildSlice 22 0 #[])
    (h : ∀ v W, kp.R TP W w.heap.size (fun _ => True) v [] → Below w.heap.size w W → w.heap.size ≤ W.heap.size → wpList Try.prog ops Q rest (a.put o.dst v) W) : wpList Try.prog ops Q (o :: rest) a w := by
  have hR : kp.R TP (w.alloc (.cells #[] TP)) w.heap.size (fun _ => True) (.slice (some ⟨w.heap.size, 0, none⟩) 0 0) [] :=
    ⟨fun _ _ => trivial, OwnRow.lit w w.heap.size (inner := []) (ps := []) (Reps.none _ _) (Nat.le_refl _) (by simp)⟩
  refine wpList_plain hgd fun K hK => ?_
  unfold Oper.wp execOp
  simp only [ho]
  have := hK _ _ (h _ _ hR ((Below.refl _ w).alloc (Nat.le_refl _) _) (by simp))
  go_simp
  exact this
theorem app0 {ops : Array Oper} {Q : Exit → Act → World → Prop} {rest : List Oper} {a : Act} {w0 W : World} {o : Oper} (base : Nat) (v : Value) (l : List (Int × Int)) (A : Option Addr) (c : Nat) (hgd : o.guard = none)
    (ho : o.op = .call { callee := .builtin .append, args := #[.tmp 5, .tmp 6], argTypes := #[22, 22] }) (hs : a.eval (.tmp 5) = v) (hx : a.eval (.tmp 6) = .slice A l.length c)
    (HR : kp.R TP W base (fun _ => True) v []) (hC : Sp W A l) (HB : Below base w0 W) (hbase : base ≤ W.heap.size) (hl : l.length * 16 ≤ 140737488355328)
    (h : ∀ v1 w1, kp.R TP w1 base (fun _ => True) v1 l → Below base w0 w1 → wpList Try.prog ops Q rest (a.put o.dst v1) w1) : wpList Try.prog ops Q (o :: rest) a W := by
  refine Kd.R_append_rows kp base hgd (.tmp 5) (.tmp 6) 22 TP (.agg #[.int .i64 0, .int .i64 0]) 16 ho Try.underlying22 info37 rfl (by decide) (by decide) v [] l A l.length c (fun _ => True) (fun _ => False) hs hx HR hC ?c1 (fun _ hk => hk.elim) (fun _ _ => trivial) HB hbase (by simpa using hl) (fun v1 w1 h1 h2 _ _ => h v1 w1 (by simpa using h1) h2)
  intro x cs hk
  obtain ⟨c1, c2, rfl, h1, h2⟩ := hk
  exact ⟨c1, c2, rfl, h1, h2⟩
set_option maxRecDepth 100000 in
set_option maxHeartbeats 4000000 in
theorem clone_some (ad : Addr) (c : Nat) (l : List (Int × Int)) (w : World) (h : Sp w (some ad) l) (hb : l.length * 16 ≤ 140737488355328) :
    Calls Try.prog 42 #[.slice (some ad) l.length c] w (New l w) := by
  have hlen := Sp.len h
  have HH := Lib.hid h
  have he : ∀ w, (binOp .eql 22 (.slice (some ad) l.length c) (.slice none 0 0)).run Try.prog w = .ok (.bool false) w := fun w => Lib.run_eql_slice_nil w _ _ (some ad) _ _ _ _ Try.underlying22
  clear h
  go_enter Try.func42, Try.ntmps42
  go_wp2_with (first
    | ((with_reducible refine gate_dst (N := 5) rfl ?_); go_loud (refine build0 rfl rfl ?_; intro v W HRv HBv hszv))
    | ((with_reducible refine gate_dst (N := 7) rfl ?_); go_loud (refine app0 (w0 := w) w.heap.size v l (some ad) c rfl rfl rfl rfl HRv ((HH.out).below (HBv)) HBv hszv hb ?_; intro v1 w1 HR1 HB1)))
  first | go_end0 | ((try simp only [Exit.inBlock, Exit.then]); refine bodyPost_ret (results_tmp (t := 2) rfl _ _ _) rfl ?_)
  exact ⟨v1, rfl, HR1, HB1⟩
theorem clone_none (c : Nat) (w : World) :
    Calls Try.prog 42 #[.slice none 0 c] w (New [] w) := by
  have he : ∀ w, (binOp .eql 22 (.slice none 0 c) (.slice none 0 0)).run Try.prog w = .ok (.bool true) w := fun w => Lib.run_eql_slice_nil w _ _ none _ _ _ _ Try.underlying22
  go_enter Try.func42, Try.ntmps42
  go_wp2
  first | go_end0 | ((try simp only [Exit.inBlock, Exit.then]); refine bodyPost_ret (results_tmp (t := 2) rfl _ _ _) rfl ?_)
  exact ⟨_, rfl, Kd.R_nil _ _ _ _ _, Below.refl _ _⟩
theorem clone_any (A : Option Addr) (c : Nat) (l : List (Int × Int)) (w : World) (h : Sp w A l) (hb : l.length * 16 ≤ 140737488355328) :
    Calls Try.prog 42 #[.slice A l.length c] w (New l w) := by
  rcases A with _ | ad
  · have h0 : l.length = 0 := by
      rcases Nat.eq_zero_or_pos l.length with h0 | h0
      · exact h0
      · obtain ⟨ad, h, _⟩ := h.2.2 h0
        cases h
    obtain rfl := List.eq_nil_of_length_eq_zero h0
    exact clone_none c w
  · exact clone_some ad c l w h hb
end Go.Proofs.Ytjjcgjpmhhkeaaa.CmCl
