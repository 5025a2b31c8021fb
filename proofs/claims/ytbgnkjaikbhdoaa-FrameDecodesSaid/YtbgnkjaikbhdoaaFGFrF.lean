/- frame.fields and frame.Check. (cut to what is reached: wip/tools/slimout2.py) -/
import Derived.Test.YtbgnkjaikbhdoaaFGFrA
import Derived.Test.YtbgnkjaikbhdoaaFGFrCrc
import Derived.Great.BuildSlice
namespace Go.Proofs.Ytbgnkjaikbhdoaa.FrF
open Go.RowKit Go.Proofs.Ytbgnkjaikbhdoaa.FrA Go.Proofs.YtbgnkjaikbhdoaaW.PrintWords
open Go.Proofs.Ytbgnkjaikbhdoaa.Bytes (Str)
structure Tri (w0 w : World) (b : Nat) (c1 c2 c3 : Array Value) : Prop where
  bel : Below b w0 w
  one : w.heap[b]? = some (.cells c1 TF (0, 0))
  two : w.heap[b + 1]? = some (.cells c2 TF (0, 0))
  three : w.heap[b + 2]? = some (.cells c3 TF (0, 0))
theorem Tri.start (w : World) (c1 c2 c3 : Array Value) : Tri w (((w.alloc (.cells c1 TF)).alloc (.cells c2 TF)).alloc (.cells c3 TF)) w.heap.size c1 c2 c3 := by
  refine ⟨(((Below.refl _ _).alloc (Nat.le_refl _) _).alloc (by simp) _).alloc (by simp; omega) _, ?_, ?_, ?_⟩
  · have := heap_alloc_old ((w.alloc (.cells c1 TF)).alloc (.cells c2 TF)) (.cells c3 TF) (r := w.heap.size) (by simp; omega)
    rw [this]; exact heap_alloc2_old _ _ _
  · have := heap_alloc_new (w.alloc (.cells c1 TF)) (.cells c2 TF)
    have h2 := heap_alloc_old ((w.alloc (.cells c1 TF)).alloc (.cells c2 TF)) (.cells c3 TF) (r := w.heap.size + 1) (by simp)
    rw [h2]; simpa using this
  · have := heap_alloc_new ((w.alloc (.cells c1 TF)).alloc (.cells c2 TF)) (.cells c3 TF)
    simpa using this
theorem Tri.later {w0 w w' : World} {b : Nat} {c1 c2 c3 : Array Value} (h : Tri w0 w b c1 c2 c3) (hb : Below w.heap.size w w') : Tri w0 w' b c1 c2 c3 := by
  have l3 : b + 2 < w.heap.size := (Array.getElem?_eq_some_iff.1 h.three).1
  exact ⟨h.bel.trans (hb.mono (by omega)), by rw [hb.block _ (by omega)]; exact h.one, by rw [hb.block _ (by omega)]; exact h.two, by rw [hb.block _ (by omega)]; exact h.three⟩
theorem Tri.set {w0 w : World} {b : Nat} {c1 c2 c3 : Array Value} (h : Tri w0 w b c1 c2 c3) (i : Nat) (v : Value) : Tri w0 (w.setCell ⟨b + 2, i, none⟩ v) b c1 c2 (c3.setIfInBounds i v) := by
  refine ⟨?_, ?_, ?_, heap_setCell_same _ _ _ _ _ _ h.three⟩
  · rw [setCell_eq_setRow _ _ _ _ _ _ _ h.three]; exact below_setRow h.bel (by omega) _
  · rw [heap_setCell_other _ _ _ _ (by simp)]; exact h.one
  · rw [heap_setCell_other _ _ _ _ (by simp)]; exact h.two
theorem Tri.row2 {w0 w : World} {b : Nat} {c1 c2 c3 : Array Value} (h : Tri w0 w b c1 c2 c3) (c : Array Value) : Below b w0 (w.setRow (b + 1) c) ∧ (w.setRow (b + 1) c).heap[b + 1]? = some (.cells c TF (0, 0)) :=
  ⟨below_setRow h.bel (by omega) _, setRow_heap _ _ _ _ _ _ h.two⟩
theorem Tri.cell {w0 w : World} {b : Nat} {c1 c2 c3 : Array Value} (h : Tri w0 w b c1 c2 c3) (i : Nat) {v : Value} (hv : c1[i]? = some v) : w.cell? ⟨b, i, none⟩ = some v := by
  rw [cell_of_row _ _ _ _ _ _ h.one]; exact hv
section
variable {ops : Array Oper} {rest : List Oper} {o : Oper} {a : Act} {w : World} {Q : Exit → Act → World → Prop}
theorem wpList_store_tri (hgd : o.guard = none) (ty : TypeId) (x y : Operand) (ho : o.op = .store ty x y) (hd : o.dst = none) {w0 : World} {b : Nat} {c1 c2 c3 : Array Value} (hT : Hid (Tri w0 w b c1 c2 c3))
    (i : Nat) (hi : i < c3.size) (v : Value) (hx : a.eval x = .pointer (some ⟨b + 2, i, none⟩)) (hy : a.eval y = v) (h1 : v.oneCell' = true) (hs : (Try.prog.info? ty).map (·.size) = some 1)
    (c4 : Array Value) (h4 : c3.setIfInBounds i v = c4) (h : ∀ w', Hid (Tri w0 w' b c1 c2 c4) → wpList Try.prog ops Q rest a w') : wpList Try.prog ops Q (o :: rest) a w :=
  wpList_plain hgd fun _ hK => by
    have hcell : w.cell? ⟨b + 2, i, none⟩ = some c3[i] := by rw [cell_of_row _ _ _ _ _ _ hT.out.three]; simp [hi]
    have hfro : w.frozen? ⟨b + 2, i, none⟩ = false := frozen_of_row _ _ _ _ _ hT.out.three
    have hst : (storeVar ty ⟨b + 2, i, none⟩ v).run Try.prog w = .ok () (w.setCell ⟨b + 2, i, none⟩ v) := by
      have hc : v.cells = #[v] := by cases v <;> first | rfl | cases h1
      cases hq : Try.prog.info? ty with
      | none => simp [hq] at hs
      | some d =>
        have hz : d.size = 1 := by simpa [hq] using hs
        have hst : (store ⟨b + 2, i, none⟩ v).run Try.prog w = .ok () (w.setCell ⟨b + 2, i, none⟩ v) := by
          rw [run_store Try.prog w _ v _ h1, hcell]; simp [hfro]
        have hadd : (⟨b + 2, i, none⟩ : Addr).add 0 = ⟨b + 2, i, none⟩ := by simp [Addr.add]
        simp [storeVar, sizeOf, typeInfo, hq, hc, hz, storeCells, hadd, hst, Sem.run_bind]
    unfold Oper.wp execOp
    simp only [ho, hx, hy, Instr.storeAt, Instr.sureAddr, Sem.run_bind, Sem.run_pure, Result.andThen_ok, hst]
    exact hK _ _ (by rw [hd]; exact h _ (Lib.hid (h4 ▸ hT.out.set i v)))
end
theorem results_cv {fn : Func} {p u : Tmp} {ty : TypeId} (h : fn.results = #[.cell p ty, .tmp u]) (tmps : Array Value) (w : World) (g : Nat) (t : TypeId) (cs : Array Value) (fr : Nat × Nat) (d : TypeDesc) (v : Value) (hv : tmps.getD u undef = v)
    (hp : tmps.getD p undef = .pointer (some ⟨g, 0, none⟩)) (hg : w.heap[g]? = some (.cells cs t fr))
    (hu : Try.prog.underlying ty = some d) (hd : (match d with | .struct _ | .array _ _ => true | _ => false) = true) (hi : (Try.prog.info? ty).map (·.size) = some cs.size) :
    (results fn tmps).run Try.prog w = .ok (.tuple #[.agg cs, v]) w := by
  rw [← hv]; exact results_ct h tmps w g t cs fr d hp hg hu (by cases d <;> first | rfl | exact absurd hd (by simp)) hi
abbrev zs : Array Value := fr 0 0 0 0 0 0 0 0 0 0 0 []
theorem fr_one (k s t l q x y er sl rk ep : Int) (d : List UInt8) : (fr k s t l q x y er sl rk ep d).all (·.oneCell') = true := by simp [Value.oneCell']
theorem fr_size (k s t l q x y er sl rk ep : Int) (d : List UInt8) : zs.size = (fr k s t l q x y er sl rk ep d).size := rfl
set_option maxRecDepth 100000 in
set_option maxHeartbeats 4000000 in
theorem fields_1 (s t l q x y er sl rk ep : Int) (d : List UInt8) (w : World) :
    Calls Try.prog 36 #[.agg (fr 1 s t l q x y er sl rk ep d)] w fun e w' => e = .returned (.tuple #[.agg (fr 1 s t l q 0 0 er sl rk ep []), .bool (tgB s t && inB x 255 && inB y 65535)]) ∧ Below w.heap.size w w' := by
  have HT0 := Lib.hid (Tri.start w (fr 1 s t l q x y er sl rk ep d) zs (fr 1 s t l q x y er sl rk ep d))
  go_enter Try.func36, Try.ntmps36
  go_wp2_with fail
  refine (isTarget_any _ _ _ _ _ _ _ _ _ _ _ _ _).mono ?_
  rintro e w1 ⟨rfl, hw1⟩
  have HT1 := Lib.hid (HT0.out.later (w' := w1) (by rw [hw1]; exact (Below.refl _ _).alloc (Nat.le_refl _) _))
  clear hw1 HT0
  have k5 := HT1.out.cell 5 (v := .int .i64 x) rfl
  have k6 := HT1.out.cell 6 (v := .int .i64 y) rfl
  generalize hb : w.heap.size = b at *
  have HBB := Lib.hid hb
  clear hb
  cases g1 : tgB s t
  · have G1 := Lib.hid g1
    clear k5 k6 g1
    go_wp2_with (first | (refine wpList_store_tri rfl _ _ _ rfl rfl HT1 5 (by simp) (.int .i64 0) rfl rfl rfl (by kernel_rfl) (fr 1 s t l q 0 y er sl rk ep d) rfl ?_; clear HT1; intro w5 HT) | (refine wpList_store_tri rfl _ _ _ rfl rfl HT 6 (by simp) (.int .i64 0) rfl rfl rfl (by kernel_rfl) (fr 1 s t l q 0 0 er sl rk ep d) rfl ?_; clear HT; intro w6 HT) | (refine wpList_store_tri rfl _ _ _ rfl rfl HT 11 (by simp) (.string ⟨#[]⟩) rfl rfl rfl (by kernel_rfl) (fr 1 s t l q 0 0 er sl rk ep []) rfl ?_; clear HT; intro w7 HT) | (refine wpList_load_row rfl TF _ rfl (b + 2) rfl TF (fr 1 s t l q 0 0 er sl rk ep []) (0, 0) _ HT.out.three Try.underlying23 rfl (by kernel_rfl) ?_) | (refine wpList_store_row rfl TF _ _ rfl (b + 1) (fr 1 s t l q 0 0 er sl rk ep []) rfl rfl TF zs HT.out.two (by kernel_rfl) (fr_size ..) (fr_one ..) ?_))
    exact bodyPost_ret (v := .tuple #[.agg (fr 1 s t l q 0 0 er sl rk ep []), .bool (false)]) (results_cv (p := 2) (u := 3) rfl _ _ (b + 1) TF (fr 1 s t l q 0 0 er sl rk ep []) (0, 0) _ _ rfl rfl (HT.out.row2 _).2 Try.underlying23 rfl (by kernel_rfl)) rfl ⟨by rw [G1.out]; rfl, by rw [HBB.out]; exact (HT.out.row2 _).1⟩
  · have G1 := Lib.hid g1
    clear g1
    go_wp2_with fail
    refine (in_any x 255 _).mono ?_
    rintro e w' ⟨rfl, rfl⟩
    cases g2 : inB x 255
    · have G2 := Lib.hid g2
      clear k5 k6 g2
      go_wp2_with (first | (refine wpList_store_tri rfl _ _ _ rfl rfl HT1 5 (by simp) (.int .i64 0) rfl rfl rfl (by kernel_rfl) (fr 1 s t l q 0 y er sl rk ep d) rfl ?_; clear HT1; intro w5 HT) | (refine wpList_store_tri rfl _ _ _ rfl rfl HT 6 (by simp) (.int .i64 0) rfl rfl rfl (by kernel_rfl) (fr 1 s t l q 0 0 er sl rk ep d) rfl ?_; clear HT; intro w6 HT) | (refine wpList_store_tri rfl _ _ _ rfl rfl HT 11 (by simp) (.string ⟨#[]⟩) rfl rfl rfl (by kernel_rfl) (fr 1 s t l q 0 0 er sl rk ep []) rfl ?_; clear HT; intro w7 HT) | (refine wpList_load_row rfl TF _ rfl (b + 2) rfl TF (fr 1 s t l q 0 0 er sl rk ep []) (0, 0) _ HT.out.three Try.underlying23 rfl (by kernel_rfl) ?_) | (refine wpList_store_row rfl TF _ _ rfl (b + 1) (fr 1 s t l q 0 0 er sl rk ep []) rfl rfl TF zs HT.out.two (by kernel_rfl) (fr_size ..) (fr_one ..) ?_))
      exact bodyPost_ret (v := .tuple #[.agg (fr 1 s t l q 0 0 er sl rk ep []), .bool (false)]) (results_cv (p := 2) (u := 3) rfl _ _ (b + 1) TF (fr 1 s t l q 0 0 er sl rk ep []) (0, 0) _ _ rfl rfl (HT.out.row2 _).2 Try.underlying23 rfl (by kernel_rfl)) rfl ⟨by rw [G1.out, G2.out]; rfl, by rw [HBB.out]; exact (HT.out.row2 _).1⟩
    · have G2 := Lib.hid g2
      clear g2
      go_wp2_with fail
      refine (in_any y 65535 _).mono ?_
      rintro e w' ⟨rfl, rfl⟩
      generalize g3 : inB y 65535 = r
      have G3 := Lib.hid g3
      clear k5 k6 g3
      go_wp2_with (first | (refine wpList_store_tri rfl _ _ _ rfl rfl HT1 5 (by simp) (.int .i64 0) rfl rfl rfl (by kernel_rfl) (fr 1 s t l q 0 y er sl rk ep d) rfl ?_; clear HT1; intro w5 HT) | (refine wpList_store_tri rfl _ _ _ rfl rfl HT 6 (by simp) (.int .i64 0) rfl rfl rfl (by kernel_rfl) (fr 1 s t l q 0 0 er sl rk ep d) rfl ?_; clear HT; intro w6 HT) | (refine wpList_store_tri rfl _ _ _ rfl rfl HT 11 (by simp) (.string ⟨#[]⟩) rfl rfl rfl (by kernel_rfl) (fr 1 s t l q 0 0 er sl rk ep []) rfl ?_; clear HT; intro w7 HT) | (refine wpList_load_row rfl TF _ rfl (b + 2) rfl TF (fr 1 s t l q 0 0 er sl rk ep []) (0, 0) _ HT.out.three Try.underlying23 rfl (by kernel_rfl) ?_) | (refine wpList_store_row rfl TF _ _ rfl (b + 1) (fr 1 s t l q 0 0 er sl rk ep []) rfl rfl TF zs HT.out.two (by kernel_rfl) (fr_size ..) (fr_one ..) ?_))
      exact bodyPost_ret (v := .tuple #[.agg (fr 1 s t l q 0 0 er sl rk ep []), .bool (r)]) (results_cv (p := 2) (u := 3) rfl _ _ (b + 1) TF (fr 1 s t l q 0 0 er sl rk ep []) (0, 0) _ _ rfl rfl (HT.out.row2 _).2 Try.underlying23 rfl (by kernel_rfl)) rfl ⟨by rw [G1.out, G2.out, G3.out]; rfl, by rw [HBB.out]; exact (HT.out.row2 _).1⟩
set_option maxRecDepth 100000 in
set_option maxHeartbeats 4000000 in
theorem fields_2 (s t l q x y er sl rk ep : Int) (d : List UInt8) (w : World) :
    Calls Try.prog 36 #[.agg (fr 2 s t l q x y er sl rk ep d)] w fun e w' => e = .returned (.tuple #[.agg (fr 2 s t l q x y 0 sl rk ep d), .bool (tgB s t && errB er)]) ∧ Below w.heap.size w w' := by
  have HT0 := Lib.hid (Tri.start w (fr 2 s t l q x y er sl rk ep d) zs (fr 2 s t l q x y er sl rk ep d))
  go_enter Try.func36, Try.ntmps36
  go_wp2_with fail
  refine (isTarget_any _ _ _ _ _ _ _ _ _ _ _ _ _).mono ?_
  rintro e w1 ⟨rfl, hw1⟩
  have HT1 := Lib.hid (HT0.out.later (w' := w1) (by rw [hw1]; exact (Below.refl _ _).alloc (Nat.le_refl _) _))
  clear hw1 HT0
  have k7 := HT1.out.cell 7 (v := .int .i64 er) rfl
  generalize hb : w.heap.size = b at *
  have HBB := Lib.hid hb
  clear hb
  cases g1 : tgB s t
  · have G1 := Lib.hid g1
    clear k7 g1
    go_wp2_with (first | (refine wpList_store_tri rfl _ _ _ rfl rfl HT1 7 (by simp) (.int .i64 0) rfl rfl rfl (by kernel_rfl) (fr 2 s t l q x y 0 sl rk ep d) rfl ?_; clear HT1; intro w5 HT) | (refine wpList_load_row rfl TF _ rfl (b + 2) rfl TF (fr 2 s t l q x y 0 sl rk ep d) (0, 0) _ HT.out.three Try.underlying23 rfl (by kernel_rfl) ?_) | (refine wpList_store_row rfl TF _ _ rfl (b + 1) (fr 2 s t l q x y 0 sl rk ep d) rfl rfl TF zs HT.out.two (by kernel_rfl) (fr_size ..) (fr_one ..) ?_))
    exact bodyPost_ret (v := .tuple #[.agg (fr 2 s t l q x y 0 sl rk ep d), .bool (false)]) (results_cv (p := 2) (u := 3) rfl _ _ (b + 1) TF (fr 2 s t l q x y 0 sl rk ep d) (0, 0) _ _ rfl rfl (HT.out.row2 _).2 Try.underlying23 rfl (by kernel_rfl)) rfl ⟨by rw [G1.out]; rfl, by rw [HBB.out]; exact (HT.out.row2 _).1⟩
  · have G1 := Lib.hid g1
    clear g1
    go_wp2_with fail
    refine (isError_any er _).mono ?_
    rintro e w' ⟨rfl, rfl⟩
    generalize g3 : errB er = r
    have G3 := Lib.hid g3
    clear k7 g3
    go_wp2_with (first | (refine wpList_store_tri rfl _ _ _ rfl rfl HT1 7 (by simp) (.int .i64 0) rfl rfl rfl (by kernel_rfl) (fr 2 s t l q x y 0 sl rk ep d) rfl ?_; clear HT1; intro w5 HT) | (refine wpList_load_row rfl TF _ rfl (b + 2) rfl TF (fr 2 s t l q x y 0 sl rk ep d) (0, 0) _ HT.out.three Try.underlying23 rfl (by kernel_rfl) ?_) | (refine wpList_store_row rfl TF _ _ rfl (b + 1) (fr 2 s t l q x y 0 sl rk ep d) rfl rfl TF zs HT.out.two (by kernel_rfl) (fr_size ..) (fr_one ..) ?_))
    exact bodyPost_ret (v := .tuple #[.agg (fr 2 s t l q x y 0 sl rk ep d), .bool (r)]) (results_cv (p := 2) (u := 3) rfl _ _ (b + 1) TF (fr 2 s t l q x y 0 sl rk ep d) (0, 0) _ _ rfl rfl (HT.out.row2 _).2 Try.underlying23 rfl (by kernel_rfl)) rfl ⟨by rw [G1.out, G3.out]; rfl, by rw [HBB.out]; exact (HT.out.row2 _).1⟩
set_option maxRecDepth 100000 in
set_option maxHeartbeats 4000000 in
theorem fields_3no (s t l q x y er sl rk ep : Int) (d : List UInt8) (h1 : decide (t = -1) = false) (w : World) :
    Calls Try.prog 36 #[.agg (fr 3 s t l q x y er sl rk ep d)] w fun e w' => e = .returned (.tuple #[.agg (fr 3 s t l q x y er 0 0 0 []), .bool (false)]) ∧ Below w.heap.size w w' := by
  have HT0 := Lib.hid (Tri.start w (fr 3 s t l q x y er sl rk ep d) zs (fr 3 s t l q x y er sl rk ep d))
  have h2 : (t == -1) = false := h1
  go_enter Try.func36, Try.ntmps36
  go_wp2_with fail
  exact bodyPost_ret (v := .tuple #[.agg (fr 3 s t l q x y er 0 0 0 []), .bool (false)]) (results_cv (p := 2) (u := 3) rfl _ _ (w.heap.size + 1) TF (fr 3 s t l q x y er 0 0 0 []) (0, 0) _ _ rfl rfl (Tri.start w (fr 3 s t l q x y er sl rk ep d) (fr 3 s t l q x y er 0 0 0 []) (fr 3 s t l q x y er 0 0 0 [])).two Try.underlying23 rfl (by kernel_rfl)) rfl ⟨rfl, (Tri.start w (fr 3 s t l q x y er sl rk ep d) (fr 3 s t l q x y er 0 0 0 []) (fr 3 s t l q x y er 0 0 0 [])).bel⟩
set_option maxRecDepth 100000 in
set_option maxHeartbeats 4000000 in
theorem fields_3yes (s l q x y er sl rk ep : Int) (d : List UInt8) (w : World) :
    Calls Try.prog 36 #[.agg (fr 3 s (-1) l q x y er sl rk ep d)] w fun e w' => e = .returned (.tuple #[.agg (fr 3 s (-1) l q x y er 0 0 0 []), .bool (inB sl 109951162 && inB rk 65535 && inB ep 65535)]) ∧ Below w.heap.size w w' := by
  have HT0 := Lib.hid (Tri.start w (fr 3 s (-1) l q x y er sl rk ep d) zs (fr 3 s (-1) l q x y er sl rk ep d))
  go_enter Try.func36, Try.ntmps36
  go_wp2_with fail
  refine (in_any sl 109951162 _).mono ?_
  rintro e w1 ⟨rfl, hw1⟩
  have HT1 := Lib.hid (HT0.out.later (w' := w1) (by rw [hw1]; exact Below.refl _ _))
  clear hw1 HT0
  have k9 := HT1.out.cell 9 (v := .int .i64 rk) rfl
  have k10 := HT1.out.cell 10 (v := .int .i64 ep) rfl
  generalize hb : w.heap.size = b at *
  have HBB := Lib.hid hb
  clear hb
  cases g1 : inB sl 109951162
  · have G1 := Lib.hid g1
    clear k9 k10 g1
    go_wp2_with (first | (refine wpList_store_tri rfl _ _ _ rfl rfl HT1 8 (by simp) (.int .i64 0) rfl rfl rfl (by kernel_rfl) (fr 3 s (-1) l q x y er 0 rk ep d) rfl ?_; clear HT1; intro w5 HT) | (refine wpList_store_tri rfl _ _ _ rfl rfl HT 9 (by simp) (.int .i64 0) rfl rfl rfl (by kernel_rfl) (fr 3 s (-1) l q x y er 0 0 ep d) rfl ?_; clear HT; intro w6 HT) | (refine wpList_store_tri rfl _ _ _ rfl rfl HT 10 (by simp) (.int .i64 0) rfl rfl rfl (by kernel_rfl) (fr 3 s (-1) l q x y er 0 0 0 d) rfl ?_; clear HT; intro w7 HT) | (refine wpList_store_tri rfl _ _ _ rfl rfl HT 11 (by simp) (.string ⟨#[]⟩) rfl rfl rfl (by kernel_rfl) (fr 3 s (-1) l q x y er 0 0 0 []) rfl ?_; clear HT; intro w8 HT) | (refine wpList_load_row rfl TF _ rfl (b + 2) rfl TF (fr 3 s (-1) l q x y er 0 0 0 []) (0, 0) _ HT.out.three Try.underlying23 rfl (by kernel_rfl) ?_) | (refine wpList_store_row rfl TF _ _ rfl (b + 1) (fr 3 s (-1) l q x y er 0 0 0 []) rfl rfl TF zs HT.out.two (by kernel_rfl) (fr_size ..) (fr_one ..) ?_))
    exact bodyPost_ret (v := .tuple #[.agg (fr 3 s (-1) l q x y er 0 0 0 []), .bool (false)]) (results_cv (p := 2) (u := 3) rfl _ _ (b + 1) TF (fr 3 s (-1) l q x y er 0 0 0 []) (0, 0) _ _ rfl rfl (HT.out.row2 _).2 Try.underlying23 rfl (by kernel_rfl)) rfl ⟨by rw [G1.out]; rfl, by rw [HBB.out]; exact (HT.out.row2 _).1⟩
  · have G1 := Lib.hid g1
    clear g1
    go_wp2_with fail
    refine (in_any rk 65535 _).mono ?_
    rintro e w' ⟨rfl, rfl⟩
    cases g2 : inB rk 65535
    · have G2 := Lib.hid g2
      clear k9 k10 g2
      go_wp2_with (first | (refine wpList_store_tri rfl _ _ _ rfl rfl HT1 8 (by simp) (.int .i64 0) rfl rfl rfl (by kernel_rfl) (fr 3 s (-1) l q x y er 0 rk ep d) rfl ?_; clear HT1; intro w5 HT) | (refine wpList_store_tri rfl _ _ _ rfl rfl HT 9 (by simp) (.int .i64 0) rfl rfl rfl (by kernel_rfl) (fr 3 s (-1) l q x y er 0 0 ep d) rfl ?_; clear HT; intro w6 HT) | (refine wpList_store_tri rfl _ _ _ rfl rfl HT 10 (by simp) (.int .i64 0) rfl rfl rfl (by kernel_rfl) (fr 3 s (-1) l q x y er 0 0 0 d) rfl ?_; clear HT; intro w7 HT) | (refine wpList_store_tri rfl _ _ _ rfl rfl HT 11 (by simp) (.string ⟨#[]⟩) rfl rfl rfl (by kernel_rfl) (fr 3 s (-1) l q x y er 0 0 0 []) rfl ?_; clear HT; intro w8 HT) | (refine wpList_load_row rfl TF _ rfl (b + 2) rfl TF (fr 3 s (-1) l q x y er 0 0 0 []) (0, 0) _ HT.out.three Try.underlying23 rfl (by kernel_rfl) ?_) | (refine wpList_store_row rfl TF _ _ rfl (b + 1) (fr 3 s (-1) l q x y er 0 0 0 []) rfl rfl TF zs HT.out.two (by kernel_rfl) (fr_size ..) (fr_one ..) ?_))
      exact bodyPost_ret (v := .tuple #[.agg (fr 3 s (-1) l q x y er 0 0 0 []), .bool (false)]) (results_cv (p := 2) (u := 3) rfl _ _ (b + 1) TF (fr 3 s (-1) l q x y er 0 0 0 []) (0, 0) _ _ rfl rfl (HT.out.row2 _).2 Try.underlying23 rfl (by kernel_rfl)) rfl ⟨by rw [G1.out, G2.out]; rfl, by rw [HBB.out]; exact (HT.out.row2 _).1⟩
    · have G2 := Lib.hid g2
      clear g2
      go_wp2_with fail
      refine (in_any ep 65535 _).mono ?_
      rintro e w' ⟨rfl, rfl⟩
      generalize g3 : inB ep 65535 = r
      have G3 := Lib.hid g3
      clear k9 k10 g3
      go_wp2_with (first | (refine wpList_store_tri rfl _ _ _ rfl rfl HT1 8 (by simp) (.int .i64 0) rfl rfl rfl (by kernel_rfl) (fr 3 s (-1) l q x y er 0 rk ep d) rfl ?_; clear HT1; intro w5 HT) | (refine wpList_store_tri rfl _ _ _ rfl rfl HT 9 (by simp) (.int .i64 0) rfl rfl rfl (by kernel_rfl) (fr 3 s (-1) l q x y er 0 0 ep d) rfl ?_; clear HT; intro w6 HT) | (refine wpList_store_tri rfl _ _ _ rfl rfl HT 10 (by simp) (.int .i64 0) rfl rfl rfl (by kernel_rfl) (fr 3 s (-1) l q x y er 0 0 0 d) rfl ?_; clear HT; intro w7 HT) | (refine wpList_store_tri rfl _ _ _ rfl rfl HT 11 (by simp) (.string ⟨#[]⟩) rfl rfl rfl (by kernel_rfl) (fr 3 s (-1) l q x y er 0 0 0 []) rfl ?_; clear HT; intro w8 HT) | (refine wpList_load_row rfl TF _ rfl (b + 2) rfl TF (fr 3 s (-1) l q x y er 0 0 0 []) (0, 0) _ HT.out.three Try.underlying23 rfl (by kernel_rfl) ?_) | (refine wpList_store_row rfl TF _ _ rfl (b + 1) (fr 3 s (-1) l q x y er 0 0 0 []) rfl rfl TF zs HT.out.two (by kernel_rfl) (fr_size ..) (fr_one ..) ?_))
      exact bodyPost_ret (v := .tuple #[.agg (fr 3 s (-1) l q x y er 0 0 0 []), .bool (r)]) (results_cv (p := 2) (u := 3) rfl _ _ (b + 1) TF (fr 3 s (-1) l q x y er 0 0 0 []) (0, 0) _ _ rfl rfl (HT.out.row2 _).2 Try.underlying23 rfl (by kernel_rfl)) rfl ⟨by rw [G1.out, G2.out, G3.out]; rfl, by rw [HBB.out]; exact (HT.out.row2 _).1⟩
set_option maxRecDepth 100000 in
set_option maxHeartbeats 4000000 in
theorem fields_4all (s l q x y er sl rk ep : Int) (d : List UInt8) (w : World) :
    Calls Try.prog 36 #[.agg (fr 4 s (-1) l q x y er sl rk ep d)] w fun e w' => e = .returned (.tuple #[.agg (fr 4 s (-1) l q x y er sl rk ep []), .bool (true)]) ∧ Below w.heap.size w w' := by
  have HT0 := Lib.hid (Tri.start w (fr 4 s (-1) l q x y er sl rk ep d) zs (fr 4 s (-1) l q x y er sl rk ep d))
  go_enter Try.func36, Try.ntmps36
  go_wp2_with fail
  exact bodyPost_ret (v := .tuple #[.agg (fr 4 s (-1) l q x y er sl rk ep []), .bool (true)]) (results_cv (p := 2) (u := 3) rfl _ _ (w.heap.size + 1) TF (fr 4 s (-1) l q x y er sl rk ep []) (0, 0) _ _ rfl rfl (Tri.start w (fr 4 s (-1) l q x y er sl rk ep d) (fr 4 s (-1) l q x y er sl rk ep []) (fr 4 s (-1) l q x y er sl rk ep [])).two Try.underlying23 rfl (by kernel_rfl)) rfl ⟨rfl, (Tri.start w (fr 4 s (-1) l q x y er sl rk ep d) (fr 4 s (-1) l q x y er sl rk ep []) (fr 4 s (-1) l q x y er sl rk ep [])).bel⟩
set_option maxRecDepth 100000 in
set_option maxHeartbeats 4000000 in
theorem fields_4one (s t l q x y er sl rk ep : Int) (d : List UInt8) (h1 : decide (t = -1) = false) (w : World) :
    Calls Try.prog 36 #[.agg (fr 4 s t l q x y er sl rk ep d)] w fun e w' => e = .returned (.tuple #[.agg (fr 4 s t l q x y er sl rk ep []), .bool (tgB s t)]) ∧ Below w.heap.size w w' := by
  have HT0 := Lib.hid (Tri.start w (fr 4 s t l q x y er sl rk ep d) zs (fr 4 s t l q x y er sl rk ep d))
  have h2 : (t == -1) = false := h1
  go_enter Try.func36, Try.ntmps36
  go_wp2_with fail
  refine (isTarget_any _ _ _ _ _ _ _ _ _ _ _ _ _).mono ?_
  rintro e w1 ⟨rfl, hw1⟩
  have HT1 := Lib.hid (HT0.out.later (w' := w1) (by rw [hw1]; exact (Below.refl _ _).alloc (Nat.le_refl _) _))
  clear hw1 HT0
  generalize hb : w.heap.size = b at *
  have HBB := Lib.hid hb
  clear hb
  generalize g3 : tgB s t = r
  have G3 := Lib.hid g3
  clear g3
  go_wp2_with (first | (refine wpList_store_tri rfl _ _ _ rfl rfl HT1 11 (by simp) (.string ⟨#[]⟩) rfl rfl rfl (by kernel_rfl) (fr 4 s t l q x y er sl rk ep []) rfl ?_; clear HT1; intro w5 HT) | (refine wpList_load_row rfl TF _ rfl (b + 2) rfl TF (fr 4 s t l q x y er sl rk ep []) (0, 0) _ HT.out.three Try.underlying23 rfl (by kernel_rfl) ?_) | (refine wpList_store_row rfl TF _ _ rfl (b + 1) (fr 4 s t l q x y er sl rk ep []) rfl rfl TF zs HT.out.two (by kernel_rfl) (fr_size ..) (fr_one ..) ?_))
  exact bodyPost_ret (v := .tuple #[.agg (fr 4 s t l q x y er sl rk ep []), .bool (r)]) (results_cv (p := 2) (u := 3) rfl _ _ (b + 1) TF (fr 4 s t l q x y er sl rk ep []) (0, 0) _ _ rfl rfl (HT.out.row2 _).2 Try.underlying23 rfl (by kernel_rfl)) rfl ⟨by rw [G3.out], by rw [HBB.out]; exact (HT.out.row2 _).1⟩
set_option maxRecDepth 100000 in
set_option maxHeartbeats 4000000 in
theorem fields_no (k s t l q x y er sl rk ep : Int) (d : List UInt8) (j1 : decide (k = 1) = false) (j2 : decide (k = 2) = false) (j3 : decide (k = 3) = false) (j4 : decide (k = 4) = false) (w : World) :
    Calls Try.prog 36 #[.agg (fr k s t l q x y er sl rk ep d)] w fun e w' => e = .returned (.tuple #[.agg (fr k s t l q x y er sl rk ep d), .bool (false)]) ∧ Below w.heap.size w w' := by
  have HT0 := Lib.hid (Tri.start w (fr k s t l q x y er sl rk ep d) zs (fr k s t l q x y er sl rk ep d))
  have i1 : (k == 1) = false := j1
  have i2 : (k == 2) = false := j2
  have i3 : (k == 3) = false := j3
  have i4 : (k == 4) = false := j4
  go_enter Try.func36, Try.ntmps36
  go_wp2_with fail
  exact bodyPost_ret (v := .tuple #[.agg (fr k s t l q x y er sl rk ep d), .bool (false)]) (results_cv (p := 2) (u := 3) rfl _ _ (w.heap.size + 1) TF (fr k s t l q x y er sl rk ep d) (0, 0) _ _ rfl rfl (Tri.start w (fr k s t l q x y er sl rk ep d) (fr k s t l q x y er sl rk ep d) (fr k s t l q x y er sl rk ep d)).two Try.underlying23 rfl (by kernel_rfl)) rfl ⟨rfl, (Tri.start w (fr k s t l q x y er sl rk ep d) (fr k s t l q x y er sl rk ep d) (fr k s t l q x y er sl rk ep d)).bel⟩
end Go.Proofs.Ytbgnkjaikbhdoaa.FrF
