/- frame.Check. (cut to what is reached: wip/tools/slimout2.py) -/
import Derived.Test.YtbgnkjaikbhdoaaFGFrF
import Derived.Test.YtbgnkjaikbhdoaaFGWx
import Derived.Laws.StructEq
namespace Go.Proofs.Ytbgnkjaikbhdoaa.FrC
open Go.RowKit Go.Proofs.Ytbgnkjaikbhdoaa.FrA Go.Proofs.Ytbgnkjaikbhdoaa.FrF Go.Proofs.YtbgnkjaikbhdoaaW.PrintWords Go.Proofs.YtbgnkjaikbhdoaaW.PrintWords
open Go.Proofs.Ytbgnkjaikbhdoaa.Bytes (Str)
def eqF (x0 y0 x1 y1 x2 y2 x3 y3 x4 y4 x5 y5 x6 y6 x7 y7 x8 y8 x9 y9 x10 y10 : Int) (x11 y11 : ByteArray) : Bool :=
  x0 == y0 && (x1 == y1 && (x2 == y2 && (x3 == y3 && (x4 == y4 && (x5 == y5 && (x6 == y6 && (x7 == y7 && (x8 == y8 && (x9 == y9 && (x10 == y10 && (x11.toList == y11.toList)))))))))))
theorem eqFr (d : Nat) (w : World) (x0 y0 x1 y1 x2 y2 x3 y3 x4 y4 x5 y5 x6 y6 x7 y7 x8 y8 x9 y9 x10 y10 : Int) (x11 y11 : ByteArray) :
    (Op.equalIn (d + 2) TF (.agg #[.int .i64 x0, .int .i64 x1, .int .i64 x2, .int .i64 x3, .int .i64 x4, .int .i64 x5, .int .i64 x6, .int .i64 x7, .int .i64 x8, .int .i64 x9, .int .i64 x10, .string x11]) (.agg #[.int .i64 y0, .int .i64 y1, .int .i64 y2, .int .i64 y3, .int .i64 y4, .int .i64 y5, .int .i64 y6, .int .i64 y7, .int .i64 y8, .int .i64 y9, .int .i64 y10, .string y11])).run Try.prog w = .ok (eqF x0 y0 x1 y1 x2 y2 x3 y3 x4 y4 x5 y5 x6 y6 x7 y7 x8 y8 x9 y9 x10 y10 x11 y11) w := by
  unfold eqF
  refine eqA_of Try.underlying23 (by kernel_rfl) ?_
  refine eqf_cons (by rfl) (by go_simp; rfl) (by go_simp; rfl) (by go_simp) ?_
  refine eqf_cons (by rfl) (by go_simp; rfl) (by go_simp; rfl) (by go_simp) ?_
  refine eqf_cons (by rfl) (by go_simp; rfl) (by go_simp; rfl) (by go_simp) ?_
  refine eqf_cons (by rfl) (by go_simp; rfl) (by go_simp; rfl) (by go_simp) ?_
  refine eqf_cons (by rfl) (by go_simp; rfl) (by go_simp; rfl) (by go_simp) ?_
  refine eqf_cons (by rfl) (by go_simp; rfl) (by go_simp; rfl) (by go_simp) ?_
  refine eqf_cons (by rfl) (by go_simp; rfl) (by go_simp; rfl) (by go_simp) ?_
  refine eqf_cons (by rfl) (by go_simp; rfl) (by go_simp; rfl) (by go_simp) ?_
  refine eqf_cons (by rfl) (by go_simp; rfl) (by go_simp; rfl) (by go_simp) ?_
  refine eqf_cons (by rfl) (by go_simp; rfl) (by go_simp; rfl) (by go_simp) ?_
  refine eqf_cons (by rfl) (by go_simp; rfl) (by go_simp; rfl) (by go_simp) ?_
  exact eqf_last (by rfl) (by go_simp; rfl) (by go_simp; rfl) (by go_simp)
theorem str_eq (a b : List UInt8) : ((Str a).toList == (Str b).toList) = decide (a = b) := by
  have e : ∀ l : List UInt8, (Str l).toList = l := fun l => by rw [ByteArray.toList_eq]
  rw [e, e]; by_cases h : a = b <;> simp [h]
def zeroB (x y er sl rk ep : Int) (d : List UInt8) : Bool := decide (x = 0 ∧ y = 0 ∧ er = 0 ∧ sl = 0 ∧ rk = 0 ∧ ep = 0 ∧ d = [])
theorem eqF_zero (k s t l q x y er sl rk ep : Int) (d : List UInt8) : eqF k k s s t t l l q q x 0 y 0 er 0 sl 0 rk 0 ep 0 (Str d) (⟨#[]⟩ : ByteArray) = zeroB x y er sl rk ep d := by
  unfold eqF zeroB
  rw [show (⟨#[]⟩ : ByteArray) = Str [] from rfl, str_eq]
  simp [Bool.beq_eq_decide_eq]
attribute [local go_sem high] eqFr
set_option maxRecDepth 100000 in
set_option maxHeartbeats 4000000 in
theorem check_of (k s t l q x y er sl rk ep : Int) (d : List UInt8) (x' y' er' sl' rk' ep' : Int) (d' : List UInt8) (ok : Bool)
    (hf : ∀ w, Calls Try.prog 36 #[.agg (fr k s t l q x y er sl rk ep d)] w fun e w' => e = .returned (.tuple #[.agg (fr k s t l q x' y' er' sl' rk' ep' d'), .bool ok]) ∧ Below w.heap.size w w') (c : Int) (hc : (if ok && zeroB x' y' er' sl' rk' ep' d' && inB s 31 && inB l 255 && inB q 255 then 0 else 1) = c) (w : World) :
    Calls Try.prog 17 #[.agg (fr k s t l q x y er sl rk ep d)] w fun e w' => e = .returned (.int .i64 c) ∧ Below w.heap.size w w' := by
  have HC := Lib.hid hc
  clear hc
  have hb0 : Below w.heap.size w (w.alloc (.cells (fr k s t l q x y er sl rk ep d) TF)) := (Below.refl _ _).alloc (Nat.le_refl _) _
  go_enter Try.func17, Try.ntmps17
  go_wp2_with fail
  refine (hf _).mono ?_
  rintro e w1 ⟨rfl, hb⟩
  have hw1 : w1.heap[w.heap.size]? = some (.cells (fr k s t l q x y er sl rk ep d) TF) := by rw [hb.block _ (by simp)]; exact heap_alloc_new _ _
  have HB := Lib.hid (hb0.trans (hb.mono (by simp)))
  have hlt : w.heap.size < w1.heap.size := (Array.getElem?_eq_some_iff.1 hw1).1
  have c0 := cell_of_row w1 _ 0 _ _ _ hw1
  have c1 := cell_of_row w1 _ 1 _ _ _ hw1
  have c2 := cell_of_row w1 _ 2 _ _ _ hw1
  have c3 := cell_of_row w1 _ 3 _ _ _ hw1
  have c4 := cell_of_row w1 _ 4 _ _ _ hw1
  simp only [fr] at c0 c1 c2 c3 c4
  clear hw1 hb hb0 hf
  have fin : ∀ o1 o2 : Obj, Below w.heap.size w ((w1.alloc o1).alloc o2) := fun o1 o2 => (HB.out.alloc (by omega) _).alloc (by simp; omega) _
  have FIN := Lib.hid fin
  clear HB fin
  cases ok
  · go_wp2_with fail
    go_ret
    exact ⟨by rw [← HC.out]; rfl, FIN.out _ _⟩
  · have hq := eqF_zero k s t l q x' y' er' sl' rk' ep' d'
    cases g : zeroB x' y' er' sl' rk' ep' d'
    · rw [g] at hq
      have G0 := Lib.hid g
      clear g
      go_wp2_with fail
      go_ret
      exact ⟨by rw [← HC.out, G0.out]; rfl, FIN.out _ _⟩
    · rw [g] at hq
      have G0 := Lib.hid g
      clear g
      go_wp2_with fail
      refine (in_any s 31 _).mono ?_
      rintro e w' ⟨rfl, rfl⟩
      cases g : inB s 31
      · have G1 := Lib.hid g
        clear g
        go_wp2_with fail
        go_ret
        exact ⟨by rw [← HC.out, G0.out, G1.out]; rfl, FIN.out _ _⟩
      · have G1 := Lib.hid g
        clear g
        go_wp2_with fail
        refine (in_any l 255 _).mono ?_
        rintro e w' ⟨rfl, rfl⟩
        cases g : inB l 255
        · have G2 := Lib.hid g
          clear g
          go_wp2_with fail
          go_ret
          exact ⟨by rw [← HC.out, G0.out, G1.out, G2.out]; rfl, FIN.out _ _⟩
        · have G2 := Lib.hid g
          clear g
          go_wp2_with fail
          refine (in_any q 255 _).mono ?_
          rintro e w' ⟨rfl, rfl⟩
          cases g : inB q 255
          · have G3 := Lib.hid g
            clear g
            go_wp2_with fail
            go_ret
            exact ⟨by rw [← HC.out, G0.out, G1.out, G2.out, G3.out]; rfl, FIN.out _ _⟩
          · have G3 := Lib.hid g
            clear g
            go_wp2_with fail
            go_ret
            exact ⟨by rw [← HC.out, G0.out, G1.out, G2.out, G3.out]; rfl, FIN.out _ _⟩
def okF (k s t l q x y er sl rk ep : Int) (d : List UInt8) : Bool :=
  (if k = 1 then tgB s t && inB x 255 && inB y 65535 && zeroB 0 0 er sl rk ep []
   else if k = 2 then tgB s t && errB er && zeroB x y 0 sl rk ep d
   else if k = 3 then decide (t = -1) && inB sl 109951162 && inB rk 65535 && inB ep 65535 && zeroB x y er 0 0 0 []
   else if k = 4 then (decide (t = -1) || tgB s t) && zeroB x y er sl rk ep []
   else false) && inB s 31 && inB l 255 && inB q 255
def ckF (k s t l q x y er sl rk ep : Int) (d : List UInt8) : Int := if okF k s t l q x y er sl rk ep d then 0 else 1
theorem check_any (k s t l q x y er sl rk ep : Int) (d : List UInt8) (w : World) :
    Calls Try.prog 17 #[.agg (fr k s t l q x y er sl rk ep d)] w fun e w' => e = .returned (.int .i64 (ckF k s t l q x y er sl rk ep d)) ∧ Below w.heap.size w w' := by
  unfold ckF okF
  by_cases h1 : k = 1
  · subst h1
    simpa [Bool.and_assoc] using check_of 1 s t l q x y er sl rk ep d _ _ _ _ _ _ _ _ (fun w => fields_1 s t l q x y er sl rk ep d w) _ rfl w
  by_cases h2 : k = 2
  · subst h2
    simpa [Bool.and_assoc] using check_of 2 s t l q x y er sl rk ep d _ _ _ _ _ _ _ _ (fun w => fields_2 s t l q x y er sl rk ep d w) _ rfl w
  by_cases h3 : k = 3
  · subst h3
    by_cases h : t = -1
    · subst h
      simpa [Bool.and_assoc] using check_of 3 s (-1) l q x y er sl rk ep d _ _ _ _ _ _ _ _ (fun w => fields_3yes s l q x y er sl rk ep d w) _ rfl w
    · simpa [h, Bool.and_assoc] using check_of 3 s t l q x y er sl rk ep d _ _ _ _ _ _ _ _ (fun w => fields_3no s t l q x y er sl rk ep d (decide_eq_false h) w) _ rfl w
  by_cases h4 : k = 4
  · subst h4
    by_cases h : t = -1
    · subst h
      simpa [Bool.and_assoc] using check_of 4 s (-1) l q x y er sl rk ep d _ _ _ _ _ _ _ _ (fun w => fields_4all s l q x y er sl rk ep d w) _ rfl w
    · simpa [h, Bool.and_assoc] using check_of 4 s t l q x y er sl rk ep d _ _ _ _ _ _ _ _ (fun w => fields_4one s t l q x y er sl rk ep d (decide_eq_false h) w) _ rfl w
  · simpa [h1, h2, h3, h4] using check_of k s t l q x y er sl rk ep d _ _ _ _ _ _ _ _ (fun w => fields_no k s t l q x y er sl rk ep d (decide_eq_false h1) (decide_eq_false h2) (decide_eq_false h3) (decide_eq_false h4) w) _ rfl w
end Go.Proofs.Ytbgnkjaikbhdoaa.FrC
