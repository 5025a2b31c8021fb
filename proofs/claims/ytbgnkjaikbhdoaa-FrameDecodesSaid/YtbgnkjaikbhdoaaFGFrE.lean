/- frame.Encode, out of frame.Check and frame.pen.frame. (cut to what is reached: wip/tools/slimout2.py) -/
import Derived.Test.YtbgnkjaikbhdoaaFGFrA
import Derived.Test.YtbgnkjaikbhdoaaFGFrCrc
import Derived.Test.YtbgnkjaikbhdoaaFGPenFr
namespace Go.Proofs.Ytbgnkjaikbhdoaa.FrE
open Go.RowKit Go.Proofs.Ytbgnkjaikbhdoaa.Pack Go.Proofs.Ytbgnkjaikbhdoaa.Wr Go.Proofs.Ytbgnkjaikbhdoaa.WrPut Go.Proofs.Ytbgnkjaikbhdoaa.WrAll Go.Proofs.Ytbgnkjaikbhdoaa.WrText Go.Proofs.Ytbgnkjaikbhdoaa.PenW Go.Proofs.Ytbgnkjaikbhdoaa.PenF Go.Proofs.Ytbgnkjaikbhdoaa.PenFr Go.Proofs.Ytbgnkjaikbhdoaa.FrA Go.Proofs.Ytbgnkjaikbhdoaa.FrCrc Go.Proofs.Ytbgnkjaikbhdoaa.Alg
open Go.Proofs.Ytbgnkjaikbhdoaa.Bytes (Str)
abbrev Chk (cs : Array Value) (c : Int) : Prop := ∀ w : World, Calls Try.prog 17 #[.agg cs] w fun e w' => e = .returned (.int .i64 c) ∧ Below w.heap.size w w'
abbrev Writes (cs : Array Value) (bits : List Bool) (err : Int) : Prop := ∀ (B g gf : Nat) (G : List (Nat × Obj)) (w : World), Wr B G w g [] 0 → (gf, .cells cs TF) ∈ G →
  Calls Try.prog 27 #[Pw g, .pointer (some ⟨gf, 0, none⟩)] w fun e w' => e = .returned (.bool true) ∧ Wr B G w' g bits err ∧ Below B w w'
theorem fr_not8 (cs : Array Value) : ¬ T8 (.cells cs TF) :=
  not8 (by decide)
set_option maxRecDepth 100000 in
set_option maxHeartbeats 4000000 in
theorem enc_bad (k s t l q x y er sl rk ep : Int) (d : List UInt8) (hc : Chk (fr k s t l q x y er sl rk ep d) 1) (w : World) :
    Calls Try.prog 11 #[.agg (fr k s t l q x y er sl rk ep d)] w fun e w' => e = .returned (.tuple #[.string (Str []), .int .i64 1]) ∧ Below w.heap.size w w' := by
  have hb0 : Below w.heap.size w (w.alloc (.cells (fr k s t l q x y er sl rk ep d) TF)) := (Below.refl _ _).alloc (Nat.le_refl _) _
  go_enter Try.func11, Try.ntmps11
  go_wp2_with fail
  refine (hc _).mono ?_
  rintro e w1 ⟨rfl, hb⟩
  have hb' := hb0.trans (hb.mono (by simp))
  clear hb hb0
  go_wp2_with fail
  go_ret2
  exact ⟨rfl, hb'⟩
theorem start (k s t l q x y er sl rk ep : Int) (d : List UInt8) (w w1 w2 : World) (hb : Below (w.alloc (.cells (fr k s t l q x y er sl rk ep d) TF)).heap.size (w.alloc (.cells (fr k s t l q x y er sl rk ep d) TF)) w1)
    (h2 : Wr w.heap.size [] w2 w1.heap.size [] 0) (b2 : Below w1.heap.size w1 w2) :
    Wr w.heap.size [(w.heap.size, .cells (fr k s t l q x y er sl rk ep d) TF)] w2 w1.heap.size [] 0 ∧ Below w.heap.size w w2 := by
  have hs := hb.size
  rw [show (w.alloc (.cells (fr k s t l q x y er sl rk ep d) TF)).heap.size = w.heap.size + 1 by simp] at hs
  have e1 : w1.heap[w.heap.size]? = some (.cells (fr k s t l q x y er sl rk ep d) TF) := by
    rw [hb.block _ (by simp)]; exact heap_alloc_new _ _
  have e2 : w2.heap[w.heap.size]? = some (.cells (fr k s t l q x y er sl rk ep d) TF) := by
    rw [b2.block _ (by omega)]; exact e1
  refine ⟨addG h2 e2 (by omega) (fr_not8 _), ?_⟩
  have hb0 : Below w.heap.size w (w.alloc (.cells (fr k s t l q x y er sl rk ep d) TF)) := (Below.refl _ _).alloc (Nat.le_refl _) _
  exact (hb0.trans (hb.mono (by simp))).trans (b2.mono (by omega))
set_option maxRecDepth 100000 in
set_option maxHeartbeats 4000000 in
theorem enc_long (k s t l q x y er sl rk ep : Int) (d : List UInt8) (hc : Chk (fr k s t l q x y er sl rk ep d) 0) (bits : List Bool) (hp : Writes (fr k s t l q x y er sl rk ep d) bits 8) (w : World) :
    Calls Try.prog 11 #[.agg (fr k s t l q x y er sl rk ep d)] w fun e w' => e = .returned (.tuple #[.string (Str []), .int .i64 8]) ∧ Below w.heap.size w w' := by
  go_enter Try.func11, Try.ntmps11
  go_wp2_with fail
  refine (hc _).mono ?_
  rintro e w1 ⟨rfl, hb⟩
  have HB := Lib.hid hb
  have hsz := hb.size
  rw [show (w.alloc (.cells (fr k s t l q x y er sl rk ep d) TF)).heap.size = w.heap.size + 1 by simp] at hsz
  clear hb
  go_wp2_with fail
  refine (new_any (B := w.heap.size) w1 (by omega)).mono ?_
  rintro e w2 ⟨rfl, h2, b2⟩
  have HS := Lib.hid (start _ _ _ _ _ _ _ _ _ _ _ _ _ _ _ HB.out h2 b2)
  clear h2 b2 HB hsz
  go_wp2_with fail
  refine (hp _ _ _ _ _ HS.out.1 (.head _)).mono ?_
  rintro e w3 ⟨rfl, h3, b3⟩
  have HS3 := Lib.hid (And.intro h3 (HS.out.2.trans b3))
  clear h3 b3 HS
  go_wp2_with fail
  refine (bytes_err HS3.out.1).mono ?_
  rintro e w4 ⟨rfl, n4, rfl⟩
  go_wp2_with fail
  go_ret2
  exact ⟨rfl, HS3.out.2.trans (Below.drewN' _ _ _)⟩
set_option maxRecDepth 100000 in
set_option maxHeartbeats 4000000 in
theorem enc_big (k s t l q x y er sl rk ep : Int) (d : List UInt8) (hc : Chk (fr k s t l q x y er sl rk ep d) 0) (bits : List Bool) (hp : Writes (fr k s t l q x y er sl rk ep d) bits 0) (p : List UInt8) (hpk : pack bits = p) (h1 : 125 < p.length) (h2 : p.length ≤ 1000) (w : World) :
    Calls Try.prog 11 #[.agg (fr k s t l q x y er sl rk ep d)] w fun e w' => e = .returned (.tuple #[.string (Str []), .int .i64 8]) ∧ Below w.heap.size w w' := by
  go_enter Try.func11, Try.ntmps11
  go_wp2_with fail
  refine (hc _).mono ?_
  rintro e w1 ⟨rfl, hb⟩
  have HB := Lib.hid hb
  have hsz := hb.size
  rw [show (w.alloc (.cells (fr k s t l q x y er sl rk ep d) TF)).heap.size = w.heap.size + 1 by simp] at hsz
  clear hb
  go_wp2_with fail
  refine (new_any (B := w.heap.size) w1 (by omega)).mono ?_
  rintro e w2 ⟨rfl, h2, b2⟩
  have HS := Lib.hid (start _ _ _ _ _ _ _ _ _ _ _ _ _ _ _ HB.out h2 b2)
  clear h2 b2 HB hsz
  go_wp2_with fail
  refine (hp _ _ _ _ _ HS.out.1 (.head _)).mono ?_
  rintro e w3 ⟨rfl, h3, b3⟩
  have HS3 := Lib.hid (And.intro h3 (HS.out.2.trans b3))
  clear h3 b3 HS
  go_wp2_with fail
  refine (bytes_ok HS3.out.1).mono ?_
  rintro e w4 ⟨rfl, rfl⟩
  rw [hpk]
  have e1 : (Str p).size = p.length := str_size p
  have e2 : IntKind.i64.wrap ((p.length : Int) + 2) = (p.length : Int) + 2 := by rw [IntKind.wrap_i64]; omega
  have e3 : decide ((127 : Int) < (p.length : Int) + 2) = true := decide_eq_true (by omega)
  clear hc hp hpk
  go_wp2_with fail
  go_ret2
  exact ⟨rfl, HS3.out.2⟩
set_option maxRecDepth 100000 in
set_option maxHeartbeats 4000000 in
theorem enc_ok (k s t l q x y er sl rk ep : Int) (d : List UInt8) (hc : Chk (fr k s t l q x y er sl rk ep d) 0) (bits : List Bool) (hp : Writes (fr k s t l q x y er sl rk ep d) bits 0) (p : List UInt8) (hpk : pack bits = p) (h1 : p.length ≤ 125) (w : World) :
    Calls Try.prog 11 #[.agg (fr k s t l q x y er sl rk ep d)] w fun e w' => e = .returned (.tuple #[.string (Str (protect p)), .int .i64 0]) ∧ Below w.heap.size w w' := by
  go_enter Try.func11, Try.ntmps11
  go_wp2_with fail
  refine (hc _).mono ?_
  rintro e w1 ⟨rfl, hb⟩
  have HB := Lib.hid hb
  have hsz := hb.size
  rw [show (w.alloc (.cells (fr k s t l q x y er sl rk ep d) TF)).heap.size = w.heap.size + 1 by simp] at hsz
  clear hb
  go_wp2_with fail
  refine (new_any (B := w.heap.size) w1 (by omega)).mono ?_
  rintro e w2 ⟨rfl, h2, b2⟩
  have HS := Lib.hid (start _ _ _ _ _ _ _ _ _ _ _ _ _ _ _ HB.out h2 b2)
  clear h2 b2 HB hsz
  go_wp2_with fail
  refine (hp _ _ _ _ _ HS.out.1 (.head _)).mono ?_
  rintro e w3 ⟨rfl, h3, b3⟩
  have HS3 := Lib.hid (And.intro h3 (HS.out.2.trans b3))
  clear h3 b3 HS
  go_wp2_with fail
  refine (bytes_ok HS3.out.1).mono ?_
  rintro e w4 ⟨rfl, rfl⟩
  rw [hpk]
  have e1 : (Str p).size = p.length := str_size p
  have e2 : IntKind.i64.wrap ((p.length : Int) + 2) = (p.length : Int) + 2 := by rw [IntKind.wrap_i64]; omega
  have e3 : decide ((127 : Int) < (p.length : Int) + 2) = false := decide_eq_false (by omega)
  clear hc hp hpk
  go_wp2_with fail
  refine (protect_any p (by omega) _).mono ?_
  rintro e w5 ⟨rfl, b5⟩
  have HS5 := Lib.hid (HS3.out.2.trans (b5.mono HS3.out.2.size))
  clear b5 HS3
  go_wp2_with fail
  go_ret2
  exact ⟨rfl, HS5.out⟩
end Go.Proofs.Ytbgnkjaikbhdoaa.FrE
