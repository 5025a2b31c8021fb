/- frame.pen, reading: each method reads its fields into the frame. (cut to what is reached: wip/tools/slimout2.py) -/
import Derived.Test.YtbgnkjaikbhdoaaFGRdT
import Derived.Test.YtbgnkjaikbhdoaaFGPenF
namespace Go.Proofs.Ytbgnkjaikbhdoaa.PenR
set_option linter.unusedSimpArgs false
set_option linter.unusedVariables false
open Go.RowKit Go.Proofs.Ytbgnkjaikbhdoaa.Pack Go.Proofs.Ytbgnkjaikbhdoaa.Rd Go.Proofs.Ytbgnkjaikbhdoaa.RdC Go.Proofs.Ytbgnkjaikbhdoaa.RdT
open Go.Proofs.Ytbgnkjaikbhdoaa.Bytes (Str)
abbrev TF : TypeId := 23
abbrev Pr (g : Nat) : Value := .agg #[.pointer none, .pointer (some ⟨g, 0, none⟩)]
abbrev Br (g : Nat) : Obj := .cells #[.pointer none, .pointer (some ⟨g, 0, none⟩)] 48
def Rf (B : Nat) (G : List (Nat × Obj)) (w : World) (g : Nat) (l : List UInt8) (i : Nat) (e : Int) (gf : Nat) (cs : Array Value) : Prop :=
  Rd B ((gf, .cells cs TF (0, 0)) :: G) w g l i e ∧ B ≤ gf ∧ ∀ p ∈ G, p.1 ≠ gf
variable {B g gf i : Nat} {G : List (Nat × Obj)} {w : World} {l : List UInt8} {e : Int} {cs : Array Value}
theorem Rf.alloc (h : Rf B G w g l i e gf cs) (o : Obj) : Rf B ((w.heap.size, o) :: G) (w.alloc o) g l i e gf cs := by
  obtain ⟨a, b, c⟩ := h
  have hlt := a.guest_lt (.head _)
  have h2 := a.allocG o
  refine ⟨h2.sub (fun p hp => ?_), b, fun p hp => ?_⟩
  · rcases List.mem_cons.1 hp with rfl | hp
    · exact .tail _ (.head _)
    · rcases List.mem_cons.1 hp with rfl | hp
      · exact .head _
      · exact .tail _ (.tail _ hp)
  · rcases List.mem_cons.1 hp with rfl | hp
    · show w.heap.size ≠ gf; omega
    · exact c p hp
theorem Rf.drop {p : Nat × Obj} (h : Rf B (p :: G) w g l i e gf cs) : Rf B G w g l i e gf cs :=
  ⟨h.1.sub (fun q hq => by rcases List.mem_cons.1 hq with rfl | hq; exact .head _; exact .tail _ (.tail _ hq)), h.2.1, fun q hq => h.2.2 q (List.mem_cons_of_mem _ hq)⟩
theorem Rf.set {j : Nat} {x : Value} {cs' : Array Value} (h : Rf B G w g l i e gf cs) (hc : cs.setIfInBounds j x = cs') : Rf B G (w.setCell ⟨gf, j, none⟩ x) g l i e gf cs' :=
  ⟨h.1.putG h.2.2 hc, h.2.1, h.2.2⟩
theorem Rf.at_ {w' : World} {i' : Nat} {e' : Int} (h : Rf B G w g l i e gf cs) (h' : Rd B ((gf, .cells cs TF (0, 0)) :: G) w' g l i' e') : Rf B G w' g l i' e' gf cs := ⟨h', h.2⟩
theorem Rf.cell (h : Rf B G w g l i e gf cs) {j : Nat} {x : Value} (hj : cs[j]? = some x) : w.cell? ⟨gf, j, none⟩ = some x ∧ w.frozen? ⟨gf, j, none⟩ = false := h.1.cellG (.head _) hj
theorem Rf.box {pb : Nat} (h : Rf B ((pb, Br g) :: G) w g l i e gf cs) : w.cell? ⟨pb, 0, none⟩ = some (.pointer none) ∧ w.cell? ⟨pb, 1, none⟩ = some (.pointer (some ⟨g, 0, none⟩)) :=
  ⟨(h.1.cellG (.tail _ (.head _)) rfl).1, (h.1.cellG (.tail _ (.head _)) rfl).1⟩
theorem boxB (h : Rf B G w g l i e gf cs) (o : Obj) : Below B w (w.alloc o) := (Below.refl B w).alloc (by have := h.1.lt; have := h.1.1; omega) _
set_option maxRecDepth 100000 in
set_option maxHeartbeats 4000000 in
theorem unsigned_r (h : Rf B G w g l i e gf cs) (hs : l.length ≤ 65536) (hi : i ≤ 8 * l.length) (k : Nat) (h1 : 1 ≤ k) (hk : k ≤ 62) {j : Nat} {x : Value} (hj : cs[j]? = some x) (cs' : Array Value) (hc : cs.setIfInBounds j (.int .i64 ((rdf l k i e).1 : Int)) = cs') :
    Calls Try.prog 61 #[Pr g, .int .i64 (k : Int), .pointer (some ⟨gf, j, none⟩)] w fun r w' => r = .returned (.tuple #[]) ∧ Rf B G w' g l (rdf l k i e).2.1 (rdf l k i e).2.2 gf cs' ∧ Below B w w' := by
  have HW1 := Lib.hid (h.alloc (Br g))
  have HB1 := Lib.hid (boxB h (Br g))
  have HU := Lib.hid (unsigned_any HW1.out.1 hs hi k h1 hk)
  have HJ := Lib.hid hj
  have HC := Lib.hid hc
  have HBG := Lib.hid h.2.1
  clear h hj hc
  generalize (rdf l k i e).1 = v at *
  generalize (rdf l k i e).2.1 = i' at *
  generalize (rdf l k i e).2.2 = e' at *
  go_enter Try.func61, Try.ntmps61
  go_wp2_with fail
  ((with_reducible refine HU.out.mono ?_); rintro r w2 ⟨rfl, h2, b2⟩)
  have H2 := HW1.out.at_ h2
  obtain ⟨q0, f0⟩ := H2.cell HJ.out
  have H3 := Lib.hid ((H2.set HC.out).drop)
  have HB3 := Lib.hid ((HB1.out.trans b2).setCell (p := ⟨gf, j, none⟩) HBG.out (.int .i64 (v : Int)))
  clear H2 h2 b2
  go_wp2
  go_end0
  exact ⟨rfl, H3.out, HB3.out⟩
set_option maxRecDepth 100000 in
set_option maxHeartbeats 4000000 in
theorem text_r (h : Rf B G w g l i e gf cs) (hs : l.length ≤ 65536) (hi : i ≤ 8 * l.length) {j : Nat} {x : Value} (hj : cs[j]? = some x) (cs' : Array Value) (hc : cs.setIfInBounds j (.string (Str (rdText l i e).1)) = cs') :
    Calls Try.prog 82 #[Pr g, .pointer (some ⟨gf, j, none⟩)] w fun r w' => r = .returned (.tuple #[]) ∧ Rf B G w' g l (rdText l i e).2.1 (rdText l i e).2.2 gf cs' ∧ Below B w w' := by
  have HW1 := Lib.hid (h.alloc (Br g))
  have HB1 := Lib.hid (boxB h (Br g))
  have HU := Lib.hid (text_any HW1.out.1 hs hi)
  have HJ := Lib.hid hj
  have HC := Lib.hid hc
  have HBG := Lib.hid h.2.1
  clear h hj hc
  generalize (rdText l i e).1 = v at *
  generalize (rdText l i e).2.1 = i' at *
  generalize (rdText l i e).2.2 = e' at *
  go_enter Try.func82, Try.ntmps82
  go_wp2_with fail
  ((with_reducible refine HU.out.mono ?_); rintro r w2 ⟨rfl, h2, b2⟩)
  have H2 := HW1.out.at_ h2
  obtain ⟨q0, f0⟩ := H2.cell HJ.out
  have H3 := Lib.hid ((H2.set HC.out).drop)
  have HB3 := Lib.hid ((HB1.out.trans b2).setCell (p := ⟨gf, j, none⟩) HBG.out (.string (Str v)))
  clear H2 h2 b2
  go_wp2
  go_end0
  exact ⟨rfl, H3.out, HB3.out⟩
set_option maxRecDepth 100000 in
set_option maxHeartbeats 4000000 in
theorem ack_r (h : Rf B G w g l i e gf cs) (hs : l.length ≤ 65536) (hi : i ≤ 8 * l.length) {x : Value} (hj : cs[7]? = some x) (cs' : Array Value) (hc : cs.setIfInBounds 7 (.int .i64 (rdS l i e)) = cs') :
    Calls Try.prog 58 #[Pr g, .pointer (some ⟨gf, 0, none⟩)] w fun r w' => r = .returned (.tuple #[]) ∧ Rf B G w' g l (rdf l 16 i e).2.1 (rdf l 16 i e).2.2 gf cs' ∧ Below B w w' := by
  have HW1 := Lib.hid (h.alloc (Br g))
  have HB1 := Lib.hid (boxB h (Br g))
  have HU := Lib.hid (signed_any HW1.out.1 hs hi)
  have HJ := Lib.hid hj
  have HC := Lib.hid hc
  have HBG := Lib.hid h.2.1
  clear h hj hc
  generalize rdS l i e = v at *
  generalize (rdf l 16 i e).2.1 = i' at *
  generalize (rdf l 16 i e).2.2 = e' at *
  go_enter Try.func58, Try.ntmps58
  go_wp2_with fail
  ((with_reducible refine HU.out.mono ?_); rintro r w2 ⟨rfl, h2, b2⟩)
  have H2 := HW1.out.at_ h2
  obtain ⟨q0, f0⟩ := H2.cell HJ.out
  have H3 := Lib.hid ((H2.set HC.out).drop)
  have HB3 := Lib.hid ((HB1.out.trans b2).setCell (p := ⟨gf, 7, none⟩) HBG.out (.int .i64 v))
  clear H2 h2 b2
  go_wp2
  go_end0
  exact ⟨rfl, H3.out, HB3.out⟩
def rdTg (l : List UInt8) (i : Nat) (e : Int) : Int × Nat × Int :=
  if (rdf l 1 i e).1 = 1 then (((rdf l 5 (rdf l 1 i e).2.1 (rdf l 1 i e).2.2).1 : Int), (rdf l 5 (rdf l 1 i e).2.1 (rdf l 1 i e).2.2).2.1, (rdf l 5 (rdf l 1 i e).2.1 (rdf l 1 i e).2.2).2.2) else (-1, (rdf l 1 i e).2.1, (rdf l 1 i e).2.2)
theorem rdTg_le (l : List UInt8) (i : Nat) (e : Int) (h : i ≤ 8 * l.length) : (rdTg l i e).2.1 ≤ 8 * l.length := by
  unfold rdTg; split
  · exact rdf_le _ _ _ _ (rdf_le _ _ _ _ h)
  · exact rdf_le _ _ _ _ h
set_option maxRecDepth 100000 in
set_option maxHeartbeats 4000000 in
theorem target_r (h : Rf B G w g l i e gf cs) (hs : l.length ≤ 65536) (hi : i ≤ 8 * l.length) {x : Int} (hj : cs[2]? = some (.int .i64 x)) (cs' : Array Value) (hc : cs.setIfInBounds 2 (.int .i64 (rdTg l i e).1) = cs') :
    Calls Try.prog 62 #[Pr g, .pointer (some ⟨gf, 2, none⟩)] w fun r w' => r = .returned (.tuple #[]) ∧ Rf B G w' g l (rdTg l i e).2.1 (rdTg l i e).2.2 gf cs' ∧ Below B w w' := by
  have hW1 := h.alloc (Br g)
  obtain ⟨q0, f0⟩ := hW1.cell hj
  have HW1 := Lib.hid hW1
  have HB1 := Lib.hid (boxB h (Br g))
  have HU := flag_any HW1.out.1 hs hi
  have HJ := Lib.hid hj
  have HBG := Lib.hid h.2.1
  have HLE := rdf_le l 1 i e hi
  clear h hj hW1
  unfold rdTg at hc ⊢
  by_cases hf : (rdf l 1 i e).1 = 1
  · rw [if_pos hf] at hc ⊢
    rw [decide_eq_true hf] at HU
    have HC := Lib.hid hc
    have HU := Lib.hid HU
    clear hc hf
    generalize (rdf l 1 i e).2.1 = i' at *
    generalize (rdf l 1 i e).2.2 = e' at *
    go_enter Try.func62, Try.ntmps62
    go_wp2_with fail
    ((with_reducible refine HU.out.mono ?_); rintro r w2 ⟨rfl, h2, b2⟩)
    have H2 := HW1.out.at_ h2
    have p0 := (Rf.box H2).1
    have p1 := (Rf.box H2).2
    have HX := Lib.hid (unsigned_r H2 hs HLE 5 (by omega) (by omega) HJ.out _ HC.out)
    rw [show ((5 : Nat) : Int) = 5 from rfl] at HX
    have HB2 := Lib.hid (HB1.out.trans b2)
    clear H2 h2 b2 q0 f0 HU
    go_wp2_with fail
    ((with_reducible refine HX.out.mono ?_); rintro r w3 ⟨rfl, h3, b3⟩)
    have H3 := Lib.hid h3.drop
    have HB3 := Lib.hid (HB2.out.trans b3)
    clear h3 b3
    go_wp2_with fail
    go_end0
    exact ⟨rfl, H3.out, HB3.out⟩
  · rw [if_neg hf] at hc ⊢
    rw [decide_eq_false hf] at HU
    have HC := Lib.hid hc
    have HU := Lib.hid HU
    clear hc hf
    generalize (rdf l 1 i e).2.1 = i' at *
    generalize (rdf l 1 i e).2.2 = e' at *
    go_enter Try.func62, Try.ntmps62
    go_wp2_with fail
    ((with_reducible refine HU.out.mono ?_); rintro r w2 ⟨rfl, h2, b2⟩)
    have H2 := HW1.out.at_ h2
    obtain ⟨q2, f2⟩ := H2.cell HJ.out
    have H3 := Lib.hid ((H2.set HC.out).drop)
    have HB3 := Lib.hid ((HB1.out.trans b2).setCell (p := ⟨gf, 2, none⟩) HBG.out (.int .i64 (-1)))
    clear H2 h2 b2 q0 f0
    go_wp2
    go_end0
    exact ⟨rfl, H3.out, HB3.out⟩
end Go.Proofs.Ytbgnkjaikbhdoaa.PenR
