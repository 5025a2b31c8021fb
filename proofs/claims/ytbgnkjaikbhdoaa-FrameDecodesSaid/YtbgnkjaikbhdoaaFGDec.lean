/- frame.Decode. (cut to what is reached: wip/tools/slimout2.py) -/
import Derived.Test.YtbgnkjaikbhdoaaFGPenRd
import Derived.Test.YtbgnkjaikbhdoaaFGFrEn
namespace Go.Proofs.Ytbgnkjaikbhdoaa.Dec
set_option linter.unusedSimpArgs false
set_option linter.unusedVariables false
open Go.RowKit Go.Proofs.Ytbgnkjaikbhdoaa.Pack Go.Proofs.Ytbgnkjaikbhdoaa.WrPut Go.Proofs.Ytbgnkjaikbhdoaa.Rd Go.Proofs.Ytbgnkjaikbhdoaa.RdC Go.Proofs.Ytbgnkjaikbhdoaa.RdT Go.Proofs.Ytbgnkjaikbhdoaa.PenR Go.Proofs.Ytbgnkjaikbhdoaa.PenRd Go.Proofs.Ytbgnkjaikbhdoaa.FrCrc Go.Proofs.Ytbgnkjaikbhdoaa.FrF Go.Proofs.Ytbgnkjaikbhdoaa.FrC Go.Proofs.Ytbgnkjaikbhdoaa.Alg
open Go.Proofs.Ytbgnkjaikbhdoaa.Bytes (Str)
open Go.Proofs.Ytbgnkjaikbhdoaa.FrA (fr)
structure Fm where
  (k s t a q x y er sl rk ep : Int)
  (d : List UInt8)
abbrev Fm.cells (f : Fm) : Array Value := fr f.k f.s f.t f.a f.q f.x f.y f.er f.sl f.rk f.ep f.d
def Fm.zero : Fm := ⟨0, 0, 0, 0, 0, 0, 0, 0, 0, 0, 0, []⟩
def Fm.ok (f : Fm) : Bool := okF f.k f.s f.t f.a f.q f.x f.y f.er f.sl f.rk f.ep f.d
def rdF (p : List UInt8) : Bool × Fm × Nat × Int :=
  let h1 := rdf p 3 0 0
  let h2 := rdf p 5 h1.2.1 h1.2.2
  let h3 := rdTg p h2.2.1 h2.2.2
  let h4 := rdf p 8 h3.2.1 h3.2.2
  let h5 := rdf p 8 h4.2.1 h4.2.2
  if h1.1 = 1 then
    let h6 := rdf p 8 h5.2.1 h5.2.2
    let h7 := rdf p 16 h6.2.1 h6.2.2
    let h8 := rdText p h7.2.1 h7.2.2
    (true, ⟨1, h2.1, h3.1, h4.1, h5.1, h6.1, h7.1, 0, 0, 0, 0, h8.1⟩, h8.2)
  else if h1.1 = 2 then
    (true, ⟨2, h2.1, h3.1, h4.1, h5.1, 0, 0, rdS p h5.2.1 h5.2.2, 0, 0, 0, []⟩, (rdf p 16 h5.2.1 h5.2.2).2)
  else if h1.1 = 3 then
    let h6 := rdf p 27 h5.2.1 h5.2.2
    let h7 := rdf p 16 h6.2.1 h6.2.2
    let h8 := rdf p 16 h7.2.1 h7.2.2
    let h9 := rdText p h8.2.1 h8.2.2
    (true, ⟨3, h2.1, h3.1, h4.1, h5.1, 0, 0, 0, h6.1, h7.1, h8.1, h9.1⟩, h9.2)
  else if h1.1 = 4 then
    let h6 := rdText p h5.2.1 h5.2.2
    (true, ⟨4, h2.1, h3.1, h4.1, h5.1, 0, 0, 0, 0, 0, 0, h6.1⟩, h6.2)
  else (false, ⟨h1.1, h2.1, h3.1, h4.1, h5.1, 0, 0, 0, 0, 0, 0, []⟩, h5.2)
theorem eta3 {α β γ : Type} (x : α × β × γ) : x = (x.1, x.2.1, x.2.2) := rfl
attribute [local irreducible] rdf rdText rdTg rdS in
set_option maxHeartbeats 1000000 in
theorem frame_rd (p : List UInt8) (hp : p.length ≤ 65536) {B g gf : Nat} {G : List (Nat × Obj)} {w : World} (h : Rf B G w g p 0 0 gf (fr 0 0 0 0 0 0 0 0 0 0 0 [])) :
    Calls Try.prog 27 #[Pr g, .pointer (some ⟨gf, 0, none⟩)] w fun r w' => r = .returned (.bool (rdF p).1) ∧ Rf B G w' g p (rdF p).2.2.1 (rdF p).2.2.2 gf (rdF p).2.1.cells ∧ Below B w w' := by
  unfold rdF Fm.cells
  by_cases c1 : (rdf p 3 0 0).1 = 1
  · simp only [c1, if_pos]
    have h1 : rdf p 3 0 0 = (1, (rdf p 3 0 0).2.1, (rdf p 3 0 0).2.2) := Prod.ext c1 rfl
    exact frame_data h hp h1 (eta3 _) (eta3 _) (eta3 _) (eta3 _) (eta3 _) (eta3 _) (eta3 _)
  · by_cases c2 : (rdf p 3 0 0).1 = 2
    · simp only [c2, if_pos, if_neg (show ¬ (2 : Nat) = 1 by decide)]
      have h1 : rdf p 3 0 0 = (2, (rdf p 3 0 0).2.1, (rdf p 3 0 0).2.2) := Prod.ext c2 rfl
      exact frame_ack h hp h1 (eta3 _) (eta3 _) (eta3 _) (eta3 _) (eta3 _) rfl
    · by_cases c3 : (rdf p 3 0 0).1 = 3
      · simp only [c3, if_pos, if_neg (show ¬ (3 : Nat) = 1 by decide), if_neg (show ¬ (3 : Nat) = 2 by decide)]
        have h1 : rdf p 3 0 0 = (3, (rdf p 3 0 0).2.1, (rdf p 3 0 0).2.2) := Prod.ext c3 rfl
        exact frame_beacon h hp h1 (eta3 _) (eta3 _) (eta3 _) (eta3 _) (eta3 _) (eta3 _) (eta3 _) (eta3 _)
      · by_cases c4 : (rdf p 3 0 0).1 = 4
        · simp only [c4, if_pos, if_neg (show ¬ (4 : Nat) = 1 by decide), if_neg (show ¬ (4 : Nat) = 2 by decide), if_neg (show ¬ (4 : Nat) = 3 by decide)]
          have h1 : rdf p 3 0 0 = (4, (rdf p 3 0 0).2.1, (rdf p 3 0 0).2.2) := Prod.ext c4 rfl
          exact frame_message h hp h1 (eta3 _) (eta3 _) (eta3 _) (eta3 _) (eta3 _)
        · simp only [if_neg c1, if_neg c2, if_neg c3, if_neg c4]
          exact frame_none h hp c1 c2 c3 c4 (eta3 _) (eta3 _) (eta3 _) (eta3 _) (eta3 _)
theorem rdF_le (p : List UInt8) : (rdF p).2.2.1 ≤ 8 * p.length := by
  have h1 := rdf_le p 3 0 0 (by omega)
  have h2 := rdf_le p 5 _ (rdf p 3 0 0).2.2 h1
  have h3 := rdTg_le p _ (rdf p 5 (rdf p 3 0 0).2.1 (rdf p 3 0 0).2.2).2.2 h2
  unfold rdF
  simp only
  generalize rdTg p (rdf p 5 (rdf p 3 0 0).2.1 (rdf p 3 0 0).2.2).2.1 (rdf p 5 (rdf p 3 0 0).2.1 (rdf p 3 0 0).2.2).2.2 = z at *
  have h4 := rdf_le p 8 _ z.2.2 h3
  have h5 := rdf_le p 8 _ (rdf p 8 z.2.1 z.2.2).2.2 h4
  generalize rdf p 8 (rdf p 8 z.2.1 z.2.2).2.1 (rdf p 8 z.2.1 z.2.2).2.2 = y at *
  split
  · exact rdText_le _ _ _ (rdf_le _ _ _ _ (rdf_le _ _ _ _ h5))
  · split
    · exact rdf_le _ _ _ _ h5
    · split
      · exact rdText_le _ _ _ (rdf_le _ _ _ _ (rdf_le _ _ _ _ (rdf_le _ _ _ _ h5)))
      · split
        · exact rdText_le _ _ _ h5
        · exact h5
def decF (l : List UInt8) : Fm × Int :=
  if 127 < l.length then (.zero, 8)
  else if (chk l).2 ≠ 0 then (.zero, (chk l).2)
  else if (rdF (chk l).1).1 = true ∧ closeF (chk l).1 (rdF (chk l).1).2.2.1 (rdF (chk l).1).2.2.2 = 0 ∧ (rdF (chk l).1).2.1.ok = true then ((rdF (chk l).1).2.1, 0)
  else (.zero, 10)
abbrev zc : Array Value := fr 0 0 0 0 0 0 0 0 0 0 0 []
set_option maxRecDepth 100000 in
set_option maxHeartbeats 4000000 in
theorem dec_long (l : List UInt8) (h : 127 < l.length) (w : World) :
    Calls Try.prog 22 #[.string (Str l)] w fun r w' => r = .returned (.tuple #[.agg zc, .int .i64 8]) ∧ Below w.heap.size w w' := by
  have hd : decide ((127 : Int) < (l.length : Int)) = true := decide_eq_true (by omega)
  have hs2 := str_size l
  have hz : (w.alloc (.cells zc TF)).heap[w.heap.size]? = some (.cells zc TF (0, 0)) := heap_alloc_new _ _
  have HZ := Lib.hid hz
  have HB := Lib.hid ((Below.refl _ w).alloc (Nat.le_refl _) (.cells zc TF))
  clear h hz
  go_enter Try.func22, Try.ntmps22
  go_wp2_with fail
  exact bodyPost_ret (v := .tuple #[.agg zc, .int .i64 8]) (results_cv (p := 2) (u := 3) rfl _ _ w.heap.size TF zc (0, 0) _ _ rfl rfl HZ.out Try.underlying23 rfl (by kernel_rfl)) rfl ⟨rfl, HB.out⟩
def Res (w w1 : World) (cs : Array Value) : Prop := w1.heap[w.heap.size]? = some (.cells cs TF (0, 0)) ∧ Below w.heap.size w w1
theorem Res.start (w : World) : Res w (w.alloc (.cells zc TF)) zc := ⟨heap_alloc_new _ _, (Below.refl _ w).alloc (Nat.le_refl _) _⟩
theorem Res.later {w w1 w2 : World} {cs : Array Value} {B : Nat} (h : Res w w1 cs) (hb : Below B w1 w2) (hB : w.heap.size < B) : Res w w2 cs :=
  ⟨by rw [hb.block _ hB]; exact h.1, h.2.trans (hb.mono (by omega))⟩
theorem Res.row {w w1 : World} {cs : Array Value} (h : Res w w1 cs) (c : Array Value) : Res w (w1.setRow w.heap.size c) c :=
  ⟨setRow_heap _ _ _ _ _ _ h.1, below_setRow h.2 (Nat.le_refl _) _⟩
theorem Res.lt {w w1 : World} {cs : Array Value} (h : Res w w1 cs) : w.heap.size < w1.heap.size := (Array.getElem?_eq_some_iff.1 h.1).1
set_option maxRecDepth 100000 in
set_option maxHeartbeats 4000000 in
theorem dec_crc (l : List UInt8) (h : l.length ≤ 127) (p : List UInt8) (c : Int) (hc : chk l = (p, c)) (h0 : c ≠ 0) (w : World) :
    Calls Try.prog 22 #[.string (Str l)] w fun r w' => r = .returned (.tuple #[.agg zc, .int .i64 c]) ∧ Below w.heap.size w w' := by
  have hd : decide ((127 : Int) < (l.length : Int)) = false := decide_eq_false (by omega)
  have hs2 := str_size l
  have h02 : (c == 0) = false := by simpa using h0
  have h03 : (c != 0) = true := by simpa using h0
  have HR := Lib.hid (Res.start w)
  have HC := Lib.hid (fun w => check_any l (by omega) _ hc w)
  clear h hc h0
  go_enter Try.func22, Try.ntmps22
  go_wp2_with fail
  ((with_reducible refine (HC.out _).mono ?_); rintro r w1 ⟨rfl, b1⟩)
  have HR1 := Lib.hid (HR.out.later b1 HR.out.lt)
  clear b1
  go_wp2_with (first | (refine wpList_store_row rfl TF _ _ rfl w.heap.size zc rfl rfl TF zc HR1.out.1 (by kernel_rfl) rfl (Go.Proofs.Ytbgnkjaikbhdoaa.FrF.fr_one ..) ?_))
  exact bodyPost_ret (v := .tuple #[.agg zc, .int .i64 c]) (results_cv (p := 2) (u := 3) rfl _ _ w.heap.size TF zc (0, 0) _ _ rfl rfl (HR1.out.row zc).1 Try.underlying23 rfl (by kernel_rfl)) rfl ⟨rfl, (HR1.out.row zc).2⟩
theorem start (p : List UInt8) {w w1 w2 : World} (h : Res w w1 zc) (h2 : Rd (w.heap.size + 1) [] w2 w1.heap.size p 0 0) (b2 : Below w1.heap.size w1 w2) :
    Res w (w2.alloc (.cells zc TF)) zc ∧ Rf (w.heap.size + 1) [] (w2.alloc (.cells zc TF)) w1.heap.size p 0 0 w2.heap.size zc := by
  have hlt := h.lt
  have h3 := h2.lt
  refine ⟨(h.later b2 hlt).later ((Below.refl w2.heap.size w2).alloc (Nat.le_refl _) (.cells zc TF)) (by omega), h2.allocG _, by omega, fun p hp => by cases hp⟩
set_option maxRecDepth 100000 in
set_option maxHeartbeats 4000000 in
theorem dec_kind (l : List UInt8) (h : l.length ≤ 127) (p : List UInt8) (hp : p.length ≤ 1000) (hc : chk l = (p, 0)) (f : Fm) (ok : Bool) (i : Nat) (e : Int) (hr : rdF p = (ok, f, i, e)) (hi : i ≤ 8 * p.length) (hok : ok = false) (w : World) :
    Calls Try.prog 22 #[.string (Str l)] w fun r w' => r = .returned (.tuple #[.agg zc, .int .i64 10]) ∧ Below w.heap.size w w' := by
  have hd : decide ((127 : Int) < (l.length : Int)) = false := decide_eq_false (by omega)
  have hs2 := str_size l
  have HR := Lib.hid (Res.start w)
  have HC := Lib.hid (fun w => check_any l (by omega) _ hc w)
  have HF := fun (g gf : Nat) (w' : World) (h : Rf (w.heap.size + 1) [] w' g p 0 0 gf zc) => frame_rd p (by omega) h
  rw [hr] at HF
  have HF := Lib.hid HF
  subst hok
  clear h hc hr
  go_enter Try.func22, Try.ntmps22
  go_wp2_with fail
  ((with_reducible refine (HC.out _).mono ?_); rintro r w1 ⟨rfl, b1⟩)
  have HR1 := Lib.hid (HR.out.later b1 HR.out.lt)
  clear b1 HR HC
  go_wp2_with fail
  ((with_reducible refine (newr_any p (by omega) w1 (B := w.heap.size + 1) (Nat.succ_le_of_lt HR1.out.lt)).mono ?_); rintro r w2 ⟨rfl, h2, b2⟩)
  have HS := Lib.hid (start p HR1.out h2 b2)
  clear h2 b2 HR1
  go_wp2_with fail
  ((with_reducible refine (HF.out _ _ _ HS.out.2).mono ?_); rintro r w3 ⟨rfl, h3, b3⟩)
  have HR3 := Lib.hid (HS.out.1.later b3 (by omega))
  have H3 := Lib.hid h3
  clear h3 b3 HS HF
  go_wp2_with (first | (refine wpList_store_row rfl TF _ _ rfl w.heap.size zc rfl rfl TF zc HR3.out.1 (by kernel_rfl) rfl (Go.Proofs.Ytbgnkjaikbhdoaa.FrF.fr_one ..) ?_))
  exact bodyPost_ret (v := .tuple #[.agg zc, .int .i64 10]) (results_cv (p := 2) (u := 3) rfl _ _ w.heap.size TF zc (0, 0) _ _ rfl rfl (HR3.out.row zc).1 Try.underlying23 rfl (by kernel_rfl)) rfl ⟨rfl, (HR3.out.row zc).2⟩
set_option maxRecDepth 100000 in
set_option maxHeartbeats 4000000 in
theorem dec_close (l : List UInt8) (h : l.length ≤ 127) (p : List UInt8) (hp : p.length ≤ 1000) (hc : chk l = (p, 0)) (f : Fm) (ok : Bool) (i : Nat) (e : Int) (hr : rdF p = (ok, f, i, e)) (hi : i ≤ 8 * p.length) (hok : ok = true) (c : Int) (hcl : closeF p i e = c) (h0 : c ≠ 0) (w : World) :
    Calls Try.prog 22 #[.string (Str l)] w fun r w' => r = .returned (.tuple #[.agg zc, .int .i64 10]) ∧ Below w.heap.size w w' := by
  have hd : decide ((127 : Int) < (l.length : Int)) = false := decide_eq_false (by omega)
  have hs2 := str_size l
  have HR := Lib.hid (Res.start w)
  have HC := Lib.hid (fun w => check_any l (by omega) _ hc w)
  have HF := fun (g gf : Nat) (w' : World) (h : Rf (w.heap.size + 1) [] w' g p 0 0 gf zc) => frame_rd p (by omega) h
  rw [hr] at HF
  have HF := Lib.hid HF
  subst hok
  have HCL := Lib.hid hcl
  have h02 : (c == 0) = false := by simpa using h0
  have h03 : (c != 0) = true := by simpa using h0
  clear h0 hcl
  clear h hc hr
  go_enter Try.func22, Try.ntmps22
  go_wp2_with fail
  ((with_reducible refine (HC.out _).mono ?_); rintro r w1 ⟨rfl, b1⟩)
  have HR1 := Lib.hid (HR.out.later b1 HR.out.lt)
  clear b1 HR HC
  go_wp2_with fail
  ((with_reducible refine (newr_any p (by omega) w1 (B := w.heap.size + 1) (Nat.succ_le_of_lt HR1.out.lt)).mono ?_); rintro r w2 ⟨rfl, h2, b2⟩)
  have HS := Lib.hid (start p HR1.out h2 b2)
  clear h2 b2 HR1
  go_wp2_with fail
  ((with_reducible refine (HF.out _ _ _ HS.out.2).mono ?_); rintro r w3 ⟨rfl, h3, b3⟩)
  have HR3 := Lib.hid (HS.out.1.later b3 (by omega))
  have H3 := Lib.hid h3
  clear h3 b3 HS HF
  go_wp2_with fail
  have HCA := Lib.hid (close_any H3.out.1 (by omega) hi)
  ((with_reducible refine HCA.out.mono ?_); rintro r w4 ⟨rfl, b4⟩)
  rw [HCL.out]
  have HR4 := Lib.hid (HR3.out.later b4 HR3.out.lt)
  have HG4 := Lib.hid (show w4.heap[w2.heap.size]? = some (.cells f.cells TF (0, 0)) by rw [b4.block _ (H3.out.1.guest_lt (.head _))]; exact H3.out.1.guest (.head _))
  clear b4 H3 HR3 HCA
  go_wp2_with (first | (refine wpList_store_row rfl TF _ _ rfl w.heap.size zc rfl rfl TF zc HR4.out.1 (by kernel_rfl) rfl (Go.Proofs.Ytbgnkjaikbhdoaa.FrF.fr_one ..) ?_))
  exact bodyPost_ret (v := .tuple #[.agg zc, .int .i64 10]) (results_cv (p := 2) (u := 3) rfl _ _ w.heap.size TF zc (0, 0) _ _ rfl rfl (HR4.out.row zc).1 Try.underlying23 rfl (by kernel_rfl)) rfl ⟨rfl, (HR4.out.row zc).2⟩
set_option maxRecDepth 100000 in
set_option maxHeartbeats 4000000 in
theorem dec_check (l : List UInt8) (h : l.length ≤ 127) (p : List UInt8) (hp : p.length ≤ 1000) (hc : chk l = (p, 0)) (f : Fm) (ok : Bool) (i : Nat) (e : Int) (hr : rdF p = (ok, f, i, e)) (hi : i ≤ 8 * p.length) (hok : ok = true) (hcl : closeF p i e = 0) (hf : f.ok = false) (w : World) :
    Calls Try.prog 22 #[.string (Str l)] w fun r w' => r = .returned (.tuple #[.agg zc, .int .i64 10]) ∧ Below w.heap.size w w' := by
  have hd : decide ((127 : Int) < (l.length : Int)) = false := decide_eq_false (by omega)
  have hs2 := str_size l
  have HR := Lib.hid (Res.start w)
  have HC := Lib.hid (fun w => check_any l (by omega) _ hc w)
  have HF := fun (g gf : Nat) (w' : World) (h : Rf (w.heap.size + 1) [] w' g p 0 0 gf zc) => frame_rd p (by omega) h
  rw [hr] at HF
  have HF := Lib.hid HF
  subst hok
  have HCL := Lib.hid hcl
  have HCK := Lib.hid (fun w => check_any f.k f.s f.t f.a f.q f.x f.y f.er f.sl f.rk f.ep f.d w)
  rw [show ckF f.k f.s f.t f.a f.q f.x f.y f.er f.sl f.rk f.ep f.d = 1 from by unfold ckF; rw [show okF f.k f.s f.t f.a f.q f.x f.y f.er f.sl f.rk f.ep f.d = false from hf]; rfl] at HCK
  clear hcl hf
  clear h hc hr
  go_enter Try.func22, Try.ntmps22
  go_wp2_with fail
  ((with_reducible refine (HC.out _).mono ?_); rintro r w1 ⟨rfl, b1⟩)
  have HR1 := Lib.hid (HR.out.later b1 HR.out.lt)
  clear b1 HR HC
  go_wp2_with fail
  ((with_reducible refine (newr_any p (by omega) w1 (B := w.heap.size + 1) (Nat.succ_le_of_lt HR1.out.lt)).mono ?_); rintro r w2 ⟨rfl, h2, b2⟩)
  have HS := Lib.hid (start p HR1.out h2 b2)
  clear h2 b2 HR1
  go_wp2_with fail
  ((with_reducible refine (HF.out _ _ _ HS.out.2).mono ?_); rintro r w3 ⟨rfl, h3, b3⟩)
  have HR3 := Lib.hid (HS.out.1.later b3 (by omega))
  have H3 := Lib.hid h3
  clear h3 b3 HS HF
  go_wp2_with fail
  have HCA := Lib.hid (close_any H3.out.1 (by omega) hi)
  ((with_reducible refine HCA.out.mono ?_); rintro r w4 ⟨rfl, b4⟩)
  rw [HCL.out]
  have HR4 := Lib.hid (HR3.out.later b4 HR3.out.lt)
  have HG4 := Lib.hid (show w4.heap[w2.heap.size]? = some (.cells f.cells TF (0, 0)) by rw [b4.block _ (H3.out.1.guest_lt (.head _))]; exact H3.out.1.guest (.head _))
  clear b4 H3 HR3 HCA
  have c0 := cell_of_row w4 _ 0 _ _ _ HG4.out
  have c1 := cell_of_row w4 _ 1 _ _ _ HG4.out
  have c2 := cell_of_row w4 _ 2 _ _ _ HG4.out
  have c3 := cell_of_row w4 _ 3 _ _ _ HG4.out
  have c4 := cell_of_row w4 _ 4 _ _ _ HG4.out
  have c5 := cell_of_row w4 _ 5 _ _ _ HG4.out
  have c6 := cell_of_row w4 _ 6 _ _ _ HG4.out
  have c7 := cell_of_row w4 _ 7 _ _ _ HG4.out
  have c8 := cell_of_row w4 _ 8 _ _ _ HG4.out
  have c9 := cell_of_row w4 _ 9 _ _ _ HG4.out
  have c10 := cell_of_row w4 _ 10 _ _ _ HG4.out
  have c11 := cell_of_row w4 _ 11 _ _ _ HG4.out
  simp only [fr, Fm.cells] at c0 c1 c2 c3 c4 c5 c6 c7 c8 c9 c10 c11
  go_wp2_with fail
  ((with_reducible refine (HCK.out _).mono ?_); rintro r w5 ⟨rfl, b5⟩)
  have HR5 := Lib.hid (HR4.out.later b5 HR4.out.lt)
  have HG5 := Lib.hid (show w5.heap[w2.heap.size]? = some (.cells f.cells TF (0, 0)) by rw [b5.block _ (Array.getElem?_eq_some_iff.1 HG4.out).1]; exact HG4.out)
  clear b5 HR4 HG4 HCK c0 c1 c2 c3 c4 c5 c6 c7 c8 c9 c10 c11
  go_wp2_with (first | (refine wpList_store_row rfl TF _ _ rfl w.heap.size zc rfl rfl TF zc HR5.out.1 (by kernel_rfl) rfl (Go.Proofs.Ytbgnkjaikbhdoaa.FrF.fr_one ..) ?_))
  exact bodyPost_ret (v := .tuple #[.agg zc, .int .i64 10]) (results_cv (p := 2) (u := 3) rfl _ _ w.heap.size TF zc (0, 0) _ _ rfl rfl (HR5.out.row zc).1 Try.underlying23 rfl (by kernel_rfl)) rfl ⟨rfl, (HR5.out.row zc).2⟩
set_option maxRecDepth 100000 in
set_option maxHeartbeats 4000000 in
theorem dec_ok (l : List UInt8) (h : l.length ≤ 127) (p : List UInt8) (hp : p.length ≤ 1000) (hc : chk l = (p, 0)) (f : Fm) (ok : Bool) (i : Nat) (e : Int) (hr : rdF p = (ok, f, i, e)) (hi : i ≤ 8 * p.length) (hok : ok = true) (hcl : closeF p i e = 0) (hf : f.ok = true) (w : World) :
    Calls Try.prog 22 #[.string (Str l)] w fun r w' => r = .returned (.tuple #[.agg f.cells, .int .i64 0]) ∧ Below w.heap.size w w' := by
  have hd : decide ((127 : Int) < (l.length : Int)) = false := decide_eq_false (by omega)
  have hs2 := str_size l
  have HR := Lib.hid (Res.start w)
  have HC := Lib.hid (fun w => check_any l (by omega) _ hc w)
  have HF := fun (g gf : Nat) (w' : World) (h : Rf (w.heap.size + 1) [] w' g p 0 0 gf zc) => frame_rd p (by omega) h
  rw [hr] at HF
  have HF := Lib.hid HF
  subst hok
  have HCL := Lib.hid hcl
  have HCK := Lib.hid (fun w => check_any f.k f.s f.t f.a f.q f.x f.y f.er f.sl f.rk f.ep f.d w)
  rw [show ckF f.k f.s f.t f.a f.q f.x f.y f.er f.sl f.rk f.ep f.d = 0 from by unfold ckF; rw [show okF f.k f.s f.t f.a f.q f.x f.y f.er f.sl f.rk f.ep f.d = true from hf]; rfl] at HCK
  clear hcl hf
  clear h hc hr
  go_enter Try.func22, Try.ntmps22
  go_wp2_with fail
  ((with_reducible refine (HC.out _).mono ?_); rintro r w1 ⟨rfl, b1⟩)
  have HR1 := Lib.hid (HR.out.later b1 HR.out.lt)
  clear b1 HR HC
  go_wp2_with fail
  ((with_reducible refine (newr_any p (by omega) w1 (B := w.heap.size + 1) (Nat.succ_le_of_lt HR1.out.lt)).mono ?_); rintro r w2 ⟨rfl, h2, b2⟩)
  have HS := Lib.hid (start p HR1.out h2 b2)
  clear h2 b2 HR1
  go_wp2_with fail
  ((with_reducible refine (HF.out _ _ _ HS.out.2).mono ?_); rintro r w3 ⟨rfl, h3, b3⟩)
  have HR3 := Lib.hid (HS.out.1.later b3 (by omega))
  have H3 := Lib.hid h3
  clear h3 b3 HS HF
  go_wp2_with fail
  have HCA := Lib.hid (close_any H3.out.1 (by omega) hi)
  ((with_reducible refine HCA.out.mono ?_); rintro r w4 ⟨rfl, b4⟩)
  rw [HCL.out]
  have HR4 := Lib.hid (HR3.out.later b4 HR3.out.lt)
  have HG4 := Lib.hid (show w4.heap[w2.heap.size]? = some (.cells f.cells TF (0, 0)) by rw [b4.block _ (H3.out.1.guest_lt (.head _))]; exact H3.out.1.guest (.head _))
  clear b4 H3 HR3 HCA
  have c0 := cell_of_row w4 _ 0 _ _ _ HG4.out
  have c1 := cell_of_row w4 _ 1 _ _ _ HG4.out
  have c2 := cell_of_row w4 _ 2 _ _ _ HG4.out
  have c3 := cell_of_row w4 _ 3 _ _ _ HG4.out
  have c4 := cell_of_row w4 _ 4 _ _ _ HG4.out
  have c5 := cell_of_row w4 _ 5 _ _ _ HG4.out
  have c6 := cell_of_row w4 _ 6 _ _ _ HG4.out
  have c7 := cell_of_row w4 _ 7 _ _ _ HG4.out
  have c8 := cell_of_row w4 _ 8 _ _ _ HG4.out
  have c9 := cell_of_row w4 _ 9 _ _ _ HG4.out
  have c10 := cell_of_row w4 _ 10 _ _ _ HG4.out
  have c11 := cell_of_row w4 _ 11 _ _ _ HG4.out
  simp only [fr, Fm.cells] at c0 c1 c2 c3 c4 c5 c6 c7 c8 c9 c10 c11
  go_wp2_with fail
  ((with_reducible refine (HCK.out _).mono ?_); rintro r w5 ⟨rfl, b5⟩)
  have HR5 := Lib.hid (HR4.out.later b5 HR4.out.lt)
  have HG5 := Lib.hid (show w5.heap[w2.heap.size]? = some (.cells f.cells TF (0, 0)) by rw [b5.block _ (Array.getElem?_eq_some_iff.1 HG4.out).1]; exact HG4.out)
  clear b5 HR4 HG4 HCK c0 c1 c2 c3 c4 c5 c6 c7 c8 c9 c10 c11
  go_wp2_with (first | (refine wpList_load_row rfl TF _ rfl w2.heap.size rfl TF f.cells (0, 0) _ HG5.out Try.underlying23 rfl (by kernel_rfl) ?_) | (refine wpList_store_row rfl TF _ _ rfl w.heap.size f.cells rfl rfl TF zc HR5.out.1 (by kernel_rfl) rfl (Go.Proofs.Ytbgnkjaikbhdoaa.FrF.fr_one ..) ?_))
  exact bodyPost_ret (v := .tuple #[.agg f.cells, .int .i64 0]) (results_cv (p := 2) (u := 3) rfl _ _ w.heap.size TF f.cells (0, 0) _ _ rfl rfl (HR5.out.row f.cells).1 Try.underlying23 rfl (by kernel_rfl)) rfl ⟨rfl, (HR5.out.row f.cells).2⟩
theorem chk_len (l : List UInt8) (h : l.length ≤ 127) : (chk l).1.length ≤ 1000 := by
  unfold chk
  split
  · simp
  · split
    · simp; omega
    · simp
theorem decode_any (l : List UInt8) (r : Fm × Int) (hr : decF l = r) (w : World) :
    Calls Try.prog 22 #[.string (Str l)] w fun e w' => e = .returned (.tuple #[.agg r.1.cells, .int .i64 r.2]) ∧ Below w.heap.size w w' := by
  subst hr
  unfold decF
  by_cases h : 127 < l.length
  · rw [if_pos h]; exact dec_long l h w
  · rw [if_neg h]
    by_cases h0 : (chk l).2 ≠ 0
    · rw [if_pos h0]; exact dec_crc l (by omega) _ _ rfl h0 w
    · rw [if_neg h0]
      have hc : chk l = ((chk l).1, 0) := Prod.ext rfl (by simpa using h0)
      have hl := chk_len l (by omega)
      have hle := rdF_le (chk l).1
      generalize (chk l).1 = p at *
      have hr : rdF p = ((rdF p).1, (rdF p).2.1, (rdF p).2.2.1, (rdF p).2.2.2) := rfl
      by_cases g1 : (rdF p).1 = true
      · by_cases g2 : closeF p (rdF p).2.2.1 (rdF p).2.2.2 = 0
        · by_cases g3 : (rdF p).2.1.ok = true
          · rw [if_pos ⟨g1, g2, g3⟩]; exact dec_ok l (by omega) p hl hc _ _ _ _ hr hle g1 g2 g3 w
          · rw [if_neg (fun h => g3 h.2.2)]; exact dec_check l (by omega) p hl hc _ _ _ _ hr hle g1 g2 (by simpa using g3) w
        · rw [if_neg (fun h => g2 h.2.1)]; exact dec_close l (by omega) p hl hc _ _ _ _ hr hle g1 _ rfl g2 w
      · rw [if_neg (fun h => g1 h.1)]; exact dec_kind l (by omega) p hl hc _ _ _ _ hr hle (by simpa using g1) w
end Go.Proofs.Ytbgnkjaikbhdoaa.Dec
