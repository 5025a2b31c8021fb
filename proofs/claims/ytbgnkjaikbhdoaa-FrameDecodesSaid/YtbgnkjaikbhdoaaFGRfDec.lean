/- hopmeshref13.Decode: what it returns for any bytes. (cut to what is reached: wip/tools/slimout2.py) -/
import Derived.Test.YtbgnkjaikbhdoaaFGRfTx
import Derived.Test.YtbgnkjaikbhdoaaFGE5
import Derived.Test.YtbgnkjaikbhdoaaFGDec
namespace Go.Proofs.Ytbgnkjaikbhdoaa.RfDec
set_option linter.unusedSimpArgs false
set_option linter.unusedVariables false
open Go.RowKit Go.Proofs.Ytbgnkjaikbhdoaa.E Go.Proofs.Ytbgnkjaikbhdoaa.Pack Go.Proofs.Ytbgnkjaikbhdoaa.Rd Go.Proofs.Ytbgnkjaikbhdoaa.RdC Go.Proofs.Ytbgnkjaikbhdoaa.RdT Go.Proofs.Ytbgnkjaikbhdoaa.PenR Go.Proofs.Ytbgnkjaikbhdoaa.RfEv Go.Proofs.Ytbgnkjaikbhdoaa.RfTx Go.Proofs.Ytbgnkjaikbhdoaa.Dec Go.Proofs.Ytbgnkjaikbhdoaa.FrCrc Go.Proofs.Ytbgnkjaikbhdoaa.FrC Go.Proofs.YtbgnkjaikbhdoaaW.PrintWords Go.Proofs.YtbgnkjaikbhdoaaW.PrintLast Go.Proofs.YtbgnkjaikbhdoaaW.PrintMore
open Go.Proofs.Ytbgnkjaikbhdoaa.Bytes (Str)
abbrev Tup := Int × Int × Int × Int × Int × Int × Int × Int × Int × Int × Int × ByteArray × Int
def tup (f : Fm) (c : Int) : Tup := (f.k, f.s, f.t, f.a, f.q, f.x, f.y, f.er, f.sl, f.rk, f.ep, Str f.d, c)
def outF (p : List UInt8) (f : Fm) (i : Nat) (e : Int) : Tup := if closeF p i e = 0 ∧ f.ok = true then tup f 0 else tup Fm.zero 10
variable {p : List UInt8} {i i' : Nat} {e e' : Int} {v : Nat}
theorem un_v (hs : p.length ≤ 65536) (hi : i ≤ 8 * p.length) (k : Nat) (kI : Int) (hk : (k : Int) = kI) (h1 : 1 ≤ k) (h2 : k ≤ 62) (h : rdf p k i e = (v, i', e')) (q : Nat) (hq : k + 1 < q) :
    hopmeshref02_Reader_Unsigned.f q (S p e) (P i e) e kI = some ((v : Int), S p e', P i' e', e') ∧ i' ≤ 8 * p.length := by
  have a := unsigned_ev p hs i hi e k kI hk h1 h2 q hq
  have b := rdf_le p k i e hi
  rw [h] at a b
  exact ⟨a, b⟩
theorem tx_v (hs : p.length ≤ 65536) (hi : i ≤ 8 * p.length) {d : List UInt8} (h : rdText p i e = (d, i', e')) (q : Nat) (hq : 200 < q) :
    hopmeshref02_Reader_Text.f q (S p e) (P i e) e 127 = some (Str d, S p e', P i' e', e') ∧ i' ≤ 8 * p.length := by
  have a := text_ev p hs i hi e q hq
  have b := rdText_le p i e hi
  rw [h] at a b
  exact ⟨a, b⟩
theorem j4_ev (hs : p.length ≤ 65536) (hi : i ≤ 8 * p.length) (f : Fm) (q : Nat) (hq : 9 < q) :
    hopmeshref13_Decode.j4 q (S p e) (P i e) e f.k f.s f.t f.a f.q f.x f.y f.er f.sl f.rk f.ep (Str f.d) = some (outF p f i e) := by
  obtain ⟨q, rfl⟩ : ∃ m, q = m + 1 := ⟨q - 1, by omega⟩
  obtain ⟨x, y, z, hc⟩ := close_ev p hs i hi e q (by omega)
  simp only [hopmeshref13_Decode.j4]
  rw [hc, Option.bind_some]
  dsimp only
  unfold outF
  by_cases h0 : closeF p i e = 0
  · rw [if_pos h0]
    unfold hopmeshref13_Check.f
    rw [Option.bind_some, str_list]
    cases g : f.ok
    · have : ckF f.k f.s f.t f.a f.q f.x f.y f.er f.sl f.rk f.ep f.d = 1 := by unfold ckF; rw [show okF f.k f.s f.t f.a f.q f.x f.y f.er f.sl f.rk f.ep f.d = false from g]; rfl
      rw [this, if_neg (by decide), if_neg (by simp)]
      rfl
    · have : ckF f.k f.s f.t f.a f.q f.x f.y f.er f.sl f.rk f.ep f.d = 0 := by unfold ckF; rw [show okF f.k f.s f.t f.a f.q f.x f.y f.er f.sl f.rk f.ep f.d = true from g]; rfl
      rw [this, if_pos rfl, if_pos ⟨h0, rfl⟩]
      rfl
  · rw [if_neg h0, if_neg (fun h => h0 h.1)]
    rfl
section
variable {i4 i5 i6 i7 i8 i9 : Nat} {e4 e5 e6 e7 e8 e9 : Int} {v4 v5 v6 v7 v8 : Nat} {d : List UInt8}
theorem j3_tx (hs : p.length ≤ 65536) (hi : i ≤ 8 * p.length) (k s t a q x y er sl rk ep : Int) (hk : k ≠ 2) (h : rdText p i e = (d, i', e')) (n : Nat) (hn : 202 < n) :
    hopmeshref13_Decode.j3 n (S p e) (P i e) e k s t a q x y er sl rk ep (⟨#[]⟩ : ByteArray) = some (outF p ⟨k, s, t, a, q, x, y, er, sl, rk, ep, d⟩ i' e') := by
  obtain ⟨n, rfl⟩ : ∃ m, n = m + 1 := ⟨n - 1, by omega⟩
  obtain ⟨a1, b1⟩ := tx_v hs hi h n (by omega)
  simp only [hopmeshref13_Decode.j3]
  rw [if_neg hk, a1, Option.bind_some]
  exact j4_ev hs b1 ⟨k, s, t, a, q, x, y, er, sl, rk, ep, d⟩ n (by omega)
theorem j0_1 (hs : p.length ≤ 65536) (hi : i ≤ 8 * p.length) (s t : Int) (h4 : rdf p 8 i e = (v4, i4, e4)) (h5 : rdf p 8 i4 e4 = (v5, i5, e5)) (h6 : rdf p 8 i5 e5 = (v6, i6, e6)) (h7 : rdf p 16 i6 e6 = (v7, i7, e7)) (h8 : rdText p i7 e7 = (d, i8, e8)) (n : Nat) (hn : 210 < n) :
    hopmeshref13_Decode.j0 n (S p e) (P i e) e 1 s t 0 0 0 0 0 0 0 0 (⟨#[]⟩ : ByteArray) = some (outF p ⟨1, s, t, v4, v5, v6, v7, 0, 0, 0, 0, d⟩ i8 e8) := by
  obtain ⟨n, rfl⟩ : ∃ m, n = m + 3 := ⟨n - 3, by omega⟩
  obtain ⟨a4, b4⟩ := un_v hs hi 8 8 rfl (by omega) (by omega) h4 (n + 2) (by omega)
  obtain ⟨a5, b5⟩ := un_v hs b4 8 8 rfl (by omega) (by omega) h5 (n + 2) (by omega)
  obtain ⟨a6, b6⟩ := un_v hs b5 8 8 rfl (by omega) (by omega) h6 (n + 2) (by omega)
  obtain ⟨a7, b7⟩ := un_v hs b6 16 16 rfl (by omega) (by omega) h7 (n + 2) (by omega)
  simp only [hopmeshref13_Decode.j0]
  rw [a4, Option.bind_some, a5, Option.bind_some, if_pos trivial, a6, Option.bind_some, a7, Option.bind_some]
  simp only [hopmeshref13_Decode.j1]
  rw [if_neg (by decide)]
  simp only [hopmeshref13_Decode.j2]
  rw [if_neg (by decide)]
  exact j3_tx hs b7 _ _ _ _ _ _ _ _ _ _ _ (by decide) h8 n (by omega)
theorem j0_2 (hs : p.length ≤ 65536) (hi : i ≤ 8 * p.length) (s t : Int) (h4 : rdf p 8 i e = (v4, i4, e4)) (h5 : rdf p 8 i4 e4 = (v5, i5, e5)) (h6 : rdf p 16 i5 e5 = (v6, i6, e6)) (n : Nat) (hn : 210 < n) :
    hopmeshref13_Decode.j0 n (S p e) (P i e) e 2 s t 0 0 0 0 0 0 0 0 (⟨#[]⟩ : ByteArray) = some (outF p ⟨2, s, t, v4, v5, 0, 0, rdS p i5 e5, 0, 0, 0, []⟩ i6 e6) := by
  obtain ⟨n, rfl⟩ : ∃ m, n = m + 4 := ⟨n - 4, by omega⟩
  obtain ⟨a4, b4⟩ := un_v hs hi 8 8 rfl (by omega) (by omega) h4 (n + 3) (by omega)
  obtain ⟨a5, b5⟩ := un_v hs b4 8 8 rfl (by omega) (by omega) h5 (n + 3) (by omega)
  have a6 := signed_ev p hs i5 b5 e5 (n + 2) (by omega)
  have b6 := rdf_le p 16 i5 e5 b5
  rw [h6] at a6 b6
  simp only [hopmeshref13_Decode.j0]
  rw [a4, Option.bind_some, a5, Option.bind_some, if_neg (by decide)]
  simp only [hopmeshref13_Decode.j1]
  rw [if_pos trivial, a6, Option.bind_some]
  simp only [hopmeshref13_Decode.j2]
  rw [if_neg (by decide)]
  simp only [hopmeshref13_Decode.j3]
  rw [if_pos trivial]
  exact j4_ev hs b6 ⟨2, s, t, v4, v5, 0, 0, rdS p i5 e5, 0, 0, 0, []⟩ n (by omega)
theorem j0_3 (hs : p.length ≤ 65536) (hi : i ≤ 8 * p.length) (s t : Int) (h4 : rdf p 8 i e = (v4, i4, e4)) (h5 : rdf p 8 i4 e4 = (v5, i5, e5)) (h6 : rdf p 27 i5 e5 = (v6, i6, e6)) (h7 : rdf p 16 i6 e6 = (v7, i7, e7)) (h8 : rdf p 16 i7 e7 = (v8, i8, e8)) (h9 : rdText p i8 e8 = (d, i9, e9)) (n : Nat) (hn : 210 < n) :
    hopmeshref13_Decode.j0 n (S p e) (P i e) e 3 s t 0 0 0 0 0 0 0 0 (⟨#[]⟩ : ByteArray) = some (outF p ⟨3, s, t, v4, v5, 0, 0, 0, v6, v7, v8, d⟩ i9 e9) := by
  obtain ⟨n, rfl⟩ : ∃ m, n = m + 3 := ⟨n - 3, by omega⟩
  obtain ⟨a4, b4⟩ := un_v hs hi 8 8 rfl (by omega) (by omega) h4 (n + 2) (by omega)
  obtain ⟨a5, b5⟩ := un_v hs b4 8 8 rfl (by omega) (by omega) h5 (n + 2) (by omega)
  obtain ⟨a6, b6⟩ := un_v hs b5 27 27 rfl (by omega) (by omega) h6 n (by omega)
  obtain ⟨a7, b7⟩ := un_v hs b6 16 16 rfl (by omega) (by omega) h7 n (by omega)
  obtain ⟨a8, b8⟩ := un_v hs b7 16 16 rfl (by omega) (by omega) h8 n (by omega)
  simp only [hopmeshref13_Decode.j0]
  rw [a4, Option.bind_some, a5, Option.bind_some, if_neg (by decide)]
  simp only [hopmeshref13_Decode.j1]
  rw [if_neg (by decide)]
  simp only [hopmeshref13_Decode.j2]
  rw [if_pos trivial, a6, Option.bind_some, a7, Option.bind_some, a8, Option.bind_some]
  exact j3_tx hs b8 _ _ _ _ _ _ _ _ _ _ _ (by decide) h9 n (by omega)
theorem j0_x (hs : p.length ≤ 65536) (hi : i ≤ 8 * p.length) (k s t : Int) (k1 : k ≠ 1) (k2 : k ≠ 2) (k3 : k ≠ 3) (h4 : rdf p 8 i e = (v4, i4, e4)) (h5 : rdf p 8 i4 e4 = (v5, i5, e5)) (h6 : rdText p i5 e5 = (d, i6, e6)) (n : Nat) (hn : 210 < n) :
    hopmeshref13_Decode.j0 n (S p e) (P i e) e k s t 0 0 0 0 0 0 0 0 (⟨#[]⟩ : ByteArray) = some (outF p ⟨k, s, t, v4, v5, 0, 0, 0, 0, 0, 0, d⟩ i6 e6) := by
  obtain ⟨n, rfl⟩ : ∃ m, n = m + 3 := ⟨n - 3, by omega⟩
  obtain ⟨a4, b4⟩ := un_v hs hi 8 8 rfl (by omega) (by omega) h4 (n + 2) (by omega)
  obtain ⟨a5, b5⟩ := un_v hs b4 8 8 rfl (by omega) (by omega) h5 (n + 2) (by omega)
  simp only [hopmeshref13_Decode.j0]
  rw [a4, Option.bind_some, a5, Option.bind_some, if_neg k1]
  simp only [hopmeshref13_Decode.j1]
  rw [if_neg k2]
  simp only [hopmeshref13_Decode.j2]
  rw [if_neg k3]
  exact j3_tx hs b5 _ _ _ _ _ _ _ _ _ _ _ k2 h6 n (by omega)
end
def outR (p : List UInt8) (r : Bool × Fm × Nat × Int) : Tup := if r.1 = true ∧ closeF p r.2.2.1 r.2.2.2 = 0 ∧ r.2.1.ok = true then tup r.2.1 0 else tup Fm.zero 10
def dF (p : List UInt8) : Tup := outR p (rdF p)
theorem outR_yes (p : List UInt8) (f : Fm) (x : Nat × Int) : outR p (true, f, x) = outF p f x.1 x.2 := by simp [outR, outF]
theorem outR_no (p : List UInt8) (f : Fm) (x : Nat × Int) : outR p (false, f, x) = tup Fm.zero 10 := by simp [outR]
attribute [local irreducible] rdf rdText rdTg rdS in
theorem j0_all (hs : p.length ≤ 65536) (hi : i ≤ 8 * p.length) (k : Nat) (s t : Int) (n : Nat) (hn : 210 < n) (h1 : (rdf p 3 0 0).1 = k) (h2 : ((rdf p 5 (rdf p 3 0 0).2.1 (rdf p 3 0 0).2.2).1 : Int) = s) (h3 : rdTg p (rdf p 5 (rdf p 3 0 0).2.1 (rdf p 3 0 0).2.2).2.1 (rdf p 5 (rdf p 3 0 0).2.1 (rdf p 3 0 0).2.2).2.2 = (t, i, e)) :
    hopmeshref13_Decode.j0 n (S p e) (P i e) e (k : Int) s t 0 0 0 0 0 0 0 0 (⟨#[]⟩ : ByteArray) = some (dF p) := by
  unfold dF rdF
  dsimp only
  rw [h1, h3]
  dsimp only
  rw [h2]
  by_cases k1 : k = 1
  · subst k1
    rw [if_pos rfl]
    have := j0_1 (e := e) hs hi s t (eta3 _) (eta3 _) (eta3 _) (eta3 _) (eta3 _) n hn
    rw [show ((1 : Nat) : Int) = 1 from rfl, this]
    rw [outR_yes]
  by_cases k2 : k = 2
  · subst k2
    rw [if_neg (by decide), if_pos rfl]
    have := j0_2 (e := e) hs hi s t (eta3 _) (eta3 _) (eta3 _) n hn
    rw [show ((2 : Nat) : Int) = 2 from rfl, this]
    rw [outR_yes]
  by_cases k3 : k = 3
  · subst k3
    rw [if_neg (by decide), if_neg (by decide), if_pos rfl]
    have := j0_3 (e := e) hs hi s t (eta3 _) (eta3 _) (eta3 _) (eta3 _) (eta3 _) (eta3 _) n hn
    rw [show ((3 : Nat) : Int) = 3 from rfl, this]
    rw [outR_yes]
  have := j0_x (e := e) hs hi (k : Int) s t (by omega) (by omega) (by omega) (eta3 _) (eta3 _) (eta3 _) n hn
  rw [this, if_neg k1, if_neg k2, if_neg k3]
  by_cases k4 : k = 4
  · subst k4
    rw [if_pos rfl, outR_yes]
    rfl
  · rw [if_neg k4, outR_no]
    have hz : ∀ a b d, (Fm.mk (k : Int) s t a b 0 0 0 0 0 0 d).ok = false := by
      intro a b d
      show okF (k : Int) s t a b 0 0 0 0 0 0 d = false
      unfold okF
      rw [if_neg (by omega), if_neg (by omega), if_neg (by omega), if_neg (by omega)]; rfl
    unfold outF
    rw [hz, if_neg (by simp)]
theorem dF_eq (l : List UInt8) (h : l.length ≤ 127) (h0 : (chk l).2 = 0) : dF (chk l).1 = tup (decF l).1 (decF l).2 := by
  unfold decF
  rw [if_neg (by omega), if_neg (fun g => g h0)]
  unfold dF outR
  split <;> rfl
attribute [local irreducible] rdf rdText rdTg rdS in
theorem head_ev (hs : p.length ≤ 65536) (n : Nat) (hn : 300 < n) :
    ((hopmeshref02_NewReader.f (Str p)).bind fun bt174 => ((hopmeshref02_Reader_Unsigned.f n bt174.1 bt174.2.1 bt174.2.2 3).bind fun bt178 => ((hopmeshref02_Reader_Unsigned.f n bt178.2.1 bt178.2.2.1 bt178.2.2.2 5).bind fun bt182 => ((hopmeshref02_Reader_Flag.f n bt182.2.1 bt182.2.2.1 bt182.2.2.2).bind fun bt187 => (if bt187.1 = true then ((hopmeshref02_Reader_Unsigned.f n bt187.2.1 bt187.2.2.1 bt187.2.2.2 5).bind fun bt191 => (hopmeshref13_Decode.j0 n bt191.2.1 bt191.2.2.1 bt191.2.2.2 bt178.1 bt182.1 bt191.1 0 0 0 0 0 0 0 0 (⟨#[]⟩ : ByteArray))) else (hopmeshref13_Decode.j0 n bt187.2.1 bt187.2.2.1 bt187.2.2.2 bt178.1 bt182.1 (-1) 0 0 0 0 0 0 0 0 (⟨#[]⟩ : ByteArray))))))) = some (dF p) := by
  have e0 : hopmeshref02_NewReader.f (Str p) = some (S p 0, P 0 0, 0) := by
    unfold hopmeshref02_NewReader.f
    rw [RfEv.str_size, if_neg (by omega), S0, P0]
    rfl
  obtain ⟨a1, b1⟩ := un_v hs (Nat.zero_le _) 3 3 rfl (by omega) (by omega) (eta3 (rdf p 3 0 0)) n (by omega)
  obtain ⟨a2, b2⟩ := un_v hs b1 5 5 rfl (by omega) (by omega) (eta3 _) n (by omega)
  have a3 := flag_ev p hs _ b2 (rdf p 5 (rdf p 3 0 0).2.1 (rdf p 3 0 0).2.2).2.2 n (by omega)
  have b3 := rdf_le p 1 _ (rdf p 5 (rdf p 3 0 0).2.1 (rdf p 3 0 0).2.2).2.2 b2
  have key := fun (t : Int) (i : Nat) (e : Int) (hi : i ≤ 8 * p.length) h3 => j0_all (p := p) (i := i) (e := e) hs hi (rdf p 3 0 0).1 ((rdf p 5 (rdf p 3 0 0).2.1 (rdf p 3 0 0).2.2).1 : Int) t n (by omega) rfl rfl h3
  unfold rdTg at key
  generalize (rdf p 5 (rdf p 3 0 0).2.1 (rdf p 3 0 0).2.2) = h2 at *
  rw [e0, Option.bind_some, a1, Option.bind_some, a2, Option.bind_some, a3, Option.bind_some]
  dsimp only
  by_cases hf : (rdf p 1 h2.2.1 h2.2.2).1 = 1
  · obtain ⟨a4, b4⟩ := un_v hs b3 5 5 rfl (by omega) (by omega) (eta3 _) n (by omega)
    rw [if_pos (decide_eq_true hf), a4, Option.bind_some]
    exact key _ _ _ b4 (by rw [if_pos hf])
  · rw [if_neg (by simpa using hf)]
    exact key _ _ _ b3 (by rw [if_neg hf])
theorem rdec_f (l : List UInt8) (n : Nat) (hn : 300 < n) (hl : l.length ≤ 140737488351232) : hopmeshref13_Decode.f n (Str l) = some (tup (decF l).1 (decF l).2) := by
  unfold hopmeshref13_Decode.f
  rw [RfEv.str_size]
  by_cases h : 127 < l.length
  · rw [if_pos (by omega)]
    unfold decF
    rw [if_pos h]
    rfl
  · rw [if_neg (by omega)]
    unfold hopmeshref03_Check.f
    rw [RfEv.str_size, if_pos hl, Option.bind_some, str_list]
    dsimp only
    by_cases h0 : (chk l).2 = 0
    · rw [if_pos h0, ← dF_eq l (by omega) h0]
      exact head_ev (Nat.le_trans (chk_len l (by omega)) (by omega)) n hn
    · rw [if_neg h0]
      unfold decF
      rw [if_neg h, if_pos h0]
      rfl
theorem rdecode_any (l : List UInt8) (hl : l.length ≤ 140737488351232) (r : Fm × Int) (hr : decF l = r) (w : World) :
    Calls Try.prog 23 #[.string (Str l)] w fun e w' => e = .returned (.tuple #[.agg r.1.cells, .int .i64 r.2]) ∧ Below w.heap.size w w' := by
  subst hr
  have h := rdec_f l 301 (by omega) hl
  unfold tup at h
  exact hopmeshref13_Decode.calls 301 (Str l) _ _ _ _ _ _ _ _ _ _ _ _ _ w h
end Go.Proofs.Ytbgnkjaikbhdoaa.RfDec
