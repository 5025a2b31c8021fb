/- The walk of CellmsgFits. Printed by wip/cmfi.py. (cut to what is reached: wip/tools/slimout2.py) -/
import Derived.Test.YtjjcgjpmhhkeaaaSFCmFiK
import Derived.Test.YtjjcgjpmhhkeaaaSFCmFiL
namespace Go.Proofs.Ytjjcgjpmhhkeaaa.CmFiW
set_option linter.unusedSimpArgs false
set_option linter.unusedVariables false
open Go.RowKit Go.Proofs.Ytjjcgjpmhhkeaaa Go.Proofs.Ytjjcgjpmhhkeaaa.CmF Go.Proofs.Ytjjcgjpmhhkeaaa.CmS Go.Proofs.Ytjjcgjpmhhkeaaa.CmO Go.Proofs.YtjjcgjpmhhkeaaaW.PrintWords Go.Proofs.YtjjcgjpmhhkeaaaW.PrintMore
theorem walk (xk : Int) (xr : Bool) (xn xe xt : Int) (xA : Option Addr) (xl : List (Int × Int)) (xc : Nat) (xB : Option Addr) (xm : List (Int × Int)) (xd : Nat) (yk : Int) (yr : Bool) (yn ye yt : Int) (yA : Option Addr) (yl : List (Int × Int)) (yc : Nat) (yB : Option Addr) (ym : List (Int × Int)) (yd : Nat) (kp_ code : Int) (w : World) (h : MsIn w xA xl xc xB xm xd) (h' : MsIn w yA yl yc yB ym yd) (_ : (Lit.int .u8 kp_).wf = true) (_ : (Lit.int .i64 code).wf = true) :
    Calls Try.prog 7 #[.agg (ms xk xr xn xe xt xA xl.length xc xB xm.length xd), .agg (ms yk yr yn ye yt yA yl.length yc yB ym.length yd), .int .u8 kp_, .int .i64 code] w fun e w' => e = .returned (.bool true) ∧ Below w.heap.size w w' := by
  by_cases h3 : xk = 3
  · skip
    have tc : ∀ {A : Option Addr} {l : List (Int × Int)}, Sp w A l → Kd.C Go.Proofs.Ytjjcgjpmhhkeaaa.L.k37 w A (l.map CmFiL.un).length (l.map CmFiL.un) := fun {A l} h => by
      rw [List.length_map]
      refine CmK.map_C (d := kp) (f := fun x : Go.Proofs.Ytjjcgjpmhhkeaaa.L.S37 => (x.f0, x.f1)) ?_
      rw [CmFiL.mp]; exact h
    have := Go.Proofs.Ytjjcgjpmhhkeaaa.L.hopmeshlaw25_CellmsgFits.way 200 xk xr xn xe xt xA xc (xl.map CmFiL.un) xB xd (xm.map CmFiL.un) yk yr yn ye yt yA yc (yl.map CmFiL.un) yB yd (ym.map CmFiL.un) kp_ code true w (Aside0.mk rfl) (by simp [h3]) (tc h.hl) (by simpa using h.hc) (tc h.hm) (by simpa using h.hd) (tc h'.hl) (by simpa using h'.hc) (tc h'.hm) (by simpa using h'.hd) (CmFiL.fits_f ⟨xk, xr, xn, xe, xt, xl, xm⟩ ⟨yk, yr, yn, ye, yt, yl, ym⟩ h3 kp_ code)
    rw [List.length_map, List.length_map, List.length_map, List.length_map] at this
    exact this
  · skip
    have tc : ∀ {A : Option Addr} {l : List (Int × Int)}, Sp w A l → Kd.C Go.Proofs.Ytjjcgjpmhhkeaaa.K.k37 w A (l.map CmFiK.un).length (l.map CmFiK.un) := fun {A l} h => by
      rw [List.length_map]
      refine CmK.map_C (d := kp) (f := fun x : Go.Proofs.Ytjjcgjpmhhkeaaa.K.S37 => (x.f0, x.f1)) ?_
      rw [CmFiK.mp]; exact h
    have := Go.Proofs.Ytjjcgjpmhhkeaaa.K.hopmeshlaw25_CellmsgFits.way 200 xk xr xn xe xt xA xc (xl.map CmFiK.un) xB xd (xm.map CmFiK.un) yk yr yn ye yt yA yc (yl.map CmFiK.un) yB yd (ym.map CmFiK.un) kp_ code true w (Aside0.mk rfl) (by simp [h3]) (tc h.hl) (by simpa using h.hc) (tc h.hm) (by simpa using h.hd) (tc h'.hl) (by simpa using h'.hc) (tc h'.hm) (by simpa using h'.hd) (CmFiK.fits_f ⟨xk, xr, xn, xe, xt, xl, xm⟩ ⟨yk, yr, yn, ye, yt, yl, ym⟩ h3 kp_ code)
    rw [List.length_map, List.length_map, List.length_map, List.length_map] at this
    exact this
end Go.Proofs.Ytjjcgjpmhhkeaaa.CmFiW
