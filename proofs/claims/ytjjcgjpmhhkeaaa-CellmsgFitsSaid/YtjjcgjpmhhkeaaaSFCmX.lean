/- Contracts over pairs: awake, cellmsg.Answers, Accept, Refuse, slices.Equal. (cut to what is reached: wip/tools/slimout2.py) -/
import Derived.Test.YtjjcgjpmhhkeaaaSFCmR2
import Derived.Test.YtjjcgjpmhhkeaaaSFB10
import Derived.Test.YtjjcgjpmhhkeaaaSFCmHd
namespace Go.Proofs.Ytjjcgjpmhhkeaaa.CmX
set_option linter.unusedSimpArgs false
set_option linter.unusedVariables false
open Go.RowKit Go.Proofs.Ytjjcgjpmhhkeaaa.CmF Go.Proofs.Ytjjcgjpmhhkeaaa.CmS Go.Proofs.Ytjjcgjpmhhkeaaa.CmO Go.Proofs.Ytjjcgjpmhhkeaaa.CmP Go.Proofs.Ytjjcgjpmhhkeaaa.CmK Go.Proofs.Ytjjcgjpmhhkeaaa.CmQ Go.Proofs.Ytjjcgjpmhhkeaaa.CmR Go.Proofs.Ytjjcgjpmhhkeaaa.CmR2 Go.Proofs.Ytjjcgjpmhhkeaaa.B Go.Proofs.YtjjcgjpmhhkeaaaW.PrintWords Go.Proofs.YtjjcgjpmhhkeaaaW.PrintMore
open Go.Proofs.Ytjjcgjpmhhkeaaa.CmBk (Ms)
open Go.Proofs.Ytjjcgjpmhhkeaaa.CmHd (Got R_map)
section
variable (k : Int) (r : Bool) (n cd ct : Int) (l m : List S) (x : Int) (u v : List S) (y : Int)
abbrev Rep := Int × Bool × Int × Int × Int × List S × List S × Int
def accF : Rep :=
  if chkF k r n cd ct (pl l) (pl m) = 0 ∧ r = false then
    if ansF k r n cd ct (pl l) (pl m) k true n 0 x (pl u) (pl v) = true then (k, true, n, 0, x, u, v, 0) else (0, false, 0, 0, 0, [], [], 12)
  else (0, false, 0, 0, 0, [], [], 1)
theorem cacc (K : Nat) (hK : 30 ≤ K) (hu : u.length ≤ 12) (hv : v.length ≤ 12) : cellmsg_Accept.f (K + 2) k r n cd ct l m x u v = some (accF k r n cd ct l m x u v) := by
  have hT : cellmsg_Accept.j0 (K + 2) x u v true k r n cd ct l m = some (0, false, 0, 0, 0, [], [], 1) := by rw [cellmsg_Accept.j0]; rw [if_pos rfl]
  unfold cellmsg_Accept.f accF
  simp only [cellmsg_Check.f, Option.bind_some]
  change (if chkF k r n cd ct (pl l) (pl m) = 0 then _ else _) = _
  by_cases c1 : chkF k r n cd ct (pl l) (pl m) = 0
  · rw [if_pos c1]
    cases r
    · rw [if_pos ⟨c1, rfl⟩, cellmsg_Accept.j0, if_neg (by simp)]
      have e1 : api_Spot_42.f u = some u := by unfold api_Spot_42.f; rw [if_pos (by omega)]
      have e2 : api_Spot_42.f v = some v := by unfold api_Spot_42.f; rw [if_pos (by omega)]
      rw [e1, e2, Option.bind_some, Option.bind_some, cans _ _ _ _ _ _ _ _ _ _ _ _ _ _ K (by omega) hu hv, Option.bind_some]
      cases ansF k false n cd ct (pl l) (pl m) k true n 0 x (pl u) (pl v) <;> rfl
    · rw [hT, if_neg (by simp)]
  · rw [if_neg c1, hT, if_neg (by simp [c1])]
def refF : Rep := if chkF k r n cd ct (pl l) (pl m) = 0 ∧ r = false then (if y < 1 then (0, false, 0, 0, 0, [], [], 2) else if y > 3 then (0, false, 0, 0, 0, [], [], 2) else (k, true, n, y, 0, [], [], 0)) else (0, false, 0, 0, 0, [], [], 1)
theorem cref (K : Nat) : cellmsg_Refuse.f (K + 1) k r n cd ct l m y = some (refF k r n cd ct l m y) := by
  have hT : cellmsg_Refuse.j0 (K + 1) y true k r n cd ct l m = some (0, false, 0, 0, 0, [], [], 1) := by rw [cellmsg_Refuse.j0]; rw [if_pos rfl]
  unfold cellmsg_Refuse.f refF
  simp only [cellmsg_Check.f, Option.bind_some]
  change (if chkF k r n cd ct (pl l) (pl m) = 0 then _ else _) = _
  by_cases c1 : chkF k r n cd ct (pl l) (pl m) = 0
  · rw [if_pos c1]
    cases r
    · rw [if_pos ⟨c1, rfl⟩, cellmsg_Refuse.j0, if_neg (by simp)]
      split
      · rfl
      · split <;> rfl
    · rw [hT, if_neg (by simp)]
  · rw [if_neg c1, hT, if_neg (by simp [c1])]
end
theorem awake_p (w : World) : Calls Try.prog 11 #[] w fun e w' => e = .returned (.bool true) ∧ Below w.heap.size w w' :=
  hopmeshlaw25_awake.calls 40 true w hopmeshlaw25_awake.is
theorem answers_p (xk : Int) (xr : Bool) (xn xe xt : Int) (xA : Option Addr) (xl : List (Int × Int)) (xc : Nat) (xB : Option Addr) (xm : List (Int × Int)) (xd : Nat) (yk : Int) (yr : Bool) (yn ye yt : Int) (yA : Option Addr) (yl : List (Int × Int)) (yc : Nat) (yB : Option Addr) (ym : List (Int × Int)) (yd : Nat) (w : World) (h : MsIn w xA xl xc xB xm xd) (h' : MsIn w yA yl yc yB ym yd) (hl : yl.length ≤ 12) (hm : ym.length ≤ 12) :
    Calls Try.prog 17 #[.agg (ms xk xr xn xe xt xA xl.length xc xB xm.length xd), .agg (ms yk yr yn ye yt yA yl.length yc yB ym.length yd)] w fun e w' => e = .returned (.bool (ansF xk xr xn xe xt xl xm yk yr yn ye yt yl ym)) ∧ Below w.heap.size w w' := by
  have hf := cans xk xr xn xe xt (xl.map un) (xm.map un) yk yr yn ye yt (yl.map un) (ym.map un) 20 (by omega) (by simpa using hl) (by simpa using hm)
  have e : ∀ l : List (Int × Int), pl (l.map un) = l := pq_un
  rw [e, e, e, e] at hf
  have := cellmsg_Answers.calls 21 xk xr xn xe xt xA xc (xl.map un) xB xd (xm.map un) yk yr yn ye yt yA yc (yl.map un) yB yd (ym.map un) _ w (toB h.hl) (by simpa using h.hc) (toB h.hm) (by simpa using h.hd) (toB h'.hl) (by simpa using h'.hc) (toB h'.hm) (by simpa using h'.hd) hf
  rw [List.length_map, List.length_map, List.length_map, List.length_map] at this
  exact this
def accM (x : Ms) (ct : Int) (u v : List (Int × Int)) : Ms × Int :=
  if x.chk = 0 ∧ x.r = false then
    if ansF x.k x.r x.n x.cd x.ct x.l x.m x.k true x.n 0 ct u v = true then (⟨x.k, true, x.n, 0, ct, u, v⟩, 0) else (.zero, 12)
  else (.zero, 1)
def refM (x : Ms) (y : Int) : Ms × Int :=
  if x.chk = 0 ∧ x.r = false then (if y < 1 then (.zero, 2) else if y > 3 then (.zero, 2) else (⟨x.k, true, x.n, y, 0, [], []⟩, 0)) else (.zero, 1)
theorem accept_p (x : Ms) (xA : Option Addr) (xc : Nat) (xB : Option Addr) (xd : Nat) (ct : Int) (yA : Option Addr) (yl : List (Int × Int)) (yc : Nat) (zA : Option Addr) (zl : List (Int × Int)) (zc : Nat) (w : World) (h : MsIn w xA x.l xc xB x.m xd) (hy : Sp w yA yl) (hyc : yl.length ≤ yc) (hz : Sp w zA zl) (hzc : zl.length ≤ zc) (h1 : yl.length ≤ 12) (h2 : zl.length ≤ 12) :
    Calls Try.prog 19 #[.agg (ms x.k x.r x.n x.cd x.ct xA x.l.length xc xB x.m.length xd), .int .i64 ct, .slice yA yl.length yc, .slice zA zl.length zc] w (Got (accM x ct yl zl).1 (accM x ct yl zl).2 w) := by
  have e : ∀ l : List (Int × Int), pl (l.map un) = l := pq_un
  have hf := cacc x.k x.r x.n x.cd x.ct (x.l.map un) (x.m.map un) ct (yl.map un) (zl.map un) 30 (by omega) (by simpa using h1) (by simpa using h2)
  have hE : accF x.k x.r x.n x.cd x.ct (x.l.map un) (x.m.map un) ct (yl.map un) (zl.map un) = ((accM x ct yl zl).1.k, (accM x ct yl zl).1.r, (accM x ct yl zl).1.n, (accM x ct yl zl).1.cd, (accM x ct yl zl).1.ct, (accM x ct yl zl).1.l.map un, (accM x ct yl zl).1.m.map un, (accM x ct yl zl).2) := by
    unfold accF accM
    rw [e, e, e, e]
    show (if x.chk = 0 ∧ x.r = false then _ else _) = _
    by_cases c1 : x.chk = 0 ∧ x.r = false
    · rw [if_pos c1, if_pos c1]
      by_cases c2 : ansF x.k x.r x.n x.cd x.ct x.l x.m x.k true x.n 0 ct yl zl = true
      · rw [if_pos c2, if_pos c2]
      · rw [if_neg c2, if_neg c2]; rfl
    · rw [if_neg c1, if_neg c1]; rfl
  rw [hE] at hf
  have := cellmsg_Accept.calls 32 x.k x.r x.n x.cd x.ct xA xc (x.l.map un) xB xd (x.m.map un) ct yA yc (yl.map un) zA zc (zl.map un) _ _ _ _ _ _ _ _ w (toB h.hl) (by simpa using h.hc) (toB h.hm) (by simpa using h.hd) (toB hy) (by simpa using hyc) (toB hz) (by simpa using hzc) hf
  rw [List.length_map, List.length_map, List.length_map, List.length_map] at this
  refine this.mono ?_
  rintro r w' ⟨v5, v6, rfl, h5, h6, hb⟩
  refine ⟨v5, v6, rfl, ?_, ?_, hb⟩
  · have := R_map h5
    rwa [show ∀ l : List (Int × Int), (l.map un).map (fun x : S => (x.f0, x.f1)) = l from pq_un] at this
  · have := R_map h6
    rwa [show ∀ l : List (Int × Int), (l.map un).map (fun x : S => (x.f0, x.f1)) = l from pq_un] at this
theorem refuse_p (x : Ms) (xA : Option Addr) (xc : Nat) (xB : Option Addr) (xd : Nat) (y : Int) (w : World) (h : MsIn w xA x.l xc xB x.m xd) :
    Calls Try.prog 21 #[.agg (ms x.k x.r x.n x.cd x.ct xA x.l.length xc xB x.m.length xd), .int .i64 y] w (Got (refM x y).1 (refM x y).2 w) := by
  have e : ∀ l : List (Int × Int), pl (l.map un) = l := pq_un
  have hf := cref x.k x.r x.n x.cd x.ct (x.l.map un) (x.m.map un) y 5
  have hE : refF x.k x.r x.n x.cd x.ct (x.l.map un) (x.m.map un) y = ((refM x y).1.k, (refM x y).1.r, (refM x y).1.n, (refM x y).1.cd, (refM x y).1.ct, (refM x y).1.l.map un, (refM x y).1.m.map un, (refM x y).2) := by
    unfold refF refM
    rw [e, e]
    show (if x.chk = 0 ∧ x.r = false then _ else _) = _
    by_cases c1 : x.chk = 0 ∧ x.r = false
    · rw [if_pos c1, if_pos c1]
      by_cases c2 : y < 1
      · rw [if_pos c2, if_pos c2]; rfl
      · rw [if_neg c2, if_neg c2]
        by_cases c3 : y > 3
        · rw [if_pos c3, if_pos c3]; rfl
        · rw [if_neg c3, if_neg c3]; rfl
    · rw [if_neg c1, if_neg c1]; rfl
  rw [hE] at hf
  have := cellmsg_Refuse.calls 6 x.k x.r x.n x.cd x.ct xA xc (x.l.map un) xB xd (x.m.map un) y _ _ _ _ _ _ _ _ w (toB h.hl) (by simpa using h.hc) (toB h.hm) (by simpa using h.hd) hf
  rw [List.length_map, List.length_map] at this
  refine this.mono ?_
  rintro r w' ⟨v5, v6, rfl, h5, h6, hb⟩
  refine ⟨v5, v6, rfl, ?_, ?_, hb⟩
  · have := R_map h5
    rwa [show ∀ l : List (Int × Int), (l.map un).map (fun x : S => (x.f0, x.f1)) = l from pq_un] at this
  · have := R_map h6
    rwa [show ∀ l : List (Int × Int), (l.map un).map (fun x : S => (x.f0, x.f1)) = l from pq_un] at this
end Go.Proofs.Ytjjcgjpmhhkeaaa.CmX
