/- Kinds over a map; cellmsg.Check and the reference's Check, Encode, Clone, among over pairs. (cut to what is reached: wip/tools/slimout2.py) -/
import Derived.Test.YtjjcgjpmhhkeaaaSFCmP
import Derived.Test.YtjjcgjpmhhkeaaaSFCmV
import Derived.Test.YtjjcgjpmhhkeaaaSFCmE
import Derived.Test.YtjjcgjpmhhkeaaaSFCmA
import Derived.Test.YtjjcgjpmhhkeaaaSFCmCl
namespace Go.Proofs.Ytjjcgjpmhhkeaaa.CmK
set_option linter.unusedSimpArgs false
set_option linter.unusedVariables false
open Go.RowKit Go.Proofs.Ytjjcgjpmhhkeaaa.Pack Go.Proofs.Ytjjcgjpmhhkeaaa.CmG Go.Proofs.Ytjjcgjpmhhkeaaa.CmH Go.Proofs.Ytjjcgjpmhhkeaaa.CmF Go.Proofs.Ytjjcgjpmhhkeaaa.CmS Go.Proofs.Ytjjcgjpmhhkeaaa.CmP Go.Proofs.Ytjjcgjpmhhkeaaa.CmE Go.Proofs.Ytjjcgjpmhhkeaaa.CmA Go.Proofs.Ytjjcgjpmhhkeaaa.CmCl Go.Proofs.YtjjcgjpmhhkeaaaW.PrintWords Go.Proofs.YtjjcgjpmhhkeaaaW.PrintMore
open Go.Proofs.Ytjjcgjpmhhkeaaa.Bytes (Str)
section
variable {α β : Type} {d : Kd α} {f : β → α} {w : World}
theorem C_map {A : Option Addr} {n : Nat} {xs : List β} (h : (Kd.iso d f).C w A n xs) : d.C w A n (xs.map f) := by
  obtain ⟨h1, h2, h3⟩ := h
  refine ⟨by simpa using h1, h2, fun hn => ?_⟩
  obtain ⟨ad, e, hc⟩ := h3 hn
  refine ⟨ad, e, fun j p hp => ?_⟩
  rw [List.getElem?_map] at hp
  obtain ⟨q, hq, rfl⟩ := Option.map_eq_some_iff.1 hp
  exact hc j q hq
theorem map_C {A : Option Addr} {n : Nat} {xs : List β} (h : d.C w A n (xs.map f)) : (Kd.iso d f).C w A n xs := by
  obtain ⟨h1, h2, h3⟩ := h
  refine ⟨by simpa using h1, h2, fun hn => ?_⟩
  obtain ⟨ad, e, hc⟩ := h3 hn
  refine ⟨ad, e, fun j p hp => hc j (f p) ?_⟩
  rw [List.getElem?_map, hp]; rfl
theorem map_R {e base : Nat} {ok : Nat → Prop} {v : Value} {xs : List β} (h : d.R e w base ok v (xs.map f)) : (Kd.iso d f).R e w base ok v xs := by
  obtain ⟨h1, inner, h2, h3, h4⟩ := h
  refine ⟨h1, inner, by rw [List.length_map] at h2; exact h2, by rw [List.length_map] at h3; exact h3, fun j p hp => h4 j (f p) ?_⟩
  rw [List.getElem?_map, hp]; rfl
end
theorem check_any (k : Int) (r : Bool) (n cd ct : Int) (A : Option Addr) (c : Nat) (A' : Option Addr) (c' : Nat) (l m : List (Int × Int)) (w : World) (hl : Sp w A l) (hc : l.length ≤ c) (hm : Sp w A' m) (hc' : m.length ≤ c') :
    Calls Try.prog 13 #[.agg (ms k r n cd ct A l.length c A' m.length c')] w fun e w' => e = .returned (.int .i64 (chkF k r n cd ct l m)) ∧ Below w.heap.size w w' := Go.Proofs.Ytjjcgjpmhhkeaaa.CmV.check_v k r n cd ct A c A' c' l m w hl hc hm hc'
theorem chk_ok {k : Int} {r : Bool} {n cd ct : Int} {l m : List (Int × Int)} (h : chkF k r n cd ct l m = 0) :
    (1 ≤ k ∧ k ≤ 6) ∧ (0 ≤ n ∧ n ≤ 255 ∧ 0 ≤ cd ∧ cd ≤ 3 ∧ 0 ≤ ct ∧ ct ≤ 512) ∧ (l.length ≤ 8 ∧ m.length ≤ 8) ∧ plF l = 0 ∧ plF m = 0 ∧ followsB k r cd ct l.length m.length = true := by
  unfold chkF at h
  split at h
  · omega
  · split at h
    · omega
    · split at h
      · omega
      · split at h
        · omega
        · split at h
          · omega
          · split at h
            · refine ⟨by omega, by omega, by omega, by omega, by omega, by assumption⟩
            · omega
theorem plErr_ok : ∀ (l : List (Int × Int)) (q : Option Int), plErr q l = 0 → PlOk l := by
  intro l
  induction l with
  | nil => intro q _ p hp; cases hp
  | cons x l ih =>
    intro q h p hp
    unfold plErr at h
    split at h
    · omega
    · split at h
      · omega
      · rcases List.mem_cons.1 hp with rfl | hp
        · omega
        · exact ih _ h p hp
def encF (k : Int) (r : Bool) (n cd ct : Int) (l m : List (Int × Int)) : List UInt8 × Int := if chkF k r n cd ct l m = 0 then (pack (msBits k r n cd ct l m), 0) else ([], chkF k r n cd ct l m)
theorem encode_any (k : Int) (r : Bool) (n cd ct : Int) (A : Option Addr) (c : Nat) (A' : Option Addr) (c' : Nat) (l m : List (Int × Int)) (w : World) (hl : Sp w A l) (hc : l.length ≤ c) (hm : Sp w A' m) (hc' : m.length ≤ c') :
    Calls Try.prog 15 #[.agg (ms k r n cd ct A l.length c A' m.length c')] w fun x w' => x = .returned (.tuple #[.string (Str (encF k r n cd ct l m).1), .int .i64 (encF k r n cd ct l m).2]) ∧ Below w.heap.size w w' := by
  have hC : ∀ e, chkF k r n cd ct l m = e → Chk w (ms k r n cd ct A l.length c A' m.length c') e := by
    intro e he w1 hb
    rw [← he]
    exact check_any k r n cd ct A c A' c' l m w1 (hl.below hb) hc (hm.below hb) hc'
  by_cases h : chkF k r n cd ct l m = 0
  · obtain ⟨h1, h2, h3, h4, h5, h6⟩ := chk_ok h
    have hC0 := hC 0 h
    have p4 := plErr_ok _ _ h4
    have p5 := plErr_ok _ _ h5
    have E : encF k r n cd ct l m = (pack (msBits k r n cd ct l m), 0) := if_pos h
    clear hC h4 h5 h6 h
    rw [E]
    dsimp only
    exact enc_ok k r n cd ct A c A' c' l m w hl hm hC0 (by omega) h1.2 h2.1 h2.2.1 h2.2.2.1 h2.2.2.2.1 h2.2.2.2.2.1 h2.2.2.2.2.2 h3.1 h3.2 p4 p5
  · have E : encF k r n cd ct l m = ([], chkF k r n cd ct l m) := if_neg h
    have hC0 := hC _ rfl
    rw [E]
    dsimp only
    exact enc_bad k r n cd ct A l.length c A' m.length c' _ h w hC0
end Go.Proofs.Ytjjcgjpmhhkeaaa.CmK
