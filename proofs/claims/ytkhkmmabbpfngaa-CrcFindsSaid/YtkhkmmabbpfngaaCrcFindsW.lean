/- Wrong bits are found: the walk of CrcFinds. -/
import Derived.Test.YtkhkmmabbpfngaaCrcFlip
import Derived.Test.YtkhkmmabbpfngaaCrcFindsP
import Derived.Test.YtkhkmmabbpfngaaSet
import Derived.Test.YtkhkmmabbpfngaaOpn
namespace Go.Proofs.Ytkhkmmabbpfngaa.CrcFindsW
open Go.Proofs.Ytkhkmmabbpfngaa.Con hiding Str
open Go.RowKit Go.Proofs.Ytkhkmmabbpfngaa.Bytes Go.Proofs.Ytkhkmmabbpfngaa.Alg Go.Proofs.Ytkhkmmabbpfngaa.CrcA Go.Proofs.Ytkhkmmabbpfngaa.FindsP Go.Proofs.Ytkhkmmabbpfngaa.Set Go.Proofs.YtkhkmmabbpfngaaW.PrintWords Go.Proofs.YtkhkmmabbpfngaaW.PrintLast

theorem flip_gen (l : List UInt8) (i : Nat) (q : Int) (hq : q = (i : Int)) (hi : i < 8 * l.length) (hl : l.length ≤ 1000000) (w : World) :
    Calls Try.prog 26 #[.string (Str l), .int .i64 q] w fun e w' => e = .returned (.string (Str (flip l i))) ∧ Below w.heap.size w w' := by
  subst hq; exact CrcFlip.flip_any l i hi hl w
theorem bit_test (m : BitVec 16) (k : Nat) : (Go.bits .and .u16 ((m.toNat : Int) / 2 ^ k) 1 == 1) = m.toNat.testBit k := by
  have hb := m.isLt
  have hl : m.toNat / 2 ^ k < 65536 := Nat.lt_of_le_of_lt (Nat.div_le_self _ _) hb
  have e : ((m.toNat : Int) / 2 ^ k) = ((m.toNat / 2 ^ k : Nat) : Int) := by simp
  rw [e, show (1 : Int) = ((1 : Nat) : Int) from rfl, u16_and_nat _ _ hl (by decide), nat_mask1, Nat.testBit_eq_decide_div_mod_eq]
  generalize m.toNat / 2 ^ k = q
  by_cases h : q % 2 = 1
  · rw [h]; rfl
  · rw [show q % 2 = 0 by omega]; rfl
theorem more {qs : List Nat} {Q N k : Nat} (h : qs.Nodup ∧ (∀ j ∈ qs, j < N) ∧ qs.length ≤ k) (hn : Q ∉ qs) (hQ : Q < N) : (qs ++ [Q]).Nodup ∧ (∀ j ∈ qs ++ [Q], j < N) ∧ (qs ++ [Q]).length ≤ k + 1 := by
  obtain ⟨h1, h2, h3⟩ := h
  refine ⟨?_, ?_, by simp; omega⟩
  · rw [List.nodup_append]
    refine ⟨h1, by simp, ?_⟩
    intro a ha b hb e
    simp at hb
    subst hb; subst e
    exact hn ha
  · intro j hj
    simp at hj
    rcases hj with hj | rfl
    · exact h2 j hj
    · exact hQ
theorem below_grown {b : Nat} {w w1 w2 : World} (h : Below w.heap.size w w1) (hg : w1.grownBy w2 (some b)) (hb : w.heap.size ≤ b) : Below w.heap.size w w2 :=
  ⟨hg.os.trans h.os, hg.tape.trans h.tape, hg.output.trans h.output, Nat.le_trans h.size hg.size, fun i hi => (hg.block i (Nat.lt_of_lt_of_le hi h.size) (by intro e; injection e with e; omega)).trans (h.block i hi)⟩

set_option maxRecDepth 100000 in
set_option maxHeartbeats 8000000 in
theorem walk0 (l : List UInt8) (f m : BitVec 16) (A : Option Addr) (n c : Nat) (w : World) (hl : l.length ≤ 300) (hn : n ≤ 15)
    (hA : ∀ k, k < n → ∃ bA off q : Nat, A = some ⟨bA, off, none⟩ ∧ q < 65536 ∧ bA < w.heap.size ∧ w.cell? ⟨bA, off + k, none⟩ = some (.int .u16 (q : Int))) :
    Calls Try.prog 10 #[.string (Str l), .agg #[U f, U m], .slice A n c] w fun e w' => e = .returned (.bool true) ∧ Below w.heap.size w w' := by
  have hsl : (Str l).size = l.length := by show l.toArray.size = _; simp
  have hpl : (protect l).length = l.length + 2 := by simp [protect]
  have hsp : (Str (protect l)).size = l.length + 2 := by show (protect l).toArray.size = _; simp [protect]
  obtain ⟨N, hN⟩ : ∃ N, N = 8 * (l.length + 2) := ⟨_, rfl⟩
  obtain ⟨I, hI⟩ : ∃ I, I = f.toNat % N := ⟨_, rfl⟩
  have hIN : I < N := by rw [hI]; exact Nat.mod_lt _ (by omega)
  have hN2 : N ≤ 2416 := by omega
  obtain ⟨L, hL⟩ : ∃ L, L = protect l := ⟨_, rfl⟩
  have hLl : L.length = l.length + 2 := by rw [hL]; exact hpl
  have hL0 : rem L = 0#16 := by rw [hL]; exact rem_protect l
  have hNL : N = 8 * L.length := by omega
  have hflen : (flip L I).length = L.length := flip_length L I
  have hfr : rem (flip L I) = pow I := by rw [rem_flip L I (by omega), hL0]; simp
  have P1 := protect_any l (by omega)
  rw [← hL] at P1
  have P2 := CrcFlip.flip_any L I (by omega) (by omega)
  have P3 := syndrome_any (flip L I) (by omega) (Ev.n (pow I), 0) (by unfold synd; rw [if_neg (by omega), hfr])
  have P4 := locate_any (pow I) (N : Int) ((I : Int), true) (by rw [Ev.locate_at (by omega), if_pos (by omega)])
  have P5 := pow_any (I : Int) (by omega) (pow I) (by unfold Ev.powI; rw [if_neg (by omega)]; rfl)
  have hz : ((L.length : Int) != (l.length : Int) + 2) = false := by rw [hLl]; simp
  have e8 : (8 * (L.length : Int)) = (N : Int) := by rw [hLl, hN]; omega
  have hLb : L.length ≤ 302 := by omega
  have hLc : 2 ≤ L.length := by omega
  have em : (f.toNat : Int) % (N : Int) = (I : Int) := by rw [hI]; omega
  have hx : (Str l).size ≤ 300 := by omega
  have hp : Str L = Str (flips L []) := rfl
  have H1 := Lib.hid P1
  have H2 := Lib.hid P2
  have H3 := Lib.hid P3
  have H4 := Lib.hid P4
  have H5 := Lib.hid P5
  have HL := Lib.hid hL
  have HP := Lib.hid hp
  have HNL := Lib.hid hNL
  have HL0 := Lib.hid hL0
  clear P1 P2 P3 P4 P5 hsl hsp hL hp hN hI hLl hNL hL0 hflen hfr hpl
  clear hx
  go_enter Try.func10, Try.ntmps10
  go_wp2_with fail
  refine (awake_any _).mono ?_
  rintro e w1 ⟨rfl, hb⟩
  have c0 : w1.cell? ⟨w.heap.size, 0, none⟩ = some (U f) := by
    rw [hb.cell (p := ⟨w.heap.size, 0, none⟩) (by simp), World.cell?_alloc_at _ _ _ _ rfl]; rfl
  have c1 : w1.cell? ⟨w.heap.size, 1, none⟩ = some (U m) := by
    rw [hb.cell (p := ⟨w.heap.size, 1, none⟩) (by simp), World.cell?_alloc_at _ _ _ _ rfl]; rfl
  have hw1 : Below w.heap.size w w1 := ((Below.refl _ _).alloc (Nat.le_refl _) _).trans (hb.mono (by simp))
  go_wp2_with fail
  go_quiet (fail)
  clear c0 c1
  go_wp2_with fail
  refine (H1.out _).mono ?_
  rintro e w2 ⟨rfl, hw2⟩
  go_wp2_with fail
  refine (H2.out _).mono ?_
  rintro e w3 ⟨rfl, hw3⟩
  go_wp2_with fail
  refine (H3.out _).mono ?_
  rintro e w4 ⟨rfl, hw4⟩
  go_wp2_with fail
  refine (H4.out _).mono ?_
  rintro e w5 ⟨rfl, hw5⟩
  go_wp2_with fail
  refine (H5.out _).mono ?_
  rintro e w6 ⟨rfl, n6, rfl⟩
  go_wp2_with fail
  have HB6 := Lib.hid (pw_below_drewN (bl (bl (bl (bl (pw_below_drewN hw1 nq) hw2) hw3) hw4) hw5) n6)
  go_loopw [17, 87] (fun v i wr => ∃ k : Nat, k ≤ 16 ∧ i = .int .i64 k ∧ v = .string (Str (flips L (burst m.toNat I N k))) ∧ Hid (Below w.heap.size w wr)) (fun _ i _ => 16 - (intOf i).toNat)
  case atStart => exact ⟨0, by omega, rfl, rfl, HB6⟩
  case round =>
    clear HB6
    obtain ⟨k, hk, rfl, rfl, HB6⟩ := hrel
    by_cases hlt : k < 16
    · have hbt := bit_test m k
      by_cases hbit : m.toNat.testBit k = true
      · by_cases hin : I + k < N
        · have hs := burst_succ m.toNat I N k
          rw [if_pos (by simp [hbit, hin])] at hs
          have HS := Lib.hid hs
          rw [hbit] at hbt
          have hfl : (flips L (burst m.toNat I N k)).length ≤ 1000000 := by rw [flips_length]; omega
          have hfi : I + k < 8 * (flips L (burst m.toNat I N k)).length := by rw [flips_length]; have := HNL.out; omega
          clear hs hbit
          go_wp2_with fail
          refine (flip_gen _ (I + k) _ (by omega) hfi hfl _).mono ?_
          rintro e w7 ⟨rfl, hw7⟩
          have HB7 := Lib.hid (bl HB6.out hw7)
          go_wp2_with fail
          go_roundw
          case rel => exact ⟨k + 1, by omega, by go_num, by rw [HS.out, flips_snoc], HB7⟩
          case measure => simp [intOf]; omega
        · have hs := burst_succ m.toNat I N k
          rw [if_neg (by simp [hin])] at hs
          have HS := Lib.hid hs
          rw [hbit] at hbt
          clear hs hbit
          go_wp2_with fail
          go_roundw
          case rel => exact ⟨k + 1, by omega, by go_num, by rw [HS.out], HB6⟩
          case measure => simp [intOf]; omega
      · have hs := burst_succ m.toNat I N k
        rw [if_neg (by simp [hbit])] at hs
        have HS := Lib.hid hs
        rw [show m.toNat.testBit k = false by simpa using hbit] at hbt
        clear hs hbit
        go_wp2_with fail
        go_roundw
        case rel => exact ⟨k + 1, by omega, by go_num, by rw [HS.out], HB6⟩
        case measure => simp [intOf]; omega
    · obtain rfl : k = 16 := by omega
      have hbz := burst_zero m.toNat I N
      have hblt := burst_lt m.toNat I N 16
      have hrb : rem (flips L (burst m.toNat I N 16)) = pows (burst m.toNat I N 16) := by
        rw [rem_flips L _ (fun k hk => by have := hblt k hk; have := HNL.out; omega), HL0.out]; simp
      generalize burst m.toNat I N 16 = ks at *
      have hmm := @run_makeMap Try.prog
      by_cases h0 : ks = []
      · subst h0
        have P6 := check_any (flips L []) (by rw [flips_length]; omega) (l, 0) (by show chk L = _; rw [HL.out]; exact chk_protect l)
        have hcmp : flips L [] = L := rfl
        rw [hcmp] at P6 ⊢
        have H6 := Lib.hid P6
        clear P6 hcmp hrb hbz hblt
        go_wp2_with fail
        refine (H6.out _).mono ?_
        rintro e w7 ⟨rfl, hw7⟩
        have hw7' := bl HB6.out hw7
        clear HB6
        go_wp2_with fail
        clear hmm H1 H2 H3 H4 H5 H6
        have HS0 := Lib.hid (BSet.made w7)
        have HB8 := Lib.hid (hw7'.alloc hw7'.size (.map #[] 0))
        have HB9 : Hid (w.heap.size ≤ w7.heap.size) := Lib.hid hw7'.size
        clear hw7' hw7
        go_loopw [22, 123] (fun v i wr => ∃ (k : Nat) (qs : List Nat), k ≤ n ∧ i = .int .i64 k ∧ v = .string (Str (flips L qs)) ∧ Hid (BSet wr w7.heap.size qs) ∧ Hid (qs.Nodup ∧ (∀ j ∈ qs, j < N) ∧ qs.length ≤ k) ∧ Hid (Below w.heap.size w wr)) (fun _ i _ => n - (intOf i).toNat)
        case atStart => exact ⟨0, [], by omega, rfl, HP.out ▸ rfl, HS0, Lib.hid ⟨List.nodup_nil, by simp, by simp⟩, HB8⟩
        case round =>
          clear HS0 HB8
          obtain ⟨k, qs, hk, rfl, rfl, HS0, HQ, HB8⟩ := hrel
          by_cases hlt : k < n
          · obtain ⟨bA, off, q, hAe, hq6, hbA, hq⟩ := hA k hlt
            subst hAe
            have hcell : wr.cell? ⟨bA, off + k, none⟩ = some (.int .u16 (q : Int)) := by rw [HB8.out.cell (p := ⟨bA, off + k, none⟩) hbA]; exact hq
            obtain ⟨Q, hQ⟩ : ∃ Q, Q = q % N := ⟨_, rfl⟩
            have hQN : Q < N := by rw [hQ]; exact Nat.mod_lt _ (by omega)
            have hqe : (q : Int) % (N : Int) = (Q : Int) := by rw [hQ]; omega
            clear hQ hq
            have hlook := HS0.out.look Q (by omega)
            cases hcon : qs.contains Q with
            | true =>
              rw [hcon] at hlook
              clear hcon
              go_wp2_with fail
              go_roundw
              case rel => exact ⟨k + 1, qs, by omega, by go_num, rfl, HS0, Lib.hid ⟨HQ.out.1, HQ.out.2.1, by have := HQ.out.2.2; omega⟩, HB8⟩
              case measure => simp [intOf]; omega
            | false =>
              obtain ⟨w8, hrun, hset, hgr⟩ := HS0.out.add Q (by omega) hcon (by have := HQ.out.2.2; omega)
              rw [hcon] at hlook
              have hnot : Q ∉ qs := by simpa using hcon
              have HN := Lib.hid hnot
              have HSet := Lib.hid hset
              have HB10 := Lib.hid (below_grown HB8.out hgr HB9.out)
              have hfl : (flips L qs).length ≤ 1000000 := by rw [flips_length]; omega
              have hfi : Q < 8 * (flips L qs).length := by rw [flips_length]; have := HNL.out; omega
              clear hcon hnot hset hgr
              go_wp2_with fail
              refine (flip_gen _ Q _ rfl hfi hfl _).mono ?_
              rintro e w9 ⟨rfl, hw9⟩
              have HS1 := Lib.hid (HSet.out.below hw9)
              have HB11 := Lib.hid (bl HB10.out hw9)
              go_wp2_with fail
              go_roundw
              case rel => exact ⟨k + 1, qs ++ [Q], by omega, by go_num, by rw [flips_snoc], HS1, Lib.hid (more HQ.out HN.out hQN), HB11⟩
              case measure => simp [intOf]; omega
          · obtain rfl : k = n := by omega
            have hnd := HQ.out.1
            have hqN := HQ.out.2.1
            have hrq : rem (flips L qs) = pows qs := by
              rw [rem_flips L _ (fun j hj => by have := hqN j hj; have := HNL.out; omega), HL0.out]; simp
            have hlen := @BSet.len
            have hkk := HQ.out.2.2
            by_cases h2 : qs.length = 2
            · have hne : pows qs ≠ 0#16 := by
                match qs, h2 with
                | [a, b], _ => exact two_ne a b (by have := hqN a (by simp); omega) (by have := hqN b (by simp); omega) (by intro e; subst e; simp at hnd)
              have P7 := check_any (flips L qs) (by rw [flips_length]; omega) ([], 10) (by unfold chk; rw [if_neg (by rw [flips_length]; omega), if_neg (by rw [hrq]; exact hne)])
              have H7 := Lib.hid P7
              have HH2 := Lib.hid h2
              clear P7 hrq hne hqN hnd hlen hkk h2
              go_wp2_with fail
              refine (H7.out _).mono ?_
              rintro e w9 ⟨rfl, hw9⟩
              have hl2 := fun ty => (HS0.out.below hw9).len ty
              rw [HH2.out] at hl2
              go_wp2_with fail
              go_ret
              exact ⟨rfl, bl HB8.out hw9⟩
            · by_cases hodd : qs.length % 2 = 1
              · have hne := odd_ne qs hodd
                have P7 := check_any (flips L qs) (by rw [flips_length]; omega) ([], 10) (by unfold chk; rw [if_neg (by rw [flips_length]; omega), if_neg (by rw [hrq]; exact hne)])
                have H7 := Lib.hid P7
                have b2 : ((qs.length : Int) != 2) = true := by rw [bne_iff_ne]; omega
                have b1 : ((qs.length : Int) % 2 == 0) = false := by rw [beq_eq_false_iff_ne]; omega
                clear P7 hrq hne hqN hnd hlen h2 hodd
                go_wp2_with fail
                refine (H7.out _).mono ?_
                rintro e w9 ⟨rfl, hw9⟩
                have hl2 := fun ty => (HS0.out.below hw9).len ty
                go_wp2_with fail
                go_ret
                exact ⟨rfl, bl HB8.out hw9⟩
              · have P7 := check_any (flips L qs) (by rw [flips_length]; omega) _ rfl
                generalize chk (flips L qs) = r7 at P7
                have H7 := Lib.hid P7
                have b2 : ((qs.length : Int) != 2) = true := by rw [bne_iff_ne]; omega
                have b1 : ((qs.length : Int) % 2 == 0) = true := by rw [beq_iff_eq]; omega
                clear P7 hrq hqN hnd hlen h2 hodd
                go_wp2_with fail
                refine (H7.out _).mono ?_
                rintro e w9 ⟨rfl, hw9⟩
                have hl2 := fun ty => (HS0.out.below hw9).len ty
                go_wp2_with fail
                go_ret
                exact ⟨rfl, bl HB8.out hw9⟩
      · have hne : pows ks ≠ 0#16 := fun e => h0 (hbz e)
        have P6 := check_any (flips L ks) (by rw [flips_length]; omega) ([], 10) (by unfold chk; rw [if_neg (by rw [flips_length]; omega), if_neg (by rw [hrb]; exact hne)])
        have hcmp : (flips L ks == L) = false := by rw [beq_eq_false_iff_ne]; exact fun e => hne (by rw [← hrb, e]; exact HL0.out)
        have H6 := Lib.hid P6
        clear P6 hrb hbz hblt hne h0
        go_wp2_with fail
        refine (H6.out _).mono ?_
        rintro e w7 ⟨rfl, hw7⟩
        have hw7' := bl HB6.out hw7
        clear HB6
        go_wp2_with fail
        clear hcmp
        clear hmm H1 H2 H3 H4 H5 H6
        have HS0 := Lib.hid (BSet.made w7)
        have HB8 := Lib.hid (hw7'.alloc hw7'.size (.map #[] 0))
        have HB9 : Hid (w.heap.size ≤ w7.heap.size) := Lib.hid hw7'.size
        clear hw7' hw7
        go_loopw [22, 123] (fun v i wr => ∃ (k : Nat) (qs : List Nat), k ≤ n ∧ i = .int .i64 k ∧ v = .string (Str (flips L qs)) ∧ Hid (BSet wr w7.heap.size qs) ∧ Hid (qs.Nodup ∧ (∀ j ∈ qs, j < N) ∧ qs.length ≤ k) ∧ Hid (Below w.heap.size w wr)) (fun _ i _ => n - (intOf i).toNat)
        case atStart => exact ⟨0, [], by omega, rfl, HP.out ▸ rfl, HS0, Lib.hid ⟨List.nodup_nil, by simp, by simp⟩, HB8⟩
        case round =>
          clear HS0 HB8
          obtain ⟨k, qs, hk, rfl, rfl, HS0, HQ, HB8⟩ := hrel
          by_cases hlt : k < n
          · obtain ⟨bA, off, q, hAe, hq6, hbA, hq⟩ := hA k hlt
            subst hAe
            have hcell : wr.cell? ⟨bA, off + k, none⟩ = some (.int .u16 (q : Int)) := by rw [HB8.out.cell (p := ⟨bA, off + k, none⟩) hbA]; exact hq
            obtain ⟨Q, hQ⟩ : ∃ Q, Q = q % N := ⟨_, rfl⟩
            have hQN : Q < N := by rw [hQ]; exact Nat.mod_lt _ (by omega)
            have hqe : (q : Int) % (N : Int) = (Q : Int) := by rw [hQ]; omega
            clear hQ hq
            have hlook := HS0.out.look Q (by omega)
            cases hcon : qs.contains Q with
            | true =>
              rw [hcon] at hlook
              clear hcon
              go_wp2_with fail
              go_roundw
              case rel => exact ⟨k + 1, qs, by omega, by go_num, rfl, HS0, Lib.hid ⟨HQ.out.1, HQ.out.2.1, by have := HQ.out.2.2; omega⟩, HB8⟩
              case measure => simp [intOf]; omega
            | false =>
              obtain ⟨w8, hrun, hset, hgr⟩ := HS0.out.add Q (by omega) hcon (by have := HQ.out.2.2; omega)
              rw [hcon] at hlook
              have hnot : Q ∉ qs := by simpa using hcon
              have HN := Lib.hid hnot
              have HSet := Lib.hid hset
              have HB10 := Lib.hid (below_grown HB8.out hgr HB9.out)
              have hfl : (flips L qs).length ≤ 1000000 := by rw [flips_length]; omega
              have hfi : Q < 8 * (flips L qs).length := by rw [flips_length]; have := HNL.out; omega
              clear hcon hnot hset hgr
              go_wp2_with fail
              refine (flip_gen _ Q _ rfl hfi hfl _).mono ?_
              rintro e w9 ⟨rfl, hw9⟩
              have HS1 := Lib.hid (HSet.out.below hw9)
              have HB11 := Lib.hid (bl HB10.out hw9)
              go_wp2_with fail
              go_roundw
              case rel => exact ⟨k + 1, qs ++ [Q], by omega, by go_num, by rw [flips_snoc], HS1, Lib.hid (more HQ.out HN.out hQN), HB11⟩
              case measure => simp [intOf]; omega
          · obtain rfl : k = n := by omega
            have hnd := HQ.out.1
            have hqN := HQ.out.2.1
            have hrq : rem (flips L qs) = pows qs := by
              rw [rem_flips L _ (fun j hj => by have := hqN j hj; have := HNL.out; omega), HL0.out]; simp
            have hlen := @BSet.len
            have hkk := HQ.out.2.2
            by_cases h2 : qs.length = 2
            · have hne : pows qs ≠ 0#16 := by
                match qs, h2 with
                | [a, b], _ => exact two_ne a b (by have := hqN a (by simp); omega) (by have := hqN b (by simp); omega) (by intro e; subst e; simp at hnd)
              have P7 := check_any (flips L qs) (by rw [flips_length]; omega) ([], 10) (by unfold chk; rw [if_neg (by rw [flips_length]; omega), if_neg (by rw [hrq]; exact hne)])
              have H7 := Lib.hid P7
              have HH2 := Lib.hid h2
              clear P7 hrq hne hqN hnd hlen hkk h2
              go_wp2_with fail
              refine (H7.out _).mono ?_
              rintro e w9 ⟨rfl, hw9⟩
              have hl2 := fun ty => (HS0.out.below hw9).len ty
              rw [HH2.out] at hl2
              go_wp2_with fail
              go_ret
              exact ⟨rfl, bl HB8.out hw9⟩
            · by_cases hodd : qs.length % 2 = 1
              · have hne := odd_ne qs hodd
                have P7 := check_any (flips L qs) (by rw [flips_length]; omega) ([], 10) (by unfold chk; rw [if_neg (by rw [flips_length]; omega), if_neg (by rw [hrq]; exact hne)])
                have H7 := Lib.hid P7
                have b2 : ((qs.length : Int) != 2) = true := by rw [bne_iff_ne]; omega
                have b1 : ((qs.length : Int) % 2 == 0) = false := by rw [beq_eq_false_iff_ne]; omega
                clear P7 hrq hne hqN hnd hlen h2 hodd
                go_wp2_with fail
                refine (H7.out _).mono ?_
                rintro e w9 ⟨rfl, hw9⟩
                have hl2 := fun ty => (HS0.out.below hw9).len ty
                go_wp2_with fail
                go_ret
                exact ⟨rfl, bl HB8.out hw9⟩
              · have P7 := check_any (flips L qs) (by rw [flips_length]; omega) _ rfl
                generalize chk (flips L qs) = r7 at P7
                have H7 := Lib.hid P7
                have b2 : ((qs.length : Int) != 2) = true := by rw [bne_iff_ne]; omega
                have b1 : ((qs.length : Int) % 2 == 0) = true := by rw [beq_iff_eq]; omega
                clear P7 hrq hqN hnd hlen h2 hodd
                go_wp2_with fail
                refine (H7.out _).mono ?_
                rintro e w9 ⟨rfl, hw9⟩
                have hl2 := fun ty => (HS0.out.below hw9).len ty
                go_wp2_with fail
                go_ret
                exact ⟨rfl, bl HB8.out hw9⟩

set_option maxRecDepth 100000 in
set_option maxHeartbeats 2000000 in
theorem walk1 (x : ByteArray) (f m : BitVec 16) (A : Option Addr) (n c : Nat) (w : World) (ho : 300 < x.size ∨ (x.size ≤ 300 ∧ 15 < n)) :
    Calls Try.prog 10 #[.string x, .agg #[U f, U m], .slice A n c] w fun e w' => e = .returned (.bool true) ∧ Below w.heap.size w w' := by
  rcases ho with h | ⟨h, h2⟩
  all_goals
    go_enter Try.func10, Try.ntmps10
    go_wp2_with fail
    refine (awake_any _).mono ?_
    rintro e w1 ⟨rfl, hb⟩
    have hw1 : Below w.heap.size w w1 := ((Below.refl _ _).alloc (Nat.le_refl _) _).trans (hb.mono (by simp))
    go_wp2_with fail
    go_ret
    exact ⟨rfl, hw1⟩
theorem row_cells {w : World} {A : Option Addr} {n c : Nat} {zs : List Int} (h : Opn.IsRow .u16 w A n c zs) (k : Nat) (hk : k < n) :
    ∃ bA off q : Nat, A = some ⟨bA, off, none⟩ ∧ q < 65536 ∧ bA < w.heap.size ∧ w.cell? ⟨bA, off + k, none⟩ = some (.int .u16 (q : Int)) := by
  rcases h with ⟨_, h, _⟩ | ⟨x, rfl, hl, _, hz, hcell, hwz⟩
  · omega
  · obtain ⟨b, off, spot⟩ := x
    have hc := hcell k (by omega)
    have h0 := hcell 0 (by omega)
    have hspot : spot = none := by simpa [Addr.add] using World.cell?_spot h0
    subst hspot
    have hadd : (⟨b, off, none⟩ : Addr).add k = ⟨b, off + k, none⟩ := by unfold Addr.add; split <;> simp_all
    have hc' : w.cell? ⟨b, off + k, none⟩ = some (.int .u16 (zs.getD k 0)) := by rw [← hadd]; exact hc
    have hm : zs.getD k 0 ∈ zs := by
      have : k < zs.length := by omega
      simp [List.getD, this]
    have hw := hwz _ hm
    have hw2 : 0 ≤ zs.getD k 0 ∧ zs.getD k 0 < 65536 := by simp [Lit.wf, IntKind.min, IntKind.max, IntKind.bits, IntKind.signed] at hw ⊢; omega
    refine ⟨b, off, (zs.getD k 0).toNat, rfl, by omega, block_lt_of_cell hc', ?_⟩
    rw [Int.toNat_of_nonneg hw2.1]; exact hc'
theorem walk (x : ByteArray) (f m : Int) (A : Option Addr) (n c : Nat) (zs : List Int) (w : World) (_ : x.size ≤ 140737488351232) (hf : (Lit.int .u16 f).wf = true) (hm : (Lit.int .u16 m).wf = true) (h : Opn.IsRow .u16 w A n c zs) :
    Calls Try.prog 10 #[.string x, .agg #[.int .u16 f, .int .u16 m], .slice A n c] w fun e w' => e = .returned (.bool true) ∧ Below w.heap.size w w' := by
  obtain ⟨l, rfl⟩ := str_of x
  obtain ⟨f, rfl⟩ := Pure.u16_of hf
  obtain ⟨m, rfl⟩ := Pure.u16_of hm
  by_cases ho : 300 < (Str l).size ∨ ((Str l).size ≤ 300 ∧ 15 < n)
  · exact walk1 _ f m A n c w ho
  · rw [str_size] at ho
    exact walk0 l f m A n c w (by omega) (by omega) fun k hk => row_cells h k hk
end Go.Proofs.Ytkhkmmabbpfngaa.CrcFindsW
