/-
  sennitlaw03.LcsTells, LcsTurned: by hand.
-/
import Derived.Test.YtkakcefekabmhaaXLcs8
import Derived.Test.YtkakcefekabmhaaXLcs9
import Derived.Test.YtkakcefekabmhaaXTn1
namespace Go.Proofs.Ytkakcefekabmhaa.X
open Go.RowKit Go.Proofs.YtkakcefekabmhaaW.PrintWords Go.Proofs.YtkakcefekabmhaaW.PrintLast Go.Proofs.YtkakcefekabmhaaW.PrintMore
set_option linter.unusedVariables false
set_option linter.unusedSimpArgs false

theorem lcs_New_pair (A0 : Option Addr) (c0 : Nat) (l0 : List Int) (A1 : Option Addr) (c1 : Nat) (l1 : List Int) (w : World) (hr0 : Kd.C (Kd.int .i64) w A0 l0.length l0) (hc0 : l0.length ≤ c0) (hr1 : Kd.C (Kd.int .i64) w A1 l1.length l1) (hc1 : l1.length ≤ c1) (h0 : l0.length ≤ 2000) (h1 : l1.length ≤ 2000) :
    Calls Try.prog 16 #[.slice A0 l0.length c0, .slice A1 l1.length c1] w fun e w' => ∃ (g : Nat) (d : Int), e = .returned (.tuple #[.pointer (some ⟨g, 0, none⟩), .int .i64 0]) ∧ Aside0 (w.heap.size ≤ g) ∧ Aside0 (PairIn w' g l0 l1 d) ∧ Aside0 (Below w.heap.size w w') := by
  refine (lcs_New_ok A0 c0 l0 A1 c1 l1 w hr0 hc0 hr1 hc1 h0 h1).mono ?_
  rintro e w' ⟨g, rfl, hp, hb⟩
  obtain ⟨d, hd⟩ := PairIn.of_new hp
  exact ⟨g, d, rfl, ⟨hp.1⟩, ⟨hd⟩, ⟨hb⟩⟩

/-- A step of a call that keeps the old: as seen from the law's world. -/
theorem below_far {W w w' : World} (h : Below W.heap.size W w) (hb : Below w.heap.size w w') : Below W.heap.size W w' := h.trans (hb.mono h.size)

set_option maxRecDepth 100000 in
set_option maxHeartbeats 4000000 in
theorem law_LcsTells (W : World) (A0 : Option Addr) (c0 : Nat) (l0 : List Int) (hr0 : Kd.C (Kd.int .i64) W A0 l0.length l0) (hc0 : l0.length ≤ c0) (g0 : l0.length * 8 ≤ 140737488351232 ∧ ∀ y ∈ l0, (Lit.int .i64 y).wf = true) (A1 : Option Addr) (c1 : Nat) (l1 : List Int) (hr1 : Kd.C (Kd.int .i64) W A1 l1.length l1) (hc1 : l1.length ≤ c1) (g1 : l1.length * 8 ≤ 140737488351232 ∧ ∀ y ∈ l1, (Lit.int .i64 y).wf = true) :
    Calls Try.prog 3 #[.slice A0 l0.length c0, .slice A1 l1.length c1] W fun e w' => e = .returned (.bool true) ∧ Below W.heap.size W w' := by
  have HR0 := Aside0.mk hr0
  have HC0 := Aside0.mk hc0
  have HR1 := Aside0.mk hr1
  have HC1 := Aside0.mk hc1
  clear hr0 hc0 hr1 hc1 g0 g1
  go_enter Try.func3, Try.ntmps3
  go_wp2_with fail
  refine (awake_calls _).mono ?_
  rintro e w1 ⟨rfl, hb⟩
  have HB1 := Aside0.mk hb
  clear hb
  by_cases hl : l0.length ≤ 40 ∧ l1.length ≤ 40
  · obtain ⟨hl0, hl1⟩ := hl
    have b1 : decide ((40 : Int) < (l0.length : Int)) = false := decide_eq_false (by omega)
    have b2 : decide (40 < l0.length) = false := decide_eq_false (by omega)
    have b3 : decide ((40 : Int) < (l1.length : Int)) = false := decide_eq_false (by omega)
    have b4 : decide (40 < l1.length) = false := decide_eq_false (by omega)
    go_wp2_with fail
    refine (lcs_New_pair A0 c0 l0 A1 c1 l1 _ (Kd.C_below HR0.out HB1.out) HC0.out (Kd.C_below HR1.out HB1.out) HC1.out (by omega) (by omega)).mono ?_
    rintro e w2 ⟨g, d, rfl, HG, HP, HB2⟩
    go_wp2_with fail
    refine (pair_Match g _ _ d _ HP.out).mono ?_
    rintro e w3 ⟨vm, rfl, ho, hp3, hg3⟩
    obtain ⟨Am, cm, rfl⟩ := Kd.R_slice ho
    have HO := Aside0.mk ho
    have HP3 := Aside0.mk hp3
    have HB3 : Aside0 (Below W.heap.size W w3) := ⟨below_grown (below_far HB1.out HB2.out) hg3 (Nat.le_trans HB1.out.size HG.out) (below_far HB1.out HB2.out).size⟩
    clear ho hp3 hg3
    obtain ⟨K, hK⟩ := match_gives (a := l0) (b := l1) (by omega) (by omega)
    go_wp2_with fail
    refine (sennitref03_Match.calls K A0 c0 l0 A1 c1 l1 _ _ (Kd.C_below HR0.out HB3.out) HC0.out (Kd.C_below HR1.out HB3.out) HC1.out (hK K (Nat.le_refl _))).mono ?_
    rintro e w4 ⟨vm2, rfl, ho2, hb4⟩
    obtain ⟨Am2, cm2, rfl⟩ := Kd.R_slice ho2
    have HO2 := Aside0.mk ho2
    have HB4 := Aside0.mk hb4
    clear ho2 hb4 hK K
    have hml : (matchOf l0 l1).length ≤ 1000000 := by rw [show (matchOf l0 l1).length = l0.length from matchFrom_length _ _ _]; omega
    obtain ⟨K, hK⟩ := same_gives (matchOf l0 l1) (matchOf l0 l1) hml
    rw [decide_eq_true rfl] at hK
    go_wp2_with fail
    refine (sennitref02_Same.calls K Am cm _ Am2 cm2 _ true _ (Kd.R_reads' (Kd.R_below HO.out HB4.out)).2.2 (Kd.R_reads' HO.out).2.1 (Kd.R_reads' HO2.out).2.2 (Kd.R_reads' HO2.out).2.1 (hK K (Nat.le_refl _))).mono ?_
    rintro e w5 ⟨rfl, hd5⟩
    have HB5 : Aside0 (Below w3.heap.size w3 w5) := ⟨below_far HB4.out hd5.below⟩
    clear hd5 hK K hml
    go_wp2_with fail
    refine (pair_Len g _ _ 1 _ (HP3.out.below HB5.out)).mono ?_
    rintro e w6 ⟨rfl, hp6, hg6⟩
    have HB6 : Aside0 (Below W.heap.size W w6) := ⟨below_grown (below_far HB3.out HB5.out) hg6 (Nat.le_trans HB1.out.size HG.out) (below_far HB3.out HB5.out).size⟩
    clear hp6 hg6
    obtain ⟨K, hK⟩ := len_gives (a := l0) (b := l1) (by omega) (by omega)
    go_wp2_with fail
    refine (sennitref03_Len.calls K A0 c0 l0 A1 c1 l1 _ _ (Kd.C_below HR0.out HB6.out) HC0.out (Kd.C_below HR1.out HB6.out) HC1.out (hK K (Nat.le_refl _))).mono ?_
    rintro e w7 ⟨rfl, hb7⟩
    have HB7 : Aside0 (Below W.heap.size W w7) := ⟨below_far HB6.out hb7⟩
    clear hb7 hK K
    have hq : ((lcsL l0 l1 : Int) == (lcsL l0 l1 : Int)) = true := beq_self_eq_true _
    go_wp2
    go_ret
    exact ⟨rfl, HB7.out⟩
  · by_cases h0 : 40 < l0.length
    · have b1 : decide ((40 : Int) < (l0.length : Int)) = true := decide_eq_true (by omega)
      have b2 : decide (40 < l0.length) = true := decide_eq_true (by omega)
      clear hl
      go_wp2
      go_ret
      exact ⟨rfl, HB1.out⟩
    · have b1 : decide ((40 : Int) < (l0.length : Int)) = false := decide_eq_false (by omega)
      have b2 : decide (40 < l0.length) = false := decide_eq_false (by omega)
      have b3 : decide ((40 : Int) < (l1.length : Int)) = true := decide_eq_true (by omega)
      have b4 : decide (40 < l1.length) = true := decide_eq_true (by omega)
      clear hl
      go_wp2
      go_ret
      exact ⟨rfl, HB1.out⟩
end Go.Proofs.Ytkakcefekabmhaa.X
