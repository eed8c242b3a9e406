/-
  sennitlaw03.LcsTurned, LcsBetween, LcsPairs: by hand.
-/
import Derived.Test.YtkakcefekabmhaaXLcsA
import Derived.BigRegion
namespace Go.Proofs.Ytkakcefekabmhaa.X
open Go.RowKit Go.Proofs.YtkakcefekabmhaaW.PrintWords Go.Proofs.YtkakcefekabmhaaW.PrintLast Go.Proofs.YtkakcefekabmhaaW.PrintMore
set_option linter.unusedVariables false
set_option linter.unusedSimpArgs false

theorem wf_u8 {x : Int} (h : (Lit.int .u8 x).wf = true) : 0 ≤ x ∧ x < 256 := by
  have e1 : IntKind.u8.min = 0 := rfl
  have e2 : IntKind.u8.max = 255 := rfl
  simp [Lit.wf, go_sem] at h
  omega
theorem long_f {l0 l1 : List Int} (h0 : l0.length ≤ 2000) (h1 : l1.length ≤ 2000) : sennitlaw03_long.f l0 l1 = some ((lcsL l0 l1 : Nat) : Int) := by
  rw [sennitlaw03_long.f, if_pos ⟨h0, h1⟩]
theorem long_short (A0 : Option Addr) (c0 : Nat) (l0 : List Int) (A1 : Option Addr) (c1 : Nat) (l1 : List Int) (w : World) (hr0 : Kd.C (Kd.int .i64) w A0 l0.length l0) (hc0 : l0.length ≤ c0) (hr1 : Kd.C (Kd.int .i64) w A1 l1.length l1) (hc1 : l1.length ≤ c1) (h0 : l0.length ≤ 2000) (h1 : l1.length ≤ 2000) {x : Int} (hx : ((lcsL l0 l1 : Nat) : Int) = x) :
    Calls Try.prog 22 #[.slice A0 l0.length c0, .slice A1 l1.length c1] w fun e w' => e = .returned (.int .i64 x) ∧ Aside0 (Below w.heap.size w w') := by
  subst hx
  refine (sennitlaw03_long.calls A0 c0 l0 A1 c1 l1 _ w hr0 hc0 hr1 hc1 (long_f h0 h1)).mono ?_
  rintro e w' ⟨rfl, hb⟩
  exact ⟨rfl, ⟨hb⟩⟩

theorem turned_f (l0 l1 : List Int) : ∃ k, sennitlaw03_LcsTurned.f k l0 l1 = some true := by
  by_cases h : l0.length ≤ 40 ∧ l1.length ≤ 40
  · obtain ⟨h0, h1⟩ := h
    obtain ⟨K0, k0⟩ := turned_gives l0 (by omega)
    obtain ⟨K1, k1⟩ := turned_gives l1 (by omega)
    refine ⟨K0 + K1 + 1, ?_⟩
    have e0 : sennitlaw03_turned.f (K0 + K1) l0 = some l0.reverse := k0 (K0 + K1) (by omega)
    have e1 : sennitlaw03_turned.f (K0 + K1) l1 = some l1.reverse := k1 (K0 + K1) (by omega)
    have d0 : ¬ ((l0.length : Int) > 40) := by omega
    have d1 : decide ((l1.length : Int) > 40) = false := decide_eq_false (by omega)
    rw [sennitlaw03_LcsTurned.f, sennitlaw03_awake.f, Option.bind_some, if_neg d0, d1, sennitlaw03_LcsTurned.j0, if_neg (by decide), long_f (by omega) (by omega), Option.bind_some, if_pos rfl, long_f (by omega) (by omega), Option.bind_some, if_pos (by rw [lcsL_comm]), e0, Option.bind_some, e1, Option.bind_some, long_f (by rw [List.length_reverse]; omega) (by rw [List.length_reverse]; omega), Option.bind_some, lcsL_reverse, if_pos rfl, long_f (by omega) (by omega), Option.bind_some, lcsL_self]
    simp
  · refine ⟨1, ?_⟩
    rw [sennitlaw03_LcsTurned.f, sennitlaw03_awake.f, Option.bind_some]
    by_cases h0 : (l0.length : Int) > 40
    · rw [if_pos h0, sennitlaw03_LcsTurned.j0, if_pos rfl]
    · rw [if_neg h0, decide_eq_true (by omega), sennitlaw03_LcsTurned.j0, if_pos rfl]

theorem law_LcsTurned (W : World) (A0 : Option Addr) (c0 : Nat) (l0 : List Int) (hr0 : Kd.C (Kd.int .i64) W A0 l0.length l0) (hc0 : l0.length ≤ c0) (g0 : l0.length * 8 ≤ 140737488351232 ∧ ∀ y ∈ l0, (Lit.int .i64 y).wf = true) (A1 : Option Addr) (c1 : Nat) (l1 : List Int) (hr1 : Kd.C (Kd.int .i64) W A1 l1.length l1) (hc1 : l1.length ≤ c1) (g1 : l1.length * 8 ≤ 140737488351232 ∧ ∀ y ∈ l1, (Lit.int .i64 y).wf = true) :
    Calls Try.prog 6 #[.slice A0 l0.length c0, .slice A1 l1.length c1] W fun e w' => e = .returned (.bool true) ∧ Below W.heap.size W w' := by
  obtain ⟨k, hk⟩ := turned_f l0 l1
  exact sennitlaw03_LcsTurned.calls k A0 c0 l0 A1 c1 l1 true W hr0 hc0 hr1 hc1 hk

attribute [local go_sem] max2_int min2_int in
set_option maxRecDepth 100000 in
set_option maxHeartbeats 4000000 in
theorem law_LcsBetween (W : World) (A0 : Option Addr) (c0 : Nat) (l0 : List Int) (hr0 : Kd.C (Kd.int .i64) W A0 l0.length l0) (hc0 : l0.length ≤ c0) (g0 : l0.length * 8 ≤ 140737488351232 ∧ ∀ y ∈ l0, (Lit.int .i64 y).wf = true) (A1 : Option Addr) (c1 : Nat) (l1 : List Int) (hr1 : Kd.C (Kd.int .i64) W A1 l1.length l1) (hc1 : l1.length ≤ c1) (g1 : l1.length * 8 ≤ 140737488351232 ∧ ∀ y ∈ l1, (Lit.int .i64 y).wf = true) (A2 : Option Addr) (c2 : Nat) (l2 : List Int) (hr2 : Kd.C (Kd.int .i64) W A2 l2.length l2) (hc2 : l2.length ≤ c2) (g2 : l2.length * 8 ≤ 140737488351232 ∧ ∀ y ∈ l2, (Lit.int .i64 y).wf = true) :
    Calls Try.prog 8 #[.slice A0 l0.length c0, .slice A1 l1.length c1, .slice A2 l2.length c2] W fun e w' => e = .returned (.bool true) ∧ Below W.heap.size W w' := by
  have HR0 := Aside0.mk hr0
  have HC0 := Aside0.mk hc0
  have HR1 := Aside0.mk hr1
  have HC1 := Aside0.mk hc1
  have HR2 := Aside0.mk hr2
  have HC2 := Aside0.mk hc2
  clear hr0 hc0 hr1 hc1 g0 g1 hr2 hc2 g2
  go_enter Try.func8, Try.ntmps8
  go_wp2_with fail
  refine (awake_calls _).mono ?_
  rintro e w1 ⟨rfl, hb⟩
  have HB1 := Aside0.mk hb
  clear hb
  by_cases hl : l0.length ≤ 40 ∧ l1.length ≤ 40 ∧ l2.length ≤ 40
  · obtain ⟨hl0, hl1, hl2⟩ := hl
    have b1 : decide ((40 : Int) < (l0.length : Int)) = false := decide_eq_false (by omega)
    have b2 : decide (40 < l0.length) = false := decide_eq_false (by omega)
    have b3 : decide ((40 : Int) < (l1.length : Int)) = false := decide_eq_false (by omega)
    have b4 : decide (40 < l1.length) = false := decide_eq_false (by omega)
    have b5 : decide ((40 : Int) < (l2.length : Int)) = false := decide_eq_false (by omega)
    have b6 : decide (40 < l2.length) = false := decide_eq_false (by omega)
    have key := lcsL_between l0 l1 l2
    have kl := lcsL_le_left l0 l1
    have kr := lcsL_le_right l0 l1
    have kr2 := lcsL_le_right l1 l2
    have kr3 := lcsL_le_right l0 l2
    obtain ⟨n01, e01⟩ : ∃ n, ((lcsL l0 l1 : Nat) : Int) = n := ⟨_, rfl⟩
    obtain ⟨n12, e12⟩ : ∃ n, ((lcsL l1 l2 : Nat) : Int) = n := ⟨_, rfl⟩
    obtain ⟨n02, e02⟩ : ∃ n, ((lcsL l0 l2 : Nat) : Int) = n := ⟨_, rfl⟩
    have s1 : wrap64 (n01 + n12) = n01 + n12 := w64 (by omega) (by omega)
    have s2 : wrap64 (n02 + (l1.length : Int)) = n02 + (l1.length : Int) := w64 (by omega) (by omega)
    have s3 : IntKind.i64.wrap (n01 + n12) = n01 + n12 := IntWalk.i64_in _ (by omega)
    have s4 : IntKind.i64.wrap (n02 + (l1.length : Int)) = n02 + (l1.length : Int) := IntWalk.i64_in _ (by omega)
    have t1 : decide (n01 + n12 ≤ n02 + (l1.length : Int)) = true := decide_eq_true (by omega)
    have t2 : decide (n01 ≤ mn (l0.length : Int) (l1.length : Int)) = true := decide_eq_true (by unfold mn; split <;> omega)
    have t2' : decide (n01 ≤ min (l0.length : Int) (l1.length : Int)) = true := decide_eq_true (by omega)
    have t3 : n01 ≤ (l0.length : Int) := by omega
    have t4 : n01 ≤ (l1.length : Int) := by omega
    have E01 := Aside0.mk e01
    have E12 := Aside0.mk e12
    have E02 := Aside0.mk e02
    clear key kl kr kr2 kr3 e01 e12 e02
    go_wp2_with fail
    refine (long_short A0 c0 l0 A1 c1 l1 _ (Kd.C_below HR0.out HB1.out) HC0.out (Kd.C_below HR1.out HB1.out) HC1.out (by omega) (by omega) E01.out).mono ?_
    rintro e w2 ⟨rfl, hb⟩
    have HB2 : Aside0 (Below W.heap.size W w2) := ⟨below_far HB1.out hb.out⟩
    clear hb
    go_wp2_with fail
    refine (long_short A1 c1 l1 A2 c2 l2 _ (Kd.C_below HR1.out HB2.out) HC1.out (Kd.C_below HR2.out HB2.out) HC2.out (by omega) (by omega) E12.out).mono ?_
    rintro e w3 ⟨rfl, hb⟩
    have HB3 : Aside0 (Below W.heap.size W w3) := ⟨below_far HB2.out hb.out⟩
    clear hb
    go_wp2_with fail
    refine (long_short A0 c0 l0 A2 c2 l2 _ (Kd.C_below HR0.out HB3.out) HC0.out (Kd.C_below HR2.out HB3.out) HC2.out (by omega) (by omega) E02.out).mono ?_
    rintro e w4 ⟨rfl, hb⟩
    have HB4 : Aside0 (Below W.heap.size W w4) := ⟨below_far HB3.out hb.out⟩
    clear hb
    go_wp2_with fail
    refine (long_short A0 c0 l0 A1 c1 l1 _ (Kd.C_below HR0.out HB4.out) HC0.out (Kd.C_below HR1.out HB4.out) HC1.out (by omega) (by omega) E01.out).mono ?_
    rintro e w5 ⟨rfl, hb⟩
    have HB5 : Aside0 (Below W.heap.size W w5) := ⟨below_far HB4.out hb.out⟩
    clear hb
    go_wp2
    all_goals
      go_ret
      exact ⟨rfl, HB5.out⟩
  · by_cases h0 : 40 < l0.length
    · have b1 : decide ((40 : Int) < (l0.length : Int)) = true := decide_eq_true (by omega)
      have b2 : decide (40 < l0.length) = true := decide_eq_true (by omega)
      clear hl
      go_wp2
      go_ret
      exact ⟨rfl, HB1.out⟩
    · have b1 : decide ((40 : Int) < (l0.length : Int)) = false := decide_eq_false (by omega)
      have b2 : decide (40 < l0.length) = false := decide_eq_false (by omega)
      by_cases h1 : 40 < l1.length
      · have b3 : decide ((40 : Int) < (l1.length : Int)) = true := decide_eq_true (by omega)
        have b4 : decide (40 < l1.length) = true := decide_eq_true (by omega)
        clear hl
        go_wp2
        go_ret
        exact ⟨rfl, HB1.out⟩
      · have b3 : decide ((40 : Int) < (l1.length : Int)) = false := decide_eq_false (by omega)
        have b4 : decide (40 < l1.length) = false := decide_eq_false (by omega)
        have b5 : decide ((40 : Int) < (l2.length : Int)) = true := decide_eq_true (by omega)
        have b6 : decide (40 < l2.length) = true := decide_eq_true (by omega)
        clear hl
        go_wp2
        go_ret
        exact ⟨rfl, HB1.out⟩
end Go.Proofs.Ytkakcefekabmhaa.X
