-- Written by this session's xprint.py (a program of its own over the print's forms). Not trusted: Lean checks it.
import Derived.Test.YtkakcefekabmhaaX0
import Derived.Test.YtkakcefekabmhaaXPre
namespace Go.Proofs.Ytkakcefekabmhaa.X
open Go.RowKit Go.Proofs.YtkakcefekabmhaaW.PrintWords Go.Proofs.YtkakcefekabmhaaW.PrintLast Go.Proofs.YtkakcefekabmhaaW.PrintMore
attribute [local go_sem] max2_int min2_int max_two min_two max_three min_three max_four min_four   -- for this text's walks alone
set_option linter.unusedVariables false
set_option linter.unusedSimpArgs false

/-! ### sennitref02_Same: function 17 -/
def sennitref02_Same.l0 : Nat → List Int → List Int → Int → Option (Bool)
  | 0, _, _, _ => none
  | k + 1, x0, x1, x5 => if x5 < (x0.length : Int) then (if 0 ≤ x5 then (if x5 < (x1.length : Int) then (if (rd x0 x5) = (rd x1 x5) then (sennitref02_Same.l0 k x0 x1 (wrap64 (x5 + 1))) else (some false)) else (none)) else (none)) else (some true)
def sennitref02_Same.f (k : Nat) (l0 : List Int) (l1 : List Int) : Option (Bool) := if (l0.length : Int) = (l1.length : Int) then (sennitref02_Same.l0 k l0 l1 0) else (some false)
theorem sennitref02_Same.mono_l : ∀ k, (∀ y0 y1 y2, LeO (sennitref02_Same.l0 k y0 y1 y2) (sennitref02_Same.l0 (k + 1) y0 y1 y2))
  | 0 => fun _ _ _ r h => by simp [sennitref02_Same.l0] at h
  | k + 1 => by
    have ih0 := sennitref02_Same.mono_l k
    · intro y0 y1 y2
      unfold sennitref02_Same.l0
      repeat' first
      | (with_reducible exact ih0 _ _ _)
      | (with_reducible exact LeO.refl _)
      | (with_reducible exact LeO.none _)
      | (with_reducible refine LeO.ite ?_ ?_)
      | (with_reducible refine LeO.bind ?_ (fun _ => ?_))
      | exact ih0 _ _ _
      | exact LeO.none _
      | refine LeO.ite ?_ ?_
      | refine LeO.bind ?_ (fun _ => ?_)
theorem sennitref02_Same.mono : ∀ a0 a1 k, LeO (sennitref02_Same.f k a0 a1) (sennitref02_Same.f (k + 1) a0 a1) := by
  intro a0 a1 k
  have ih0 := sennitref02_Same.mono_l k
  unfold sennitref02_Same.f
  repeat' first
      | (with_reducible exact ih0 _ _ _)
      | (with_reducible exact LeO.refl _)
      | (with_reducible exact LeO.none _)
      | (with_reducible refine LeO.ite ?_ ?_)
      | (with_reducible refine LeO.bind ?_ (fun _ => ?_))
      | exact ih0 _ _ _
      | exact LeO.none _
      | refine LeO.ite ?_ ?_
      | refine LeO.bind ?_ (fun _ => ?_)
set_option maxHeartbeats 8000000 in
set_option maxRecDepth 100000 in
theorem sennitref02_Same.calls (k : Nat) (A0 : Option Addr) (c0 : Nat) (l0 : List Int) (A1 : Option Addr) (c1 : Nat) (l1 : List Int) (r : Bool) (w : World) (hr0 : Kd.C (Kd.int .i64) w A0 l0.length l0) (hc0 : l0.length ≤ c0) (hr1 : Kd.C (Kd.int .i64) w A1 l1.length l1) (hc1 : l1.length ≤ c1) (h : sennitref02_Same.f k l0 l1 = some r) :
    Calls Try.prog 17 #[.slice A0 l0.length c0, .slice A1 l1.length c1] w fun e w' => e = .returned (.bool r) ∧ Drawn0 w w' := by
  have HR0 := Aside0.mk hr0
  have HC0 := Aside0.mk hc0
  clear hr0 hc0
  have HR1 := Aside0.mk hr1
  have HC1 := Aside0.mk hc1
  clear hr1 hc1
  have H : (if (l0.length : Int) = (l1.length : Int) then (sennitref02_Same.l0 k l0 l1 0) else (some false)) = some r := h
  clear h
  by_cases c3 : (l0.length : Int) = (l1.length : Int)
  · rw [if_pos c3] at H
    have c3b0 : ((l0.length : Int) == (l1.length : Int)) = true := beq_iff_eq.mpr c3
    have c3b1 : ((l0.length : Int) != (l1.length : Int)) = false := bne_eq_false_iff_eq.mpr c3
    have c3b2 : (l0.length == l1.length) = true := by first | simpa using c3 | (simp at c3 ⊢; omega)
    clear c3
    have H' := Aside0.mk H
    clear H
    go_enter Try.func17, Try.ntmps17
    go_wp2
    repeat (go_quiet (fail); try go_wp2)
    go_loopg [5] k (fun kq v5 w' => ∃ (x5_1 : Int), v5 = .int .i64 x5_1 ∧ Aside0 (sennitref02_Same.l0 kq l0 l1 x5_1 = some r) ∧ Aside0 (kq ≤ k) ∧ Drawn0 w w')
    case atStart => exact ⟨(0), (by first | rfl | (simp; done) | (simp [*]; done)), H', ⟨Nat.le_refl _⟩, by repeat (first | exact Drawn0.refl _ | apply Drawn0.step)⟩
    case round =>
      clear H'
      try clear c1
      try clear p2
      try clear c3
      try clear c3b0
      try clear c3b1
      try clear c3b2
      obtain ⟨x5_1, rfl, HA, HK1, ⟨m1, rfl⟩⟩ := hrel
      cases gk with
      | zero => exact absurd HA.out (by simp [sennitref02_Same.l0])
      | succ k1 =>
        have H := HA.out
        clear HA
        simp only [sennitref02_Same.l0] at H
        by_cases c4 : x5_1 < (l0.length : Int)
        · rw [if_pos c4] at H
          have c4b0 : decide (x5_1 < (l0.length : Int)) = true := decide_eq_true c4
          clear c4
          by_cases c5 : 0 ≤ x5_1
          · rw [if_pos c5] at H
            have c5b0 : decide (0 ≤ x5_1) = true := decide_eq_true c5
            clear c5
            by_cases c6 : x5_1 < (l1.length : Int)
            · rw [if_pos c6] at H
              have c6b0 : decide (x5_1 < (l1.length : Int)) = true := decide_eq_true c6
              clear c6
              by_cases c7 : (rd l0 x5_1) = (rd l1 x5_1)
              · rw [if_pos c7] at H
                have c7b0 : ((rd l0 x5_1) == (rd l1 x5_1)) = true := beq_iff_eq.mpr c7
                have c7b1 : ((rd l0 x5_1) != (rd l1 x5_1)) = false := bne_eq_false_iff_eq.mpr c7
                clear c7
                have H' := Aside0.mk H
                clear H
                have p101 : 0 ≤ (x5_1 : Int) := of_decide_eq_true (by first | (with_reducible assumption) | assumption)
                have q101 : x5_1 < (l0.length : Int) := of_decide_eq_true (by first | (with_reducible assumption) | assumption)
                obtain ⟨ad101, e101, hx101_0⟩ := Kd.at_int HR0.out x5_1 p101 q101
                cases e101
                replace p101 := eq_true p101
                replace q101 := eq_true q101
                have p102 : 0 ≤ (x5_1 : Int) := of_decide_eq_true (by first | (with_reducible assumption) | assumption)
                have q102 : x5_1 < (l1.length : Int) := of_decide_eq_true (by first | (with_reducible assumption) | assumption)
                obtain ⟨ad102, e102, hx102_0⟩ := Kd.at_int HR1.out x5_1 p102 q102
                cases e102
                replace p102 := eq_true p102
                replace q102 := eq_true q102
                go_wp2
                repeat (go_quiet (fail); try go_wp2)
                go_roundg k1
                case measure => have := HK1.out; omega
                case rel => exact ⟨(wrap64 (x5_1 + 1)), (by first | rfl | (simp; done) | (simp [*]; done)), H', ⟨by have := HK1.out; omega⟩, by repeat (first | exact Drawn0.refl _ | apply Drawn0.step)⟩
              · rw [if_neg c7] at H
                have c7b0 : ((rd l0 x5_1) == (rd l1 x5_1)) = false := beq_eq_false_iff_ne.mpr c7
                have c7b1 : ((rd l0 x5_1) != (rd l1 x5_1)) = true := bne_iff_ne.mpr c7
                obtain rfl := Option.some.inj H
                have p101 : 0 ≤ (x5_1 : Int) := of_decide_eq_true (by first | (with_reducible assumption) | assumption)
                have q101 : x5_1 < (l0.length : Int) := of_decide_eq_true (by first | (with_reducible assumption) | assumption)
                obtain ⟨ad101, e101, hx101_0⟩ := Kd.at_int HR0.out x5_1 p101 q101
                cases e101
                replace p101 := eq_true p101
                replace q101 := eq_true q101
                have p102 : 0 ≤ (x5_1 : Int) := of_decide_eq_true (by first | (with_reducible assumption) | assumption)
                have q102 : x5_1 < (l1.length : Int) := of_decide_eq_true (by first | (with_reducible assumption) | assumption)
                obtain ⟨ad102, e102, hx102_0⟩ := Kd.at_int HR1.out x5_1 p102 q102
                cases e102
                replace p102 := eq_true p102
                replace q102 := eq_true q102
                go_wp2
                repeat (go_quiet (fail); try go_wp2)
                go_ret
                exact ⟨by first | rfl | (simp; done) | (simp [*]; done), by repeat (first | exact Drawn0.refl _ | apply Drawn0.step)⟩
            · rw [if_neg c6] at H
              exact absurd H (by simp)
          · rw [if_neg c5] at H
            exact absurd H (by simp)
        · rw [if_neg c4] at H
          have c4b0 : decide (x5_1 < (l0.length : Int)) = false := decide_eq_false c4
          clear c4
          obtain rfl := Option.some.inj H
          go_wp2
          repeat (go_quiet (fail); try go_wp2)
          go_ret
          exact ⟨by first | rfl | (simp; done) | (simp [*]; done), by repeat (first | exact Drawn0.refl _ | apply Drawn0.step)⟩
  · rw [if_neg c3] at H
    have c3b0 : ((l0.length : Int) == (l1.length : Int)) = false := beq_eq_false_iff_ne.mpr c3
    have c3b1 : ((l0.length : Int) != (l1.length : Int)) = true := bne_iff_ne.mpr c3
    have c3b2 : (l0.length == l1.length) = false := by first | simpa using c3 | (simp at c3 ⊢; omega)
    obtain rfl := Option.some.inj H
    go_enter Try.func17, Try.ntmps17
    go_wp2
    repeat (go_quiet (fail); try go_wp2)
    go_ret
    exact ⟨by first | rfl | (simp; done) | (simp [*]; done), by repeat (first | exact Drawn0.refl _ | apply Drawn0.step)⟩

/-! ### sennitref03_rest: function 38 -/
mutual
def sennitref03_rest.l0 : Nat → List Int → List Int → Int → List Int → Int → Option (List Int)
  | 0, _, _, _, _, _ => none
  | k + 1, x0, x1, x5, x6, x7 => if x7 ≥ 0 then (sennitref03_rest.l1 k x0 x1 x5 x6 x7 (wrap64 ((x1.length : Int) - 1))) else (some x6)
def sennitref03_rest.l1 : Nat → List Int → List Int → Int → List Int → Int → Int → Option (List Int)
  | 0, _, _, _, _, _, _ => none
  | k + 1, x0, x1, x5, x6, x7, x8 => if x8 ≥ 0 then (if 0 ≤ (wrap64 ((wrap64 ((wrap64 (x7 + 1)) * x5)) + x8)) then (if (wrap64 ((wrap64 ((wrap64 (x7 + 1)) * x5)) + x8)) < (x6.length : Int) then (if 0 ≤ (wrap64 ((wrap64 ((wrap64 (x7 * x5)) + x8)) + 1)) then (if (wrap64 ((wrap64 ((wrap64 (x7 * x5)) + x8)) + 1)) < (x6.length : Int) then (if 0 ≤ x7 then (if x7 < (x0.length : Int) then (if 0 ≤ x8 then (if x8 < (x1.length : Int) then (if (rd x0 x7) = (rd x1 x8) then (if 0 ≤ (wrap64 ((wrap64 ((wrap64 ((wrap64 (x7 + 1)) * x5)) + x8)) + 1)) then (if (wrap64 ((wrap64 ((wrap64 ((wrap64 (x7 + 1)) * x5)) + x8)) + 1)) < (x6.length : Int) then (if 0 ≤ (wrap64 ((wrap64 (x7 * x5)) + x8)) then (if (wrap64 ((wrap64 (x7 * x5)) + x8)) < (x6.length : Int) then (sennitref03_rest.l1 k x0 x1 x5 (x6.set ((wrap64 ((wrap64 (x7 * x5)) + x8)) : Int).toNat (mx (mx (rd x6 (wrap64 ((wrap64 ((wrap64 (x7 + 1)) * x5)) + x8))) (rd x6 (wrap64 ((wrap64 ((wrap64 (x7 * x5)) + x8)) + 1)))) (wrap64 ((rd x6 (wrap64 ((wrap64 ((wrap64 ((wrap64 (x7 + 1)) * x5)) + x8)) + 1))) + 1)))) x7 (wrap64 (x8 - 1))) else (none)) else (none)) else (none)) else (none)) else (if 0 ≤ (wrap64 ((wrap64 (x7 * x5)) + x8)) then (if (wrap64 ((wrap64 (x7 * x5)) + x8)) < (x6.length : Int) then (sennitref03_rest.l1 k x0 x1 x5 (x6.set ((wrap64 ((wrap64 (x7 * x5)) + x8)) : Int).toNat (mx (rd x6 (wrap64 ((wrap64 ((wrap64 (x7 + 1)) * x5)) + x8))) (rd x6 (wrap64 ((wrap64 ((wrap64 (x7 * x5)) + x8)) + 1))))) x7 (wrap64 (x8 - 1))) else (none)) else (none))) else (none)) else (none)) else (none)) else (none)) else (none)) else (none)) else (none)) else (none)) else (sennitref03_rest.l0 k x0 x1 x5 x6 (wrap64 (x7 - 1)))
end
def sennitref03_rest.f (k : Nat) (l0 : List Int) (l1 : List Int) : Option (List Int) := if 0 ≤ (wrap64 ((wrap64 ((l0.length : Int) + 1)) * (wrap64 ((l1.length : Int) + 1)))) then (if (wrap64 ((wrap64 ((l0.length : Int) + 1)) * (wrap64 ((l1.length : Int) + 1))) : Int).toNat ≤ 35184372088832 then (sennitref03_rest.l0 k l0 l1 (wrap64 ((l1.length : Int) + 1)) (List.replicate (wrap64 ((wrap64 ((l0.length : Int) + 1)) * (wrap64 ((l1.length : Int) + 1))) : Int).toNat 0) (wrap64 ((l0.length : Int) - 1))) else (none)) else (none)
theorem sennitref03_rest.mono_l : ∀ k, (∀ y0 y1 y2 y3 y4, LeO (sennitref03_rest.l0 k y0 y1 y2 y3 y4) (sennitref03_rest.l0 (k + 1) y0 y1 y2 y3 y4)) ∧ (∀ y0 y1 y2 y3 y4 y5, LeO (sennitref03_rest.l1 k y0 y1 y2 y3 y4 y5) (sennitref03_rest.l1 (k + 1) y0 y1 y2 y3 y4 y5))
  | 0 => ⟨fun _ _ _ _ _ r h => by simp [sennitref03_rest.l0] at h, fun _ _ _ _ _ _ r h => by simp [sennitref03_rest.l1] at h⟩
  | k + 1 => by
    obtain ⟨ih0, ih1⟩ := sennitref03_rest.mono_l k
    refine ⟨?_, ?_⟩
    · intro y0 y1 y2 y3 y4
      unfold sennitref03_rest.l0
      repeat' first
      | (with_reducible exact ih0 _ _ _ _ _)
      | (with_reducible exact ih1 _ _ _ _ _ _)
      | (with_reducible exact LeO.refl _)
      | (with_reducible exact LeO.none _)
      | (with_reducible refine LeO.ite ?_ ?_)
      | (with_reducible refine LeO.bind ?_ (fun _ => ?_))
      | exact ih0 _ _ _ _ _
      | exact ih1 _ _ _ _ _ _
      | exact LeO.none _
      | refine LeO.ite ?_ ?_
      | refine LeO.bind ?_ (fun _ => ?_)
    · intro y0 y1 y2 y3 y4 y5
      unfold sennitref03_rest.l1
      repeat' first
      | (with_reducible exact ih0 _ _ _ _ _)
      | (with_reducible exact ih1 _ _ _ _ _ _)
      | (with_reducible exact LeO.refl _)
      | (with_reducible exact LeO.none _)
      | (with_reducible refine LeO.ite ?_ ?_)
      | (with_reducible refine LeO.bind ?_ (fun _ => ?_))
      | exact ih0 _ _ _ _ _
      | exact ih1 _ _ _ _ _ _
      | exact LeO.none _
      | refine LeO.ite ?_ ?_
      | refine LeO.bind ?_ (fun _ => ?_)
theorem sennitref03_rest.mono : ∀ a0 a1 k, LeO (sennitref03_rest.f k a0 a1) (sennitref03_rest.f (k + 1) a0 a1) := by
  intro a0 a1 k
  obtain ⟨ih0, ih1⟩ := sennitref03_rest.mono_l k
  unfold sennitref03_rest.f
  repeat' first
      | (with_reducible exact ih0 _ _ _ _ _)
      | (with_reducible exact ih1 _ _ _ _ _ _)
      | (with_reducible exact LeO.refl _)
      | (with_reducible exact LeO.none _)
      | (with_reducible refine LeO.ite ?_ ?_)
      | (with_reducible refine LeO.bind ?_ (fun _ => ?_))
      | exact ih0 _ _ _ _ _
      | exact ih1 _ _ _ _ _ _
      | exact LeO.none _
      | refine LeO.ite ?_ ?_
      | refine LeO.bind ?_ (fun _ => ?_)
set_option maxHeartbeats 8000000 in
set_option maxRecDepth 100000 in
theorem sennitref03_rest.calls (k : Nat) (A0 : Option Addr) (c0 : Nat) (l0 : List Int) (A1 : Option Addr) (c1 : Nat) (l1 : List Int) (r : List Int) (w : World) (hr0 : Kd.C (Kd.int .i64) w A0 l0.length l0) (hc0 : l0.length ≤ c0) (hr1 : Kd.C (Kd.int .i64) w A1 l1.length l1) (hc1 : l1.length ≤ c1) (h : sennitref03_rest.f k l0 l1 = some r) :
    Calls Try.prog 38 #[.slice A0 l0.length c0, .slice A1 l1.length c1] w fun e w' => ∃ v0_ : Value, e = .returned (v0_) ∧ Kd.R (Kd.int .i64) 3 w' w.heap.size (fun _ => True) v0_ r ∧ Below w.heap.size w w' := by
  have HR0 := Aside0.mk hr0
  have HC0 := Aside0.mk hc0
  clear hr0 hc0
  have HR1 := Aside0.mk hr1
  have HC1 := Aside0.mk hc1
  clear hr1 hc1
  have HB := Aside0.mk (Below.refl w.heap.size w)
  have H : (if 0 ≤ (wrap64 ((wrap64 ((l0.length : Int) + 1)) * (wrap64 ((l1.length : Int) + 1)))) then (if (wrap64 ((wrap64 ((l0.length : Int) + 1)) * (wrap64 ((l1.length : Int) + 1))) : Int).toNat ≤ 35184372088832 then (sennitref03_rest.l0 k l0 l1 (wrap64 ((l1.length : Int) + 1)) (List.replicate (wrap64 ((wrap64 ((l0.length : Int) + 1)) * (wrap64 ((l1.length : Int) + 1))) : Int).toNat 0) (wrap64 ((l0.length : Int) - 1))) else (none)) else (none)) = some r := h
  clear h
  obtain ⟨ji3, hji3⟩ : ∃ j_ : Int, (wrap64 ((wrap64 ((l0.length : Int) + 1)) * (wrap64 ((l1.length : Int) + 1)))) = j_ := ⟨_, rfl⟩
  replace H : (if 0 ≤ (ji3) then (if (ji3 : Int).toNat ≤ 35184372088832 then (sennitref03_rest.l0 k l0 l1 (wrap64 ((l1.length : Int) + 1)) (List.replicate (ji3 : Int).toNat 0) (wrap64 ((l0.length : Int) - 1))) else (none)) else (none)) = some r := by first | (rw [hji3] at H; exact H) | (simp only [hji3] at H ⊢; exact H)
  have hji3w : (IntKind.i64.wrap ((wrap64 ((l0.length : Int) + 1)) * (wrap64 ((l1.length : Int) + 1)))) = ji3 := (i64_w _).trans hji3
  by_cases c4 : 0 ≤ (ji3)
  · rw [if_pos c4] at H
    have c4b0 := eq_true c4
    have c4b1 : decide (0 ≤ (ji3)) = true := decide_eq_true c4
    clear c4
    by_cases c5 : (ji3 : Int).toNat ≤ 35184372088832
    · rw [if_pos c5] at H
      have c5b0 := eq_true c5
      have c5b1 : decide ((ji3 : Int).toNat ≤ 35184372088832) = true := decide_eq_true c5
      clear c5
      obtain ⟨y103, hy103⟩ : ∃ y_ : List Int, y_ = (List.replicate (ji3 : Int).toNat 0) := ⟨_, rfl⟩
      replace H : (sennitref03_rest.l0 k l0 l1 (wrap64 ((l1.length : Int) + 1)) y103 (wrap64 ((l0.length : Int) - 1))) = some r := by first | (rw [hy103]; with_reducible exact H) | (have H2_ := (Option.bind_some _ _).symm.trans H; rw [hy103]; with_reducible exact H2_) | (have H2_ := (Option.bind_some _ _).symm.trans H; with_reducible exact H2_) | with_reducible exact H | (rw [hy103]; exact H) | exact H
      have Ny103 := Aside0.mk hy103
      clear hy103
      have H' := Aside0.mk H
      clear H
      go_enter Try.func38, Try.ntmps38
      go_wp2_with (first | ((with_reducible refine gate_dst (N := 18) rfl ?_); refine Kd.R_make (Kd.int .i64) _ 3 rfl (N := 18) rfl 22 _ _ rfl ji3 rfl rfl Try.underlying22 (.int .i64 0) 8 info3 rfl (by decide) (by omega) 0 (ok := fun _ => True) (okp := fun _ => True) rfl (fun _ hk => hk) trivial (of_decide_eq_true (by first | (with_reducible assumption) | assumption)) (Nat.le_trans (Nat.mul_le_mul_right _ (of_decide_eq_true (by first | (with_reducible assumption) | assumption) : ji3.toNat ≤ 35184372088832)) (by omega)) (Below.refl _ _) (Nat.le_refl _) ?_; intro v104 w6 ho7 hb hg_ hnew_; clear hg_ hnew_; (first | rw [← Ny103.out] at ho7 | (simp only [Int.reduceToNat] at ho7; rw [← Ny103.out] at ho7)); have n0_ := Aside0.mk (Kd.R_lower ho7 (below_size (by repeat (first | (with_reducible first | exact HB.out | apply below_alloc | apply pw_below_drewN | apply below_drew1) | exact HB.out)))); have n1_ := Aside0.mk (below_step (by repeat (first | (with_reducible first | exact HB.out | apply below_alloc | apply pw_below_drewN | apply below_drew1) | exact HB.out)) hb); clear HB; have HO105 := n0_; have HB := n1_; clear n0_ n1_; clear hb ho7))
      have hW64_ : ∀ x : Int, IntKind.i64.wrap x = wrap64 x := i64_w
      repeat (go_quiet (first | ((with_reducible refine gate_dst (N := 18) rfl ?_); refine Kd.R_make (Kd.int .i64) _ 3 rfl (N := 18) rfl 22 _ _ rfl ji3 rfl rfl Try.underlying22 (.int .i64 0) 8 info3 rfl (by decide) (by omega) 0 (ok := fun _ => True) (okp := fun _ => True) rfl (fun _ hk => hk) trivial (of_decide_eq_true (by first | (with_reducible assumption) | assumption)) (Nat.le_trans (Nat.mul_le_mul_right _ (of_decide_eq_true (by first | (with_reducible assumption) | assumption) : ji3.toNat ≤ 35184372088832)) (by omega)) (Below.refl _ _) (Nat.le_refl _) ?_; intro v104 w6 ho7 hb hg_ hnew_; clear hg_ hnew_; (first | rw [← Ny103.out] at ho7 | (simp only [Int.reduceToNat] at ho7; rw [← Ny103.out] at ho7)); have n0_ := Aside0.mk (Kd.R_lower ho7 (below_size (by repeat (first | (with_reducible first | exact HB.out | apply below_alloc | apply pw_below_drewN | apply below_drew1) | exact HB.out)))); have n1_ := Aside0.mk (below_step (by repeat (first | (with_reducible first | exact HB.out | apply below_alloc | apply pw_below_drewN | apply below_drew1) | exact HB.out)) hb); clear HB; have HO105 := n0_; have HB := n1_; clear n0_ n1_; clear hb ho7)); try go_wp2_with (first | ((with_reducible refine gate_dst (N := 18) rfl ?_); refine Kd.R_make (Kd.int .i64) _ 3 rfl (N := 18) rfl 22 _ _ rfl ji3 rfl rfl Try.underlying22 (.int .i64 0) 8 info3 rfl (by decide) (by omega) 0 (ok := fun _ => True) (okp := fun _ => True) rfl (fun _ hk => hk) trivial (of_decide_eq_true (by first | (with_reducible assumption) | assumption)) (Nat.le_trans (Nat.mul_le_mul_right _ (of_decide_eq_true (by first | (with_reducible assumption) | assumption) : ji3.toNat ≤ 35184372088832)) (by omega)) (Below.refl _ _) (Nat.le_refl _) ?_; intro v104 w6 ho7 hb hg_ hnew_; clear hg_ hnew_; (first | rw [← Ny103.out] at ho7 | (simp only [Int.reduceToNat] at ho7; rw [← Ny103.out] at ho7)); have n0_ := Aside0.mk (Kd.R_lower ho7 (below_size (by repeat (first | (with_reducible first | exact HB.out | apply below_alloc | apply pw_below_drewN | apply below_drew1) | exact HB.out)))); have n1_ := Aside0.mk (below_step (by repeat (first | (with_reducible first | exact HB.out | apply below_alloc | apply pw_below_drewN | apply below_drew1) | exact HB.out)) hb); clear HB; have HO105 := n0_; have HB := n1_; clear n0_ n1_; clear hb ho7)))
      go_loopg [7] k (fun kq v7 w' => ∃ (x6_1 : List Int) (x7_1 : Int), v7 = .int .i64 x7_1 ∧ Aside0 (sennitref03_rest.l0 kq l0 l1 (wrap64 ((l1.length : Int) + 1)) x6_1 x7_1 = some r) ∧ Aside0 (kq ≤ k) ∧ Aside0 (Kd.R (Kd.int .i64) 3 w' w.heap.size (fun _ => True) v104 x6_1) ∧ Aside0 (Below w.heap.size w w'))
      case atStart => exact ⟨(y103), (wrap64 ((l0.length : Int) - 1)), (by first | rfl | (simp; done) | (simp [*]; done)), H', ⟨Nat.le_refl _⟩, ⟨by (with_reducible repeat (first | apply Kd.R_alloc | apply Kd.R_drewN | apply Kd.R_drew)); exact HO105.out⟩, ⟨by repeat (first | (with_reducible first | exact HB.out | apply below_alloc | apply pw_below_drewN | apply below_drew1) | exact HB.out)⟩⟩
      case round =>
        clear H'
        try clear c1
        try clear p2
        try clear c3
        try clear c4
        try clear c4b0
        try clear c4b1
        try clear c5
        try clear c5b0
        try clear c5b1
        try clear p6
        obtain ⟨x6_1, x7_1, rfl, HA, HK1, HO_6, HB⟩ := hrel
        cases gk with
        | zero => exact absurd HA.out (by simp [sennitref03_rest.l0])
        | succ k1 =>
          have H := HA.out
          clear HA
          simp only [sennitref03_rest.l0] at H
          by_cases c8 : x7_1 ≥ 0
          · rw [if_pos c8] at H
            have c8b0 : decide (0 ≤ x7_1) = true := decide_eq_true c8
            clear c8
            have H' := Aside0.mk H
            clear H
            go_wp2
            have hW64_ : ∀ x : Int, IntKind.i64.wrap x = wrap64 x := i64_w
            repeat (go_quiet (fail); try go_wp2)
            go_loopg [8] k1 (fun kq v8 w' => ∃ (x6_2 : List Int) (x8_2 : Int), v8 = .int .i64 x8_2 ∧ Aside0 (sennitref03_rest.l1 kq l0 l1 (wrap64 ((l1.length : Int) + 1)) x6_2 x7_1 x8_2 = some r) ∧ Aside0 (kq ≤ k1) ∧ Aside0 (Kd.R (Kd.int .i64) 3 w' w.heap.size (fun _ => True) v104 x6_2) ∧ Aside0 (Below w.heap.size w w'))
            case atStart => exact ⟨(x6_1), (wrap64 ((l1.length : Int) - 1)), (by first | rfl | (simp; done) | (simp [*]; done)), H', ⟨Nat.le_refl _⟩, ⟨by (with_reducible repeat (first | apply Kd.R_alloc | apply Kd.R_drewN | apply Kd.R_drew)); exact HO_6.out⟩, ⟨by repeat (first | (with_reducible first | exact HB.out | apply below_alloc | apply pw_below_drewN | apply below_drew1) | exact HB.out)⟩⟩
            case round =>
              clear H'
              try clear c1
              try clear p2
              try clear c3
              try clear c4
              try clear c4b0
              try clear c4b1
              try clear c5
              try clear c5b0
              try clear c5b1
              try clear p6
              try clear c8
              try clear c8b0
              try clear p2
              try clear p6
              obtain ⟨x6_2, x8_2, rfl, HA, HK2, HO_6, HB⟩ := hrel
              cases gk with
              | zero => exact absurd HA.out (by simp [sennitref03_rest.l1])
              | succ k2 =>
                have H := HA.out
                clear HA
                simp only [sennitref03_rest.l1] at H
                by_cases c9 : x8_2 ≥ 0
                · rw [if_pos c9] at H
                  have c9b0 : decide (0 ≤ x8_2) = true := decide_eq_true c9
                  clear c9
                  obtain ⟨ji10, hji10⟩ : ∃ j_ : Int, (wrap64 ((wrap64 ((wrap64 (x7_1 + 1)) * (wrap64 ((l1.length : Int) + 1)))) + x8_2)) = j_ := ⟨_, rfl⟩
                  replace H : (if 0 ≤ (ji10) then (if (ji10) < (x6_2.length : Int) then (if 0 ≤ (wrap64 ((wrap64 ((wrap64 (x7_1 * (wrap64 ((l1.length : Int) + 1)))) + x8_2)) + 1)) then (if (wrap64 ((wrap64 ((wrap64 (x7_1 * (wrap64 ((l1.length : Int) + 1)))) + x8_2)) + 1)) < (x6_2.length : Int) then (if 0 ≤ x7_1 then (if x7_1 < (l0.length : Int) then (if 0 ≤ x8_2 then (if x8_2 < (l1.length : Int) then (if (rd l0 x7_1) = (rd l1 x8_2) then (if 0 ≤ (wrap64 ((ji10) + 1)) then (if (wrap64 ((ji10) + 1)) < (x6_2.length : Int) then (if 0 ≤ (wrap64 ((wrap64 (x7_1 * (wrap64 ((l1.length : Int) + 1)))) + x8_2)) then (if (wrap64 ((wrap64 (x7_1 * (wrap64 ((l1.length : Int) + 1)))) + x8_2)) < (x6_2.length : Int) then (sennitref03_rest.l1 k2 l0 l1 (wrap64 ((l1.length : Int) + 1)) (x6_2.set ((wrap64 ((wrap64 (x7_1 * (wrap64 ((l1.length : Int) + 1)))) + x8_2)) : Int).toNat (mx (mx (rd x6_2 (ji10)) (rd x6_2 (wrap64 ((wrap64 ((wrap64 (x7_1 * (wrap64 ((l1.length : Int) + 1)))) + x8_2)) + 1)))) (wrap64 ((rd x6_2 (wrap64 ((ji10) + 1))) + 1)))) x7_1 (wrap64 (x8_2 - 1))) else (none)) else (none)) else (none)) else (none)) else (if 0 ≤ (wrap64 ((wrap64 (x7_1 * (wrap64 ((l1.length : Int) + 1)))) + x8_2)) then (if (wrap64 ((wrap64 (x7_1 * (wrap64 ((l1.length : Int) + 1)))) + x8_2)) < (x6_2.length : Int) then (sennitref03_rest.l1 k2 l0 l1 (wrap64 ((l1.length : Int) + 1)) (x6_2.set ((wrap64 ((wrap64 (x7_1 * (wrap64 ((l1.length : Int) + 1)))) + x8_2)) : Int).toNat (mx (rd x6_2 (ji10)) (rd x6_2 (wrap64 ((wrap64 ((wrap64 (x7_1 * (wrap64 ((l1.length : Int) + 1)))) + x8_2)) + 1))))) x7_1 (wrap64 (x8_2 - 1))) else (none)) else (none))) else (none)) else (none)) else (none)) else (none)) else (none)) else (none)) else (none)) else (none)) = some r := by first | (rw [hji10] at H; exact H) | (simp only [hji10] at H ⊢; exact H)
                  have hji10w : (IntKind.i64.wrap ((wrap64 ((wrap64 (x7_1 + 1)) * (wrap64 ((l1.length : Int) + 1)))) + x8_2)) = ji10 := (i64_w _).trans hji10
                  by_cases c11 : 0 ≤ (ji10)
                  · rw [if_pos c11] at H
                    have c11b0 : decide (0 ≤ (ji10)) = true := decide_eq_true c11
                    clear c11
                    by_cases c12 : (ji10) < (x6_2.length : Int)
                    · rw [if_pos c12] at H
                      have c12b0 : decide ((ji10) < (x6_2.length : Int)) = true := decide_eq_true c12
                      clear c12
                      obtain ⟨ji13, hji13⟩ : ∃ j_ : Int, (wrap64 ((wrap64 ((wrap64 (x7_1 * (wrap64 ((l1.length : Int) + 1)))) + x8_2)) + 1)) = j_ := ⟨_, rfl⟩
                      replace H : (if 0 ≤ (ji13) then (if (ji13) < (x6_2.length : Int) then (if 0 ≤ x7_1 then (if x7_1 < (l0.length : Int) then (if 0 ≤ x8_2 then (if x8_2 < (l1.length : Int) then (if (rd l0 x7_1) = (rd l1 x8_2) then (if 0 ≤ (wrap64 ((ji10) + 1)) then (if (wrap64 ((ji10) + 1)) < (x6_2.length : Int) then (if 0 ≤ (wrap64 ((wrap64 (x7_1 * (wrap64 ((l1.length : Int) + 1)))) + x8_2)) then (if (wrap64 ((wrap64 (x7_1 * (wrap64 ((l1.length : Int) + 1)))) + x8_2)) < (x6_2.length : Int) then (sennitref03_rest.l1 k2 l0 l1 (wrap64 ((l1.length : Int) + 1)) (x6_2.set ((wrap64 ((wrap64 (x7_1 * (wrap64 ((l1.length : Int) + 1)))) + x8_2)) : Int).toNat (mx (mx (rd x6_2 (ji10)) (rd x6_2 (ji13))) (wrap64 ((rd x6_2 (wrap64 ((ji10) + 1))) + 1)))) x7_1 (wrap64 (x8_2 - 1))) else (none)) else (none)) else (none)) else (none)) else (if 0 ≤ (wrap64 ((wrap64 (x7_1 * (wrap64 ((l1.length : Int) + 1)))) + x8_2)) then (if (wrap64 ((wrap64 (x7_1 * (wrap64 ((l1.length : Int) + 1)))) + x8_2)) < (x6_2.length : Int) then (sennitref03_rest.l1 k2 l0 l1 (wrap64 ((l1.length : Int) + 1)) (x6_2.set ((wrap64 ((wrap64 (x7_1 * (wrap64 ((l1.length : Int) + 1)))) + x8_2)) : Int).toNat (mx (rd x6_2 (ji10)) (rd x6_2 (ji13)))) x7_1 (wrap64 (x8_2 - 1))) else (none)) else (none))) else (none)) else (none)) else (none)) else (none)) else (none)) else (none)) = some r := by first | (rw [hji13] at H; exact H) | (simp only [hji13] at H ⊢; exact H)
                      have hji13w : (IntKind.i64.wrap ((wrap64 ((wrap64 (x7_1 * (wrap64 ((l1.length : Int) + 1)))) + x8_2)) + 1)) = ji13 := (i64_w _).trans hji13
                      by_cases c14 : 0 ≤ (ji13)
                      · rw [if_pos c14] at H
                        have c14b0 : decide (0 ≤ (ji13)) = true := decide_eq_true c14
                        clear c14
                        by_cases c15 : (ji13) < (x6_2.length : Int)
                        · rw [if_pos c15] at H
                          have c15b0 : decide ((ji13) < (x6_2.length : Int)) = true := decide_eq_true c15
                          clear c15
                          obtain ⟨ji16, hji16⟩ : ∃ j_ : Int, (mx (rd x6_2 (ji10)) (rd x6_2 (ji13))) = j_ := ⟨_, rfl⟩
                          replace H : (if 0 ≤ x7_1 then (if x7_1 < (l0.length : Int) then (if 0 ≤ x8_2 then (if x8_2 < (l1.length : Int) then (if (rd l0 x7_1) = (rd l1 x8_2) then (if 0 ≤ (wrap64 ((ji10) + 1)) then (if (wrap64 ((ji10) + 1)) < (x6_2.length : Int) then (if 0 ≤ (wrap64 ((wrap64 (x7_1 * (wrap64 ((l1.length : Int) + 1)))) + x8_2)) then (if (wrap64 ((wrap64 (x7_1 * (wrap64 ((l1.length : Int) + 1)))) + x8_2)) < (x6_2.length : Int) then (sennitref03_rest.l1 k2 l0 l1 (wrap64 ((l1.length : Int) + 1)) (x6_2.set ((wrap64 ((wrap64 (x7_1 * (wrap64 ((l1.length : Int) + 1)))) + x8_2)) : Int).toNat (mx (ji16) (wrap64 ((rd x6_2 (wrap64 ((ji10) + 1))) + 1)))) x7_1 (wrap64 (x8_2 - 1))) else (none)) else (none)) else (none)) else (none)) else (if 0 ≤ (wrap64 ((wrap64 (x7_1 * (wrap64 ((l1.length : Int) + 1)))) + x8_2)) then (if (wrap64 ((wrap64 (x7_1 * (wrap64 ((l1.length : Int) + 1)))) + x8_2)) < (x6_2.length : Int) then (sennitref03_rest.l1 k2 l0 l1 (wrap64 ((l1.length : Int) + 1)) (x6_2.set ((wrap64 ((wrap64 (x7_1 * (wrap64 ((l1.length : Int) + 1)))) + x8_2)) : Int).toNat (ji16)) x7_1 (wrap64 (x8_2 - 1))) else (none)) else (none))) else (none)) else (none)) else (none)) else (none)) = some r := by first | (rw [hji16] at H; exact H) | (simp only [hji16] at H ⊢; exact H)
                          have hji16_ : (if (rd x6_2 (ji10)) < (rd x6_2 (ji13)) then (rd x6_2 (ji13)) else (rd x6_2 (ji10))) = ji16 := hji16
                          by_cases c17 : 0 ≤ x7_1
                          · rw [if_pos c17] at H
                            have c17b0 : decide (0 ≤ x7_1) = true := decide_eq_true c17
                            clear c17
                            by_cases c18 : x7_1 < (l0.length : Int)
                            · rw [if_pos c18] at H
                              have c18b0 : decide (x7_1 < (l0.length : Int)) = true := decide_eq_true c18
                              clear c18
                              by_cases c19 : 0 ≤ x8_2
                              · rw [if_pos c19] at H
                                have c19b0 : decide (0 ≤ x8_2) = true := decide_eq_true c19
                                clear c19
                                by_cases c20 : x8_2 < (l1.length : Int)
                                · rw [if_pos c20] at H
                                  have c20b0 : decide (x8_2 < (l1.length : Int)) = true := decide_eq_true c20
                                  clear c20
                                  by_cases c21 : (rd l0 x7_1) = (rd l1 x8_2)
                                  · rw [if_pos c21] at H
                                    have c21b0 : ((rd l0 x7_1) == (rd l1 x8_2)) = true := beq_iff_eq.mpr c21
                                    have c21b1 : ((rd l0 x7_1) != (rd l1 x8_2)) = false := bne_eq_false_iff_eq.mpr c21
                                    clear c21
                                    obtain ⟨ji22, hji22⟩ : ∃ j_ : Int, (wrap64 ((ji10) + 1)) = j_ := ⟨_, rfl⟩
                                    replace H : (if 0 ≤ (ji22) then (if (ji22) < (x6_2.length : Int) then (if 0 ≤ (wrap64 ((wrap64 (x7_1 * (wrap64 ((l1.length : Int) + 1)))) + x8_2)) then (if (wrap64 ((wrap64 (x7_1 * (wrap64 ((l1.length : Int) + 1)))) + x8_2)) < (x6_2.length : Int) then (sennitref03_rest.l1 k2 l0 l1 (wrap64 ((l1.length : Int) + 1)) (x6_2.set ((wrap64 ((wrap64 (x7_1 * (wrap64 ((l1.length : Int) + 1)))) + x8_2)) : Int).toNat (mx (ji16) (wrap64 ((rd x6_2 (ji22)) + 1)))) x7_1 (wrap64 (x8_2 - 1))) else (none)) else (none)) else (none)) else (none)) = some r := by first | (rw [hji22] at H; exact H) | (simp only [hji22] at H ⊢; exact H)
                                    have hji22w : (IntKind.i64.wrap ((ji10) + 1)) = ji22 := (i64_w _).trans hji22
                                    by_cases c23 : 0 ≤ (ji22)
                                    · rw [if_pos c23] at H
                                      have c23b0 : decide (0 ≤ (ji22)) = true := decide_eq_true c23
                                      clear c23
                                      by_cases c24 : (ji22) < (x6_2.length : Int)
                                      · rw [if_pos c24] at H
                                        have c24b0 : decide ((ji22) < (x6_2.length : Int)) = true := decide_eq_true c24
                                        clear c24
                                        obtain ⟨ji25, hji25⟩ : ∃ j_ : Int, (mx (ji16) (wrap64 ((rd x6_2 (ji22)) + 1))) = j_ := ⟨_, rfl⟩
                                        replace H : (if 0 ≤ (wrap64 ((wrap64 (x7_1 * (wrap64 ((l1.length : Int) + 1)))) + x8_2)) then (if (wrap64 ((wrap64 (x7_1 * (wrap64 ((l1.length : Int) + 1)))) + x8_2)) < (x6_2.length : Int) then (sennitref03_rest.l1 k2 l0 l1 (wrap64 ((l1.length : Int) + 1)) (x6_2.set ((wrap64 ((wrap64 (x7_1 * (wrap64 ((l1.length : Int) + 1)))) + x8_2)) : Int).toNat (ji25)) x7_1 (wrap64 (x8_2 - 1))) else (none)) else (none)) = some r := by first | (rw [hji25] at H; exact H) | (simp only [hji25] at H ⊢; exact H)
                                        have hji25_ : (if (ji16) < (wrap64 ((rd x6_2 (ji22)) + 1)) then (wrap64 ((rd x6_2 (ji22)) + 1)) else (ji16)) = ji25 := hji25
                                        obtain ⟨ji26, hji26⟩ : ∃ j_ : Int, (wrap64 ((wrap64 (x7_1 * (wrap64 ((l1.length : Int) + 1)))) + x8_2)) = j_ := ⟨_, rfl⟩
                                        have hji13_ji26 := hji13; (try rw [hji26] at hji13_ji26)
                                        replace H : (if 0 ≤ (ji26) then (if (ji26) < (x6_2.length : Int) then (sennitref03_rest.l1 k2 l0 l1 (wrap64 ((l1.length : Int) + 1)) (x6_2.set ((ji26) : Int).toNat (ji25)) x7_1 (wrap64 (x8_2 - 1))) else (none)) else (none)) = some r := by first | (rw [hji26] at H; exact H) | (simp only [hji26] at H ⊢; exact H)
                                        have hji26w : (IntKind.i64.wrap ((wrap64 (x7_1 * (wrap64 ((l1.length : Int) + 1)))) + x8_2)) = ji26 := (i64_w _).trans hji26
                                        by_cases c27 : 0 ≤ (ji26)
                                        · rw [if_pos c27] at H
                                          have c27b0 : decide (0 ≤ (ji26)) = true := decide_eq_true c27
                                          clear c27
                                          by_cases c28 : (ji26) < (x6_2.length : Int)
                                          · rw [if_pos c28] at H
                                            have c28b0 : decide ((ji26) < (x6_2.length : Int)) = true := decide_eq_true c28
                                            clear c28
                                            obtain ⟨y111, hy111⟩ : ∃ y_ : List Int, y_ = (x6_2.set ((ji26) : Int).toNat (ji25)) := ⟨_, rfl⟩
                                            replace H : (sennitref03_rest.l1 k2 l0 l1 (wrap64 ((l1.length : Int) + 1)) y111 x7_1 (wrap64 (x8_2 - 1))) = some r := by first | (rw [hy111]; with_reducible exact H) | (have H2_ := (Option.bind_some _ _).symm.trans H; rw [hy111]; with_reducible exact H2_) | (have H2_ := (Option.bind_some _ _).symm.trans H; with_reducible exact H2_) | with_reducible exact H | (rw [hy111]; exact H) | exact H
                                            have Ny111 := Aside0.mk hy111
                                            clear hy111
                                            have H' := Aside0.mk H
                                            clear H
                                            obtain ⟨Ao30, co30, eo30⟩ := Kd.R_slice HO_6.out
                                            subst eo30
                                            have p106 : 0 ≤ ((ji10) : Int) := of_decide_eq_true (by first | (with_reducible assumption) | assumption)
                                            have q106 : (ji10) < (x6_2.length : Int) := of_decide_eq_true (by first | (with_reducible assumption) | assumption)
                                            obtain ⟨ad106, e106, hx106_0⟩ := Kd.at_int (Kd.R_reads' HO_6.out).2.2 (ji10) p106 q106
                                            cases e106
                                            replace p106 := eq_true p106
                                            replace q106 := eq_true q106
                                            have p107 : 0 ≤ ((ji13) : Int) := of_decide_eq_true (by first | (with_reducible assumption) | assumption)
                                            have q107 : (ji13) < (x6_2.length : Int) := of_decide_eq_true (by first | (with_reducible assumption) | assumption)
                                            obtain ⟨ad107, e107, hx107_0⟩ := Kd.at_int (Kd.R_reads' HO_6.out).2.2 (ji13) p107 q107
                                            obtain rfl : ad106 = ad107 := (by injection e107)
                                            replace p107 := eq_true p107
                                            replace q107 := eq_true q107
                                            have p108 : 0 ≤ (x7_1 : Int) := of_decide_eq_true (by first | (with_reducible assumption) | assumption)
                                            have q108 : x7_1 < (l0.length : Int) := of_decide_eq_true (by first | (with_reducible assumption) | assumption)
                                            obtain ⟨ad108, e108, hx108_0⟩ := Kd.at_int HR0.out x7_1 p108 q108
                                            cases e108
                                            replace hx108_0 := (HB.out.cell (World.block_lt_of_cell? w _ hx108_0)).trans hx108_0
                                            replace p108 := eq_true p108
                                            replace q108 := eq_true q108
                                            have p109 : 0 ≤ (x8_2 : Int) := of_decide_eq_true (by first | (with_reducible assumption) | assumption)
                                            have q109 : x8_2 < (l1.length : Int) := of_decide_eq_true (by first | (with_reducible assumption) | assumption)
                                            obtain ⟨ad109, e109, hx109_0⟩ := Kd.at_int HR1.out x8_2 p109 q109
                                            cases e109
                                            replace hx109_0 := (HB.out.cell (World.block_lt_of_cell? w _ hx109_0)).trans hx109_0
                                            replace p109 := eq_true p109
                                            replace q109 := eq_true q109
                                            have p110 : 0 ≤ ((ji22) : Int) := of_decide_eq_true (by first | (with_reducible assumption) | assumption)
                                            have q110 : (ji22) < (x6_2.length : Int) := of_decide_eq_true (by first | (with_reducible assumption) | assumption)
                                            obtain ⟨ad110, e110, hx110_0⟩ := Kd.at_int (Kd.R_reads' HO_6.out).2.2 (ji22) p110 q110
                                            obtain rfl : ad106 = ad110 := (by injection e110)
                                            replace p110 := eq_true p110
                                            replace q110 := eq_true q110
                                            have p29 : 0 ≤ ((ji26) : Int) := of_decide_eq_true (by first | (with_reducible assumption) | assumption)
                                            have q29 : ((ji26) : Int) < ((x6_2.length : Int) : Int) := of_decide_eq_true (by first | (with_reducible assumption) | assumption)
                                            obtain ⟨go29, co29, eo29, gb29, gl29, cl29, HG29⟩ := Kd.R_form HO_6.out (by omega)
                                            (first | cases eo29 | (injection eo29 with ea_ en_ ec_; (first | subst ea_ | (injection ea_ with ea_; subst ea_)); subst ec_; clear en_))
                                            have GB29 := Aside0.mk gb29
                                            have GG29 := Aside0.mk HG29
                                            clear gb29 gl29 HG29
                                            (first | simp only [add_plain] at hx106_0 | skip)
                                            (first | simp only [add_plain] at hx107_0 | skip)
                                            (first | simp only [add_plain] at hx110_0 | skip)
                                            obtain ⟨hx29_0, hf29_0⟩ := Kd.R_celln 0 HO_6.out ((ji26) : Int) p29 q29
                                            replace p29 := eq_true p29
                                            replace q29 := eq_true q29
                                            have HP31 := Kd.R_putg HO_6.out ((ji26) : Int) ji25
                                            go_wp2_with (first | ((with_reducible refine gate_store (t := 3) (p := 81) rfl ?_); (try (rw [drewN_self wr]; generalize hq_ : World.drewN wr _ = wr; have n0_ := Aside0.mk (Kd.R_at hq_ HO_6.out); have n1_ := Aside0.mk (below_at hq_ HB.out); (try (have hx106_0 := cellD hq_ hx106_0)); (try (have hx107_0 := cellD hq_ hx107_0)); (try (have hx108_0 := cellD hq_ hx108_0)); (try (have hx109_0 := cellD hq_ hx109_0)); (try (have hx110_0 := cellD hq_ hx110_0)); (try (have hx29_0 := cellD hq_ hx29_0)); (try (have hf29_0 := frozenD hq_ hf29_0)); clear hq_ HO_6 HB; have HO_6 := n0_; have HB := n1_; clear n0_ n1_; (try (have HP31 := Kd.R_putg HO_6.out ((ji26) : Int) ji25)))); refine store_event (t := 3) (p := 81) (v := ?vo_w32) (w1 := (wr.setCell ⟨go29, ((ji26) : Int).toNat, none⟩ (.int .i64 ji25))) ?hg ?ho ?hn ?hr ?_; (case ho => rfl); (case hg => rfl); (case hn => rfl); (case hr => first | (go_simp; done) | (go_simp; rfl)); intro w32 hw; have hg : wr.grownBy w32 (some go29) := (by rw [hw]; exact HP31.2); have hp_ : Kd.R (Kd.int .i64) 3 w32 w.heap.size (fun _ => True) (.slice (some ⟨go29, 0, none⟩) x6_2.length co30) y111 := (by rw [hw, Ny111.out]; exact HP31.1); clear HP31; have n0_ := Aside0.mk (hp_); have n1_ := Aside0.mk ((by rw [hw]; exact below_set (HB.out) GB29.out : Below w.heap.size w w32)); clear HO_6; clear HB; have HO_6 := n0_; have HB := n1_; clear n0_ n1_; clear hg hw hp_))
                                            have hW64_ : ∀ x : Int, IntKind.i64.wrap x = wrap64 x := i64_w
                                            repeat (go_quiet (first | ((with_reducible refine gate_store (t := 3) (p := 81) rfl ?_); (try (rw [drewN_self wr]; generalize hq_ : World.drewN wr _ = wr; have n0_ := Aside0.mk (Kd.R_at hq_ HO_6.out); have n1_ := Aside0.mk (below_at hq_ HB.out); (try (have hx106_0 := cellD hq_ hx106_0)); (try (have hx107_0 := cellD hq_ hx107_0)); (try (have hx108_0 := cellD hq_ hx108_0)); (try (have hx109_0 := cellD hq_ hx109_0)); (try (have hx110_0 := cellD hq_ hx110_0)); (try (have hx29_0 := cellD hq_ hx29_0)); (try (have hf29_0 := frozenD hq_ hf29_0)); clear hq_ HO_6 HB; have HO_6 := n0_; have HB := n1_; clear n0_ n1_; (try (have HP31 := Kd.R_putg HO_6.out ((ji26) : Int) ji25)))); refine store_event (t := 3) (p := 81) (v := ?vo_w32) (w1 := (wr.setCell ⟨go29, ((ji26) : Int).toNat, none⟩ (.int .i64 ji25))) ?hg ?ho ?hn ?hr ?_; (case ho => rfl); (case hg => rfl); (case hn => rfl); (case hr => first | (go_simp; done) | (go_simp; rfl)); intro w32 hw; have hg : wr.grownBy w32 (some go29) := (by rw [hw]; exact HP31.2); have hp_ : Kd.R (Kd.int .i64) 3 w32 w.heap.size (fun _ => True) (.slice (some ⟨go29, 0, none⟩) x6_2.length co30) y111 := (by rw [hw, Ny111.out]; exact HP31.1); clear HP31; have n0_ := Aside0.mk (hp_); have n1_ := Aside0.mk ((by rw [hw]; exact below_set (HB.out) GB29.out : Below w.heap.size w w32)); clear HO_6; clear HB; have HO_6 := n0_; have HB := n1_; clear n0_ n1_; clear hg hw hp_)); try go_wp2_with (first | ((with_reducible refine gate_store (t := 3) (p := 81) rfl ?_); (try (rw [drewN_self wr]; generalize hq_ : World.drewN wr _ = wr; have n0_ := Aside0.mk (Kd.R_at hq_ HO_6.out); have n1_ := Aside0.mk (below_at hq_ HB.out); (try (have hx106_0 := cellD hq_ hx106_0)); (try (have hx107_0 := cellD hq_ hx107_0)); (try (have hx108_0 := cellD hq_ hx108_0)); (try (have hx109_0 := cellD hq_ hx109_0)); (try (have hx110_0 := cellD hq_ hx110_0)); (try (have hx29_0 := cellD hq_ hx29_0)); (try (have hf29_0 := frozenD hq_ hf29_0)); clear hq_ HO_6 HB; have HO_6 := n0_; have HB := n1_; clear n0_ n1_; (try (have HP31 := Kd.R_putg HO_6.out ((ji26) : Int) ji25)))); refine store_event (t := 3) (p := 81) (v := ?vo_w32) (w1 := (wr.setCell ⟨go29, ((ji26) : Int).toNat, none⟩ (.int .i64 ji25))) ?hg ?ho ?hn ?hr ?_; (case ho => rfl); (case hg => rfl); (case hn => rfl); (case hr => first | (go_simp; done) | (go_simp; rfl)); intro w32 hw; have hg : wr.grownBy w32 (some go29) := (by rw [hw]; exact HP31.2); have hp_ : Kd.R (Kd.int .i64) 3 w32 w.heap.size (fun _ => True) (.slice (some ⟨go29, 0, none⟩) x6_2.length co30) y111 := (by rw [hw, Ny111.out]; exact HP31.1); clear HP31; have n0_ := Aside0.mk (hp_); have n1_ := Aside0.mk ((by rw [hw]; exact below_set (HB.out) GB29.out : Below w.heap.size w w32)); clear HO_6; clear HB; have HO_6 := n0_; have HB := n1_; clear n0_ n1_; clear hg hw hp_)))
                                            go_roundg k2
                                            case measure => have := HK1.out; have := HK2.out; omega
                                            case rel => exact ⟨(y111), (wrap64 (x8_2 - 1)), (by first | rfl | (simp; done) | (simp [*]; done)), H', ⟨by have := HK1.out; have := HK2.out; omega⟩, ⟨by (with_reducible repeat (first | apply Kd.R_alloc | apply Kd.R_drewN | apply Kd.R_drew)); exact HO_6.out⟩, ⟨by repeat (first | (with_reducible first | exact HB.out | apply below_alloc | apply pw_below_drewN | apply below_drew1) | exact HB.out)⟩⟩
                                          · rw [if_neg c28] at H
                                            exact absurd H (by simp)
                                        · rw [if_neg c27] at H
                                          exact absurd H (by simp)
                                      · rw [if_neg c24] at H
                                        exact absurd H (by simp)
                                    · rw [if_neg c23] at H
                                      exact absurd H (by simp)
                                  · rw [if_neg c21] at H
                                    have c21b0 : ((rd l0 x7_1) == (rd l1 x8_2)) = false := beq_eq_false_iff_ne.mpr c21
                                    have c21b1 : ((rd l0 x7_1) != (rd l1 x8_2)) = true := bne_iff_ne.mpr c21
                                    obtain ⟨ji33, hji33⟩ : ∃ j_ : Int, (wrap64 ((wrap64 (x7_1 * (wrap64 ((l1.length : Int) + 1)))) + x8_2)) = j_ := ⟨_, rfl⟩
                                    have hji13_ji33 := hji13; (try rw [hji33] at hji13_ji33)
                                    replace H : (if 0 ≤ (ji33) then (if (ji33) < (x6_2.length : Int) then (sennitref03_rest.l1 k2 l0 l1 (wrap64 ((l1.length : Int) + 1)) (x6_2.set ((ji33) : Int).toNat (ji16)) x7_1 (wrap64 (x8_2 - 1))) else (none)) else (none)) = some r := by first | (rw [hji33] at H; exact H) | (simp only [hji33] at H ⊢; exact H)
                                    have hji33w : (IntKind.i64.wrap ((wrap64 (x7_1 * (wrap64 ((l1.length : Int) + 1)))) + x8_2)) = ji33 := (i64_w _).trans hji33
                                    by_cases c34 : 0 ≤ (ji33)
                                    · rw [if_pos c34] at H
                                      have c34b0 : decide (0 ≤ (ji33)) = true := decide_eq_true c34
                                      clear c34
                                      by_cases c35 : (ji33) < (x6_2.length : Int)
                                      · rw [if_pos c35] at H
                                        have c35b0 : decide ((ji33) < (x6_2.length : Int)) = true := decide_eq_true c35
                                        clear c35
                                        obtain ⟨y112, hy112⟩ : ∃ y_ : List Int, y_ = (x6_2.set ((ji33) : Int).toNat (ji16)) := ⟨_, rfl⟩
                                        replace H : (sennitref03_rest.l1 k2 l0 l1 (wrap64 ((l1.length : Int) + 1)) y112 x7_1 (wrap64 (x8_2 - 1))) = some r := by first | (rw [hy112]; with_reducible exact H) | (have H2_ := (Option.bind_some _ _).symm.trans H; rw [hy112]; with_reducible exact H2_) | (have H2_ := (Option.bind_some _ _).symm.trans H; with_reducible exact H2_) | with_reducible exact H | (rw [hy112]; exact H) | exact H
                                        have Ny112 := Aside0.mk hy112
                                        clear hy112
                                        have H' := Aside0.mk H
                                        clear H
                                        obtain ⟨Ao37, co37, eo37⟩ := Kd.R_slice HO_6.out
                                        subst eo37
                                        have p106 : 0 ≤ ((ji10) : Int) := of_decide_eq_true (by first | (with_reducible assumption) | assumption)
                                        have q106 : (ji10) < (x6_2.length : Int) := of_decide_eq_true (by first | (with_reducible assumption) | assumption)
                                        obtain ⟨ad106, e106, hx106_0⟩ := Kd.at_int (Kd.R_reads' HO_6.out).2.2 (ji10) p106 q106
                                        cases e106
                                        replace p106 := eq_true p106
                                        replace q106 := eq_true q106
                                        have p107 : 0 ≤ ((ji13) : Int) := of_decide_eq_true (by first | (with_reducible assumption) | assumption)
                                        have q107 : (ji13) < (x6_2.length : Int) := of_decide_eq_true (by first | (with_reducible assumption) | assumption)
                                        obtain ⟨ad107, e107, hx107_0⟩ := Kd.at_int (Kd.R_reads' HO_6.out).2.2 (ji13) p107 q107
                                        obtain rfl : ad106 = ad107 := (by injection e107)
                                        replace p107 := eq_true p107
                                        replace q107 := eq_true q107
                                        have p108 : 0 ≤ (x7_1 : Int) := of_decide_eq_true (by first | (with_reducible assumption) | assumption)
                                        have q108 : x7_1 < (l0.length : Int) := of_decide_eq_true (by first | (with_reducible assumption) | assumption)
                                        obtain ⟨ad108, e108, hx108_0⟩ := Kd.at_int HR0.out x7_1 p108 q108
                                        cases e108
                                        replace hx108_0 := (HB.out.cell (World.block_lt_of_cell? w _ hx108_0)).trans hx108_0
                                        replace p108 := eq_true p108
                                        replace q108 := eq_true q108
                                        have p109 : 0 ≤ (x8_2 : Int) := of_decide_eq_true (by first | (with_reducible assumption) | assumption)
                                        have q109 : x8_2 < (l1.length : Int) := of_decide_eq_true (by first | (with_reducible assumption) | assumption)
                                        obtain ⟨ad109, e109, hx109_0⟩ := Kd.at_int HR1.out x8_2 p109 q109
                                        cases e109
                                        replace hx109_0 := (HB.out.cell (World.block_lt_of_cell? w _ hx109_0)).trans hx109_0
                                        replace p109 := eq_true p109
                                        replace q109 := eq_true q109
                                        have p36 : 0 ≤ ((ji33) : Int) := of_decide_eq_true (by first | (with_reducible assumption) | assumption)
                                        have q36 : ((ji33) : Int) < ((x6_2.length : Int) : Int) := of_decide_eq_true (by first | (with_reducible assumption) | assumption)
                                        obtain ⟨go36, co36, eo36, gb36, gl36, cl36, HG36⟩ := Kd.R_form HO_6.out (by omega)
                                        (first | cases eo36 | (injection eo36 with ea_ en_ ec_; (first | subst ea_ | (injection ea_ with ea_; subst ea_)); subst ec_; clear en_))
                                        have GB36 := Aside0.mk gb36
                                        have GG36 := Aside0.mk HG36
                                        clear gb36 gl36 HG36
                                        (first | simp only [add_plain] at hx106_0 | skip)
                                        (first | simp only [add_plain] at hx107_0 | skip)
                                        obtain ⟨hx36_0, hf36_0⟩ := Kd.R_celln 0 HO_6.out ((ji33) : Int) p36 q36
                                        replace p36 := eq_true p36
                                        replace q36 := eq_true q36
                                        have HP38 := Kd.R_putg HO_6.out ((ji33) : Int) ji16
                                        go_wp2_with (first | ((with_reducible refine gate_store (t := 3) (p := 81) rfl ?_); (try (rw [drewN_self wr]; generalize hq_ : World.drewN wr _ = wr; have n0_ := Aside0.mk (Kd.R_at hq_ HO_6.out); have n1_ := Aside0.mk (below_at hq_ HB.out); (try (have hx106_0 := cellD hq_ hx106_0)); (try (have hx107_0 := cellD hq_ hx107_0)); (try (have hx108_0 := cellD hq_ hx108_0)); (try (have hx109_0 := cellD hq_ hx109_0)); (try (have hx36_0 := cellD hq_ hx36_0)); (try (have hf36_0 := frozenD hq_ hf36_0)); clear hq_ HO_6 HB; have HO_6 := n0_; have HB := n1_; clear n0_ n1_; (try (have HP38 := Kd.R_putg HO_6.out ((ji33) : Int) ji16)))); refine store_event (t := 3) (p := 81) (v := ?vo_w39) (w1 := (wr.setCell ⟨go36, ((ji33) : Int).toNat, none⟩ (.int .i64 ji16))) ?hg ?ho ?hn ?hr ?_; (case ho => rfl); (case hg => rfl); (case hn => rfl); (case hr => first | (go_simp; done) | (go_simp; rfl)); intro w39 hw; have hg : wr.grownBy w39 (some go36) := (by rw [hw]; exact HP38.2); have hp_ : Kd.R (Kd.int .i64) 3 w39 w.heap.size (fun _ => True) (.slice (some ⟨go36, 0, none⟩) x6_2.length co37) y112 := (by rw [hw, Ny112.out]; exact HP38.1); clear HP38; have n0_ := Aside0.mk (hp_); have n1_ := Aside0.mk ((by rw [hw]; exact below_set (HB.out) GB36.out : Below w.heap.size w w39)); clear HO_6; clear HB; have HO_6 := n0_; have HB := n1_; clear n0_ n1_; clear hg hw hp_))
                                        have hW64_ : ∀ x : Int, IntKind.i64.wrap x = wrap64 x := i64_w
                                        repeat (go_quiet (first | ((with_reducible refine gate_store (t := 3) (p := 81) rfl ?_); (try (rw [drewN_self wr]; generalize hq_ : World.drewN wr _ = wr; have n0_ := Aside0.mk (Kd.R_at hq_ HO_6.out); have n1_ := Aside0.mk (below_at hq_ HB.out); (try (have hx106_0 := cellD hq_ hx106_0)); (try (have hx107_0 := cellD hq_ hx107_0)); (try (have hx108_0 := cellD hq_ hx108_0)); (try (have hx109_0 := cellD hq_ hx109_0)); (try (have hx36_0 := cellD hq_ hx36_0)); (try (have hf36_0 := frozenD hq_ hf36_0)); clear hq_ HO_6 HB; have HO_6 := n0_; have HB := n1_; clear n0_ n1_; (try (have HP38 := Kd.R_putg HO_6.out ((ji33) : Int) ji16)))); refine store_event (t := 3) (p := 81) (v := ?vo_w39) (w1 := (wr.setCell ⟨go36, ((ji33) : Int).toNat, none⟩ (.int .i64 ji16))) ?hg ?ho ?hn ?hr ?_; (case ho => rfl); (case hg => rfl); (case hn => rfl); (case hr => first | (go_simp; done) | (go_simp; rfl)); intro w39 hw; have hg : wr.grownBy w39 (some go36) := (by rw [hw]; exact HP38.2); have hp_ : Kd.R (Kd.int .i64) 3 w39 w.heap.size (fun _ => True) (.slice (some ⟨go36, 0, none⟩) x6_2.length co37) y112 := (by rw [hw, Ny112.out]; exact HP38.1); clear HP38; have n0_ := Aside0.mk (hp_); have n1_ := Aside0.mk ((by rw [hw]; exact below_set (HB.out) GB36.out : Below w.heap.size w w39)); clear HO_6; clear HB; have HO_6 := n0_; have HB := n1_; clear n0_ n1_; clear hg hw hp_)); try go_wp2_with (first | ((with_reducible refine gate_store (t := 3) (p := 81) rfl ?_); (try (rw [drewN_self wr]; generalize hq_ : World.drewN wr _ = wr; have n0_ := Aside0.mk (Kd.R_at hq_ HO_6.out); have n1_ := Aside0.mk (below_at hq_ HB.out); (try (have hx106_0 := cellD hq_ hx106_0)); (try (have hx107_0 := cellD hq_ hx107_0)); (try (have hx108_0 := cellD hq_ hx108_0)); (try (have hx109_0 := cellD hq_ hx109_0)); (try (have hx36_0 := cellD hq_ hx36_0)); (try (have hf36_0 := frozenD hq_ hf36_0)); clear hq_ HO_6 HB; have HO_6 := n0_; have HB := n1_; clear n0_ n1_; (try (have HP38 := Kd.R_putg HO_6.out ((ji33) : Int) ji16)))); refine store_event (t := 3) (p := 81) (v := ?vo_w39) (w1 := (wr.setCell ⟨go36, ((ji33) : Int).toNat, none⟩ (.int .i64 ji16))) ?hg ?ho ?hn ?hr ?_; (case ho => rfl); (case hg => rfl); (case hn => rfl); (case hr => first | (go_simp; done) | (go_simp; rfl)); intro w39 hw; have hg : wr.grownBy w39 (some go36) := (by rw [hw]; exact HP38.2); have hp_ : Kd.R (Kd.int .i64) 3 w39 w.heap.size (fun _ => True) (.slice (some ⟨go36, 0, none⟩) x6_2.length co37) y112 := (by rw [hw, Ny112.out]; exact HP38.1); clear HP38; have n0_ := Aside0.mk (hp_); have n1_ := Aside0.mk ((by rw [hw]; exact below_set (HB.out) GB36.out : Below w.heap.size w w39)); clear HO_6; clear HB; have HO_6 := n0_; have HB := n1_; clear n0_ n1_; clear hg hw hp_)))
                                        go_roundg k2
                                        case measure => have := HK1.out; have := HK2.out; omega
                                        case rel => exact ⟨(y112), (wrap64 (x8_2 - 1)), (by first | rfl | (simp; done) | (simp [*]; done)), H', ⟨by have := HK1.out; have := HK2.out; omega⟩, ⟨by (with_reducible repeat (first | apply Kd.R_alloc | apply Kd.R_drewN | apply Kd.R_drew)); exact HO_6.out⟩, ⟨by repeat (first | (with_reducible first | exact HB.out | apply below_alloc | apply pw_below_drewN | apply below_drew1) | exact HB.out)⟩⟩
                                      · rw [if_neg c35] at H
                                        exact absurd H (by simp)
                                    · rw [if_neg c34] at H
                                      exact absurd H (by simp)
                                · rw [if_neg c20] at H
                                  exact absurd H (by simp)
                              · rw [if_neg c19] at H
                                exact absurd H (by simp)
                            · rw [if_neg c18] at H
                              exact absurd H (by simp)
                          · rw [if_neg c17] at H
                            exact absurd H (by simp)
                        · rw [if_neg c15] at H
                          exact absurd H (by simp)
                      · rw [if_neg c14] at H
                        exact absurd H (by simp)
                    · rw [if_neg c12] at H
                      exact absurd H (by simp)
                  · rw [if_neg c11] at H
                    exact absurd H (by simp)
                · rw [if_neg c9] at H
                  have c9b0 : decide (0 ≤ x8_2) = false := decide_eq_false c9
                  clear c9
                  have H' := Aside0.mk H
                  clear H
                  go_wp2
                  have hW64_ : ∀ x : Int, IntKind.i64.wrap x = wrap64 x := i64_w
                  repeat (go_quiet (fail); try go_wp2)
                  go_roundg k2
                  case measure => have := HK1.out; have := HK2.out; omega
                  case rel => exact ⟨(x6_2), (wrap64 (x7_1 - 1)), (by first | rfl | (simp; done) | (simp [*]; done)), H', ⟨by have := HK1.out; have := HK2.out; omega⟩, ⟨by (with_reducible repeat (first | apply Kd.R_alloc | apply Kd.R_drewN | apply Kd.R_drew)); exact HO_6.out⟩, ⟨by repeat (first | (with_reducible first | exact HB.out | apply below_alloc | apply pw_below_drewN | apply below_drew1) | exact HB.out)⟩⟩
          · rw [if_neg c8] at H
            have c8b0 : decide (0 ≤ x7_1) = false := decide_eq_false c8
            clear c8
            obtain rfl := Option.some.inj H
            go_wp2
            have hW64_ : ∀ x : Int, IntKind.i64.wrap x = wrap64 x := i64_w
            repeat (go_quiet (fail); try go_wp2)
            go_ret
            exact ⟨_, by first | rfl | (simp [errW_none, errW_some] <;> rfl) | (simp only [← hji3]; first | rfl | (simp [errW_none, errW_some] <;> rfl)) | (simp [*, errW_none, errW_some] <;> rfl), by (with_reducible repeat (first | apply Kd.R_alloc | apply Kd.R_drewN | apply Kd.R_drew)); exact HO_6.out, by repeat (first | (with_reducible first | exact HB.out | apply below_alloc | apply pw_below_drewN | apply below_drew1) | exact HB.out)⟩
    · rw [if_neg c5] at H
      exact absurd H (by simp)
  · rw [if_neg c4] at H
    exact absurd H (by simp)

end Go.Proofs.Ytkakcefekabmhaa.X
