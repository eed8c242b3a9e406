/-
  Parts of one proof, one behind the other: XRn3, XRn4, XRn5, XInternMath, XLcsMath, XKit, XBuild, XGives, XRef02, XLcs1, XLcs2, XGap1, XGap2, XGapMath, XPairMath, XGapLaw, XOpen, XIntern1.
-/
import Derived.Test.YtnlekganlliikaaBGapLast1
import Derived.Shelf.Strings.Builder1
import Derived.IntWalk
import Derived.Lib.Strings
import Derived.Lib.SliceRun
import Derived.Lib.Hide
import Derived.Outline
import Derived.Shelf.SlicesQ.Load
import Derived.Deep.WholeRow
import Derived.Deep.MidRow
import Derived.Deep.Slices
import Derived.OpenShut
import Derived.ProofKit
import Derived.SizedLaws
import Derived.Lib.SmallJoins
import Derived.Maps.Own
import Derived.Maps.OwnSet
import Derived.Maps.OwnOps
import Derived.OwnWalk
import Derived.RangeFuncRecord
import Derived.Laws.LoneSync
-- part XRn3
namespace Go.Proofs.Ytnlekganlliikaa.X
open Go.RowKit Go.Proofs.YtnlekganlliikaaW.PrintWords Go.Proofs.YtnlekganlliikaaW.PrintLast Go.Proofs.YtnlekganlliikaaW.PrintMore
attribute [local go_sem] max2_int min2_int max_two min_two max_three min_three max_four min_four   -- for this text's walks alone
set_option linter.unusedVariables false
set_option linter.unusedSimpArgs false
mutual
def sennitref19_come.l0 : Nat → List (S37) → List ByteArray → Int → List Int → List (S37) → Int → Int → Option ((List (S37)))
  | 0, _, _, _, _, _, _, _ => none
  | k + 1, x0, x1, x2, x7, x8, x9, x10 => if x10 ≤ (x0.length : Int) then (if x10 < (x0.length : Int) then (if 0 ≤ x10 then (if x10 < (x7.length : Int) then (sennitref19_come.j1 k x0 x1 x2 x7 x8 x9 x10 (rd x7 x10)) else (none)) else (none)) else (sennitref19_come.j1 k x0 x1 x2 x7 x8 x9 x10 (x1.length : Int))) else (some x8)
def sennitref19_come.j1 : Nat → List (S37) → List ByteArray → Int → List Int → List (S37) → Int → Int → Int → Option ((List (S37)))
  | 0, _, _, _, _, _, _, _, _ => none
  | k + 1, x0, x1, x2, x7, x8, x9, x10, x11 => sennitref19_come.l1 k x0 x1 x2 x7 x8 x9 x10 x11
def sennitref19_come.j3 : Nat → List (S37) → List ByteArray → Int → List Int → List (S37) → Int → Int → Int → Option ((List (S37)))
  | 0, _, _, _, _, _, _, _, _ => none
  | k + 1, x0, x1, x2, x7, x8, x9, x10, x11 => if x10 < (x0.length : Int) then (if x11 ≥ 0 then (if 0 ≤ x10 then (if ((rd_T37 x0 x10).f0).size + 1 ≤ 9223372036854775807 then (if x8.length < 4398046511104 then (sennitref19_come.l0 k x0 x1 x2 x7 (x8 ++ [(⟨((rd_T37 x0 x10).f0) ++ (⟨#[45]⟩ : ByteArray), (rd_T37 x0 x10).f1⟩ : S37)]) (wrap64 (x9 + 1)) (wrap64 (x10 + 1))) else (none)) else (none)) else (none)) else (if 0 ≤ x10 then (if ((rd_T37 x0 x10).f0).size + 1 ≤ 9223372036854775807 then (if x8.length < 4398046511104 then (sennitref19_come.l0 k x0 x1 x2 x7 (x8 ++ [(⟨((rd_T37 x0 x10).f0) ++ (⟨#[32]⟩ : ByteArray), (rd_T37 x0 x10).f1⟩ : S37)]) x9 (wrap64 (x10 + 1))) else (none)) else (none)) else (none))) else (sennitref19_come.l0 k x0 x1 x2 x7 x8 x9 (wrap64 (x10 + 1)))
def sennitref19_come.l1 : Nat → List (S37) → List ByteArray → Int → List Int → List (S37) → Int → Int → Int → Option ((List (S37)))
  | 0, _, _, _, _, _, _, _, _ => none
  | k + 1, x0, x1, x2, x7, x8, x9, x10, x11 => if x11 ≥ 0 then (if x9 < x11 then ((sennitref19_blanks.f k (wrap64 (x2 + 1)) x2).bind fun t173 => (if 0 ≤ x9 then (if x9 < (x1.length : Int) then (if x8.length < 4398046511104 then (sennitref19_come.l1 k x0 x1 x2 x7 (x8 ++ [(⟨t173, rdOf ByteArray.empty x1 x9⟩ : S37)]) (wrap64 (x9 + 1)) x10 x11) else (none)) else (none)) else (none))) else (sennitref19_come.j3 k x0 x1 x2 x7 x8 x9 x10 x11)) else (sennitref19_come.j3 k x0 x1 x2 x7 x8 x9 x10 x11)
end
def sennitref19_come.f (k : Nat) (l0 : List (S37)) (l1 : List ByteArray) (a2 : Int) : Option ((List (S37))) := (sennitref19_paired.f k l0 l1).bind fun t169 => (sennitref19_come.l0 k l0 l1 a2 t169 ([] : List (S37)) 0 0)
def sennitref19_come.T11 : Bool × List (List Nat × List Nat) := (true, [([], []), ([], []), ([1], [1]), ([], []), ([2, 3], [2, 3]), ([], []), ([], []), ([5, 6], [5, 6]), ([7], [7]), ([4, 8], [4, 8]), ([9], [9]), ([0, 10, 4], [0, 10]), ([11, 11, 0, 1, 2, 3, 4, 5, 6, 7, 8, 9, 10, 11], [0, 11])])
def sennitref19_come.B11 : List Nat := [0, 0, 2, 0, 14, 0, 0, 96, 224, 510, 1022, 2047, 4095]
theorem sennitref19_come.tab11 : rtab .any (opsOf Try.f42 11) = sennitref19_come.T11 := by kernel_rfl
theorem sennitref19_come.bits11 : waitsOk sennitref19_come.T11.2 sennitref19_come.B11 = true := by kernel_rfl
def sennitref19_come.T18 : Bool × List (List Nat × List Nat) := (true, [([], []), ([], []), ([], []), ([1, 2], [1, 2]), ([3], [3]), ([4], [4]), ([], []), ([5, 6], [5, 6]), ([], []), ([], []), ([8, 9], [8, 9]), ([10], [10]), ([11], [11]), ([7, 12], [7, 12]), ([13], [13]), ([0, 14], [0, 14]), ([15, 15, 0, 1, 2, 3, 4, 5, 6, 7, 8, 9, 10, 11, 12, 13, 14, 15], [0, 15])])
def sennitref19_come.B18 : List Nat := [0, 0, 0, 6, 14, 30, 0, 126, 0, 0, 768, 1792, 3840, 8190, 16382, 32767, 65535]
theorem sennitref19_come.tab18 : rtab .any (opsOf Try.f42 18) = sennitref19_come.T18 := by kernel_rfl
theorem sennitref19_come.bits18 : waitsOk sennitref19_come.T18.2 sennitref19_come.B18 = true := by kernel_rfl
set_option maxHeartbeats 8000000 in
set_option maxRecDepth 100000 in
theorem sennitref19_come.calls (k : Nat) (A0 : Option Addr) (c0 : Nat) (l0 : List (S37)) (A1 : Option Addr) (c1 : Nat) (l1 : List ByteArray) (a2 : Int) (r : List (S37)) (w : World) (hr0 : Kd.C k37 w A0 l0.length l0) (hc0 : l0.length ≤ c0) (hr1 : Kd.C Kd.string w A1 l1.length l1) (hc1 : l1.length ≤ c1) (h : sennitref19_come.f k l0 l1 a2 = some r) :
    Calls Try.prog 42 #[.slice A0 l0.length c0, .slice A1 l1.length c1, .int .i64 a2] w fun e w' => ∃ v0_ : Value, e = .returned (v0_) ∧ Kd.R k37 37 w' w.heap.size (fun _ => True) v0_ r ∧ Below w.heap.size w w' := by
  have hu37 := Try.underlying37
  have HR0 := Aside0.mk hr0
  have HC0 := Aside0.mk hc0
  clear hr0 hc0
  have HR1 := Aside0.mk hr1
  have HC1 := Aside0.mk hc1
  clear hr1 hc1
  have HB := Aside0.mk (Below.refl w.heap.size w)
  have H : ((sennitref19_paired.f k l0 l1).bind fun t169 => (sennitref19_come.l0 k l0 l1 a2 t169 ([] : List (S37)) 0 0)) = some r := h
  clear h
  replace H := Option.bind_eq_some_iff.mp H
  obtain ⟨t169, A40, H⟩ := H
  replace H : (sennitref19_come.l0 k l0 l1 a2 t169 ([] : List (S37)) 0 0) = some r := H
  have A4 := Aside0.mk A40
  clear A40
  have H' := Aside0.mk H
  clear H
  go_enter Try.func42, Try.ntmps42
  go_wp2_with (first | ((with_reducible refine gate_callee (f := 67) rfl ?_); refine goesL_ (some 15) rfl rfl Try.func67 (by kernel_rfl) rfl #[.slice A0 l0.length c0, .slice A1 l1.length c1] rfl (by (try simp only [List.map_toArray, List.map_cons, List.map_nil]); first | done | rfl | (simp only [List.length_drop, List.length_take]; rfl)) ?_; (with_reducible refine (sennitref19_paired.calls k _ _ l0 (fun k_ => k_ < w.heap.size) _ _ l1 t169 _ ?side1 ?side2 ?side3 A4.out).mono ?_); (case side1 => repeat (first | exact HR0.out | (with_reducible refine Kd.C_alloc ?_ _) | (with_reducible refine Kd.C_drewN ?_ _) | (with_reducible refine Kd.C_drew ?_))); (case side2 => exact HC0.out); (case side3 => exact Kd.V_mk HC1.out (Kd.F_below (Kd.C_F Kd.heap_string HR1.out) (by repeat (first | (with_reducible first | exact HB.out | apply below_alloc | apply pw_below_drewN | apply below_drew1) | exact HB.out)))); rintro e w5 ⟨v170, rfl, ho0, hb⟩; refine ⟨_, rfl, ?_⟩; have n0_ := Aside0.mk (Kd.R_lower (Kd.R_mono (ok' := fun k_ => True) ho0 (fun _ hk_ => trivial)) (below_size (by repeat (first | (with_reducible first | exact HB.out | apply below_alloc | apply pw_below_drewN | apply below_drew1) | exact HB.out)))); have n1_ := Aside0.mk (below_step (by repeat (first | (with_reducible first | exact HB.out | apply below_alloc | apply pw_below_drewN | apply below_drew1) | exact HB.out)) hb); clear HB; have HO171 := n0_; have HB := n1_; clear n0_ n1_; (try clear hb); (try clear hb2); (try clear hk); (try clear hi); (try clear ho0)))
  go_loopg [8, 9, 10] k (fun kq v8 v9 v10 w' => ∃ (x8_1 : List (S37)) (x9_1 : Int) (x10_1 : Int), v9 = .int .i64 x9_1 ∧ v10 = .int .i64 x10_1 ∧ Aside0 (sennitref19_come.l0 kq l0 l1 a2 t169 x8_1 x9_1 x10_1 = some r) ∧ Aside0 (kq ≤ k) ∧ Aside0 (Kd.R (Kd.int .i64) 3 w' w.heap.size (fun _ => True) v170 t169) ∧ Aside0 (Kd.R k37 37 w' w.heap.size (fun _ => True) v8 x8_1) ∧ Aside0 (Below w.heap.size w w'))
  case atStart => exact ⟨(([] : List (S37))), (0), (0), (by first | rfl | (simp; done) | (simp [*]; done)), (by first | rfl | (simp; done) | (simp [*]; done)), H', ⟨Nat.le_refl _⟩, ⟨by (with_reducible repeat (first | apply Kd.R_alloc | apply Kd.R_drewN | apply Kd.R_drew)); exact HO171.out⟩, ⟨by first | exact Kd.R_nil _ _ _ _ _ | exact Kd.N_nil _ _ _ _ _ | exact Kd.V_nil _ _ _ _ _ | exact Kd.Q_nil _ _ _ _ _ | exact Kd.S_nil _ _ _ _ _⟩, ⟨by repeat (first | (with_reducible first | exact HB.out | apply below_alloc | apply pw_below_drewN | apply below_drew1) | exact HB.out)⟩⟩
  case round =>
    clear H'
    try clear c1
    try clear p2
    try clear c4
    obtain ⟨x8_1, x9_1, x10_1, rfl, rfl, HA, HK1, HO_7, HO_8, HB⟩ := hrel
    cases gk with
    | zero => exact absurd HA.out (by simp [sennitref19_come.l0])
    | succ k1 =>
      have H := HA.out
      clear HA
      simp only [sennitref19_come.l0] at H
      by_cases c6 : x10_1 ≤ (l0.length : Int)
      · rw [if_pos c6] at H
        have c6b0 : decide (x10_1 ≤ (l0.length : Int)) = true := decide_eq_true c6
        clear c6
        have HC7 := Aside0.mk H
        clear H
        go_upto_if 27 with (fail)
        go_cut [11] (fun v11 wc => ∃ (kq : Nat) (x11_6 : Int), v11 = .int .i64 x11_6 ∧ Aside0 (sennitref19_come.j1 kq l0 l1 a2 t169 x8_1 x9_1 x10_1 x11_6 = some r) ∧ Aside0 (kq ≤ k1) ∧ Aside0 (Kd.R (Kd.int .i64) 3 wc w.heap.size (fun _ => True) v170 t169) ∧ Aside0 (Kd.R k37 37 wc w.heap.size (fun _ => True) u8 x8_1) ∧ Aside0 (Below w.heap.size w wc))
        case first =>
          have H := HC7.out
          clear HC7
          by_cases c8 : x10_1 < (l0.length : Int)
          · rw [if_pos c8] at H
            have c8b0 : decide (x10_1 < (l0.length : Int)) = true := decide_eq_true c8
            clear c8
            (first | rw [c8b0] | (simp only [i64_w, i32_w]; rw [c8b0]) | skip)
            by_cases c9 : 0 ≤ x10_1
            · rw [if_pos c9] at H
              have c9b0 : decide (0 ≤ x10_1) = true := decide_eq_true c9
              clear c9
              by_cases c10 : x10_1 < (t169.length : Int)
              · rw [if_pos c10] at H
                have c10b0 : decide (x10_1 < (t169.length : Int)) = true := decide_eq_true c10
                clear c10
                have H' := Aside0.mk H
                clear H
                obtain ⟨Ao11, co11, eo11⟩ := Kd.R_slice HO_7.out
                subst eo11
                have p172 : 0 ≤ (x10_1 : Int) := of_decide_eq_true (by first | (with_reducible assumption) | assumption)
                have q172 : x10_1 < (t169.length : Int) := of_decide_eq_true (by first | (with_reducible assumption) | assumption)
                obtain ⟨ad172, e172, hx172_0⟩ := Kd.at_int (Kd.R_reads' HO_7.out).2.2 x10_1 p172 q172
                cases e172
                replace p172 := eq_true p172
                replace q172 := eq_true q172
                go_wp2
                go_meet
                case rel => exact ⟨_, (rd t169 x10_1), (by first | rfl | (simp; done) | (simp [*]; done)), H', ⟨by have := HK1.out; first | omega | exact Nat.le_refl _⟩, ⟨by (with_reducible repeat (first | apply Kd.R_alloc | apply Kd.R_drewN | apply Kd.R_drew)); exact HO_7.out⟩, ⟨by (with_reducible repeat (first | apply Kd.R_alloc | apply Kd.R_drewN | apply Kd.R_drew)); exact HO_8.out⟩, ⟨by repeat (first | (with_reducible first | exact HB.out | apply below_alloc | apply pw_below_drewN | apply below_drew1) | exact HB.out)⟩⟩
              · rw [if_neg c10] at H
                exact absurd H (by simp)
            · rw [if_neg c9] at H
              exact absurd H (by simp)
          · rw [if_neg c8] at H
            have c8b0 : decide (x10_1 < (l0.length : Int)) = false := decide_eq_false c8
            clear c8
            (first | rw [c8b0] | (simp only [i64_w, i32_w]; rw [c8b0]) | skip)
            have H' := Aside0.mk H
            clear H
            go_wp2
            go_meet
            case rel => exact ⟨_, ((l1.length : Int)), (by first | rfl | (simp; done) | (simp [*]; done)), H', ⟨by have := HK1.out; first | omega | exact Nat.le_refl _⟩, ⟨by (with_reducible repeat (first | apply Kd.R_alloc | apply Kd.R_drewN | apply Kd.R_drew)); exact HO_7.out⟩, ⟨by (with_reducible repeat (first | apply Kd.R_alloc | apply Kd.R_drewN | apply Kd.R_drew)); exact HO_8.out⟩, ⟨by repeat (first | (with_reducible first | exact HB.out | apply below_alloc | apply pw_below_drewN | apply below_drew1) | exact HB.out)⟩⟩
        case rest =>
          clear HC7
          try clear c1
          try clear p1
          try clear q1
          try clear hx1
          try clear p2
          try clear c4
          try clear c6
          try clear c6b0
          try clear c8
          try clear c8b0
          try clear c9
          try clear c9b0
          try clear c10
          try clear c10b0
          try clear hx172_0
          try clear p172
          try clear p2
          try clear q172
          obtain ⟨kq, x11_6, rfl, HA, HJ6, HO_7, HO_8, HB⟩ := hcut
          cases kq with
          | zero => exact absurd HA.out (by simp [sennitref19_come.j1])
          | succ kj6 =>
            have H := HA.out
            clear HA
            simp only [sennitref19_come.j1] at H
            have HC12 := Aside0.mk H
            clear H
            go_upto_block 2 with (fail)
            go_cut [8, 9] (fun v8 v9 wc => ∃ (kq : Nat) (x8_11 : List (S37)) (x9_11 : Int), v9 = .int .i64 x9_11 ∧ Aside0 (sennitref19_come.j3 kq l0 l1 a2 t169 x8_11 x9_11 x10_1 x11_6 = some r) ∧ Aside0 (kq ≤ kj6) ∧ Aside0 (Kd.R (Kd.int .i64) 3 wc w.heap.size (fun _ => True) v170 t169) ∧ Aside0 (Kd.R k37 37 wc w.heap.size (fun _ => True) v8 x8_11) ∧ Aside0 (Below w.heap.size w wc))
            case first =>
              have H := HC12.out
              clear HC12
              have H' := Aside0.mk H
              clear H
              go_wp2
              go_loopg [8, 9] kj6 (fun kq v8 v9 w' => ∃ (x8_3 : List (S37)) (x9_3 : Int), v9 = .int .i64 x9_3 ∧ Aside0 (sennitref19_come.l1 kq l0 l1 a2 t169 x8_3 x9_3 x10_1 x11_6 = some r) ∧ Aside0 (kq ≤ kj6) ∧ Aside0 (Kd.R (Kd.int .i64) 3 w' w.heap.size (fun _ => True) v170 t169) ∧ Aside0 (Kd.R k37 37 w' w.heap.size (fun _ => True) v8 x8_3) ∧ Aside0 (Below w.heap.size w w'))
              case atStart => exact ⟨(x8_1), (x9_1), (by first | rfl | (simp; done) | (simp [*]; done)), H', ⟨Nat.le_refl _⟩, ⟨by (with_reducible repeat (first | apply Kd.R_alloc | apply Kd.R_drewN | apply Kd.R_drew)); exact HO_7.out⟩, ⟨by (with_reducible repeat (first | apply Kd.R_alloc | apply Kd.R_drewN | apply Kd.R_drew)); exact HO_8.out⟩, ⟨by repeat (first | (with_reducible first | exact HB.out | apply below_alloc | apply pw_below_drewN | apply below_drew1) | exact HB.out)⟩⟩
              case round =>
                clear H'
                try clear c1
                try clear p1
                try clear q1
                try clear hx1
                try clear p2
                try clear c4
                try clear c6
                try clear c6b0
                try clear c8
                try clear c8b0
                try clear c9
                try clear c9b0
                try clear c10
                try clear c10b0
                try clear hx172_0
                try clear p1
                try clear p172
                try clear p2
                try clear q1
                try clear q172
                obtain ⟨x8_3, x9_3, rfl, HA, HK3, HO_7, HO_8, HB⟩ := hrel
                cases gk with
                | zero => exact absurd HA.out (by simp [sennitref19_come.l1])
                | succ k3 =>
                  have H := HA.out
                  clear HA
                  simp only [sennitref19_come.l1] at H
                  by_cases c13 : x11_6 ≥ 0
                  · rw [if_pos c13] at H
                    have c13b0 : decide (0 ≤ x11_6) = true := decide_eq_true c13
                    clear c13
                    (first | rw [c13b0] | (simp only [i64_w, i32_w]; rw [c13b0]) | skip)
                    by_cases c14 : x9_3 < x11_6
                    · rw [if_pos c14] at H
                      have c14b0 : decide (x9_3 < x11_6) = true := decide_eq_true c14
                      clear c14
                      replace H := Option.bind_eq_some_iff.mp H
                      obtain ⟨t173, A150, H⟩ := H
                      replace H : (if 0 ≤ x9_3 then (if x9_3 < (l1.length : Int) then (if x8_3.length < 4398046511104 then (sennitref19_come.l1 k3 l0 l1 a2 t169 (x8_3 ++ [(⟨t173, rdOf ByteArray.empty l1 x9_3⟩ : S37)]) (wrap64 (x9_3 + 1)) x10_1 x11_6) else (none)) else (none)) else (none)) = some r := H
                      have A15 := Aside0.mk A150
                      clear A150
                      by_cases c16 : 0 ≤ x9_3
                      · rw [if_pos c16] at H
                        have c16b0 : decide (0 ≤ x9_3) = true := decide_eq_true c16
                        clear c16
                        by_cases c17 : x9_3 < (l1.length : Int)
                        · rw [if_pos c17] at H
                          have c17b0 : decide (x9_3 < (l1.length : Int)) = true := decide_eq_true c17
                          clear c17
                          by_cases c18 : x8_3.length < 4398046511104
                          · rw [if_pos c18] at H
                            have LMc18 := Aside0.mk c18
                            clear c18
                            obtain ⟨y175, hy175⟩ : ∃ y_ : List (S37), y_ = (x8_3 ++ [(⟨t173, rdOf ByteArray.empty l1 x9_3⟩ : S37)]) := ⟨_, rfl⟩
                            replace H : (sennitref19_come.l1 k3 l0 l1 a2 t169 y175 (wrap64 (x9_3 + 1)) x10_1 x11_6) = some r := by first | (rw [hy175]; with_reducible exact H) | (have H2_ := (Option.bind_some _ _).symm.trans H; rw [hy175]; with_reducible exact H2_) | (have H2_ := (Option.bind_some _ _).symm.trans H; with_reducible exact H2_) | with_reducible exact H | (rw [hy175]; exact H) | exact H
                            have Ny175 := Aside0.mk hy175
                            clear hy175
                            have H' := Aside0.mk H
                            clear H
                            try go_wp2
                            have n0_ := Aside0.mk (Kd.R_drew HO_7.out)
                            have n1_ := Aside0.mk (Kd.R_drew HO_8.out)
                            have n2_ := Aside0.mk (below_drew1 HB.out)
                            clear HO_7
                            clear HO_8
                            clear HB
                            have HO_7 := n0_
                            have HO_8 := n1_
                            have HB := n2_
                            clear n0_ n1_ n2_
                            have p174 : 0 ≤ (x9_3 : Int) := of_decide_eq_true (by first | (with_reducible assumption) | assumption)
                            have q174 : x9_3 < (l1.length : Int) := of_decide_eq_true (by first | (with_reducible assumption) | assumption)
                            obtain ⟨ad174, e174, hx174_0⟩ := Kd.at_string HR1.out x9_3 p174 q174
                            have hw174_0 := hx174_0
                            cases e174
                            replace hx174_0 := (HB.out.cell (World.block_lt_of_cell? w _ hx174_0)).trans hx174_0
                            replace p174 := eq_true p174
                            replace q174 := eq_true q174
                            refine start_ (n := 13) (S := fun w' => w'.cell? (ad174.add (x9_3).toNat) = some (.string (rdOf ByteArray.empty l1 x9_3))) (ds := []) #[false, false, false, false, false, false, false, false, false, false, false, false, false] (by kernel_rfl) rfl rfl (((HB.out.cell (World.block_lt_of_cell? w _ hw174_0)).trans hw174_0)) (fun hHeld => ?_); refine with_tabW sennitref19_come.tab11 sennitref19_come.bits11 (fun HT_ HW_ => ?_)
                            generalize wr.drew = w19 at HO_7 HO_8 HB hx174_0 hHeld ⊢
                            refine pure_ (i := 0) (N := some 39) (v := ?_) (a' := ?_) #[true, false, false, false, false, false, false, false, false, false, false, false, false] rfl rfl (any_of HT_.out (by kernel_rfl)) (fun _ _ _ h => h) (Or.inl ⟨by rfl, ?_⟩) ?_ ?_
                            rotate_left
                            · intro w'
                              go_simp
                              with_reducible rfl
                            rotate_left
                            · simp only [Act.put, List.setIfInBounds_toArray, List.set_cons_zero, List.set_cons_succ, i64_w, i32_w]
                              rfl
                            refine pure_ (i := 1) (N := some 40) (v := ?_) (a' := ?_) #[true, true, false, false, false, false, false, false, false, false, false, false, false] rfl rfl (any_of HT_.out (by kernel_rfl)) (fun _ _ _ h => h) (Or.inl ⟨by rfl, ?_⟩) ?_ ?_
                            rotate_left
                            · intro w'
                              go_simp
                              with_reducible rfl
                            rotate_left
                            · simp only [Act.put, List.setIfInBounds_toArray, List.set_cons_zero, List.set_cons_succ, i64_w, i32_w]
                              rfl
                            refine pure_ (i := 2) (N := some 41) (v := ?_) (a' := ?_) #[true, true, true, false, false, false, false, false, false, false, false, false, false] rfl rfl (any_of HT_.out (by kernel_rfl)) (fun _ _ _ h => h) (Or.inl ⟨by rfl, ?_⟩) ?_ ?_
                            rotate_left
                            · intro w'
                              go_simp
                              with_reducible rfl
                            rotate_left
                            · simp only [Act.put, List.setIfInBounds_toArray, List.set_cons_zero, List.set_cons_succ, i64_w, i32_w]
                              rfl
                            refine pure_ (i := 3) (N := some 42) (v := ?_) (a' := ?_) #[true, true, true, true, false, false, false, false, false, false, false, false, false] rfl rfl (any_of HT_.out (by kernel_rfl)) (fun _ _ _ h => h) (Or.inl ⟨by rfl, ?_⟩) ?_ ?_
                            rotate_left
                            · intro w'
                              go_simp
                              with_reducible rfl
                            rotate_left
                            · simp only [Act.put, List.setIfInBounds_toArray, List.set_cons_zero, List.set_cons_succ, i64_w, i32_w]
                              rfl
                            refine pure_ (i := 5) (N := some 44) (v := ?_) (a' := ?_) #[true, true, true, true, false, true, false, false, false, false, false, false, false] rfl rfl (any_of HT_.out (by kernel_rfl)) (fun _ _ _ h => h) (Or.inl ⟨by rfl, ?_⟩) ?_ ?_
                            rotate_left
                            · intro w'
                              go_simp
                              with_reducible rfl
                            rotate_left
                            · simp only [Act.put, List.setIfInBounds_toArray, List.set_cons_zero, List.set_cons_succ, i64_w, i32_w]
                              rfl
                            refine pure_ (i := 6) (N := some 45) (v := ?_) (a' := ?_) #[true, true, true, true, false, true, true, false, false, false, false, false, false] rfl rfl (any_of HT_.out (by kernel_rfl)) (fun _ _ _ h => h) (Or.inl ⟨by rfl, ?_⟩) ?_ ?_
                            rotate_left
                            · intro w'
                              go_simp
                              with_reducible rfl
                            rotate_left
                            · simp only [Act.put, List.setIfInBounds_toArray, List.set_cons_zero, List.set_cons_succ, i64_w, i32_w]
                              rfl
                            refine pure_ (i := 7) (N := some 46) (v := ?_) (a' := ?_) #[true, true, true, true, false, true, true, true, false, false, false, false, false] rfl rfl (any_of HT_.out (by kernel_rfl)) (fun _ _ _ h => h) (Or.inl ⟨by rfl, ?_⟩) ?_ ?_
                            rotate_left
                            · intro w'
                              go_simp
                              with_reducible rfl
                            rotate_left
                            · simp only [Act.put, List.setIfInBounds_toArray, List.set_cons_zero, List.set_cons_succ, i64_w, i32_w]
                              rfl
                            refine take_ (i := 8) (N := some 47) (v := ?_) (a' := ?_) #[true, true, true, true, false, true, true, true, true, false, false, false, false] rfl rfl (take_ofW HT_.out HW_.out (by kernel_rfl)) (fun _ _ _ h => h) (Or.inl ⟨by rfl, ?_⟩) hHeld ?_ ?_
                            rotate_left
                            · intro w' s0
                              go_simp
                              with_reducible rfl
                            rotate_left
                            · simp only [Act.put, List.setIfInBounds_toArray, List.set_cons_zero, List.set_cons_succ, i64_w, i32_w]
                              rfl
                            refine one_ (i := 4) (N := some 43) #[true, true, true, true, true, true, true, true, true, false, false, false, false] rfl rfl (one_of HT_.out (by kernel_rfl)) (by decide) (fun K hK => ?_)
                            refine goes_ Try.func68 (by kernel_rfl) rfl #[.int .i64 (wrap64 (a2 + 1)), .int .i64 a2] (by rfl) rfl rfl (by (try simp only [List.map_toArray, List.map_cons, List.map_nil]); first | done | rfl | (simp only [List.length_drop, List.length_take]; rfl)) ?_
                            with_reducible refine (sennitref19_blanks.calls k3 (wrap64 (a2 + 1)) a2 t173 _ A15.out).mono ?_
                            rintro e w' ⟨rfl, ⟨nd, rfl⟩⟩
                            refine ⟨_, rfl, ?_⟩
                            refine hK.out _ _ (((HB.out.cell (World.block_lt_of_cell? w _ hw174_0)).trans hw174_0)) (fun hHeld => ?_)
                            clear hK K
                            refine norm_ (a' := ?_) ?_ ?_
                            rotate_left
                            · show Act.put _ (some 43) _ = _
                              simp only [Act.put, List.setIfInBounds_toArray, List.set_cons_zero, List.set_cons_succ, i64_w, i32_w]
                              rfl
                            refine pure_ (i := 9) (N := some 48) (v := ?_) (a' := ?_) #[true, true, true, true, true, true, true, true, true, true, false, false, false] rfl rfl (any_of HT_.out (by kernel_rfl)) (fun _ _ _ h => h) (Or.inl ⟨by rfl, ?_⟩) ?_ ?_
                            rotate_left
                            · intro w'
                              go_simp
                              with_reducible rfl
                            rotate_left
                            · simp only [Act.put, List.setIfInBounds_toArray, List.set_cons_zero, List.set_cons_succ, i64_w, i32_w]
                              rfl
                            refine one_ (i := 10) (N := some 49) #[true, true, true, true, true, true, true, true, true, true, true, false, false] rfl rfl (one_of HT_.out (by kernel_rfl)) (by decide) (fun K hK => ?_)
                            refine value_ (w1 := ?_) (v := ?_) (by rfl) rfl ?_ ?_
                            rotate_left 2
                            · go_simp
                              constructor
                              · rfl
                              · rfl
                            refine hK.out _ _ ((World.cell?_alloc_lt _ _ _ (World.block_lt_of_cell? _ _ (((HB.out.cell (World.block_lt_of_cell? w _ hw174_0)).trans hw174_0)))).trans (((HB.out.cell (World.block_lt_of_cell? w _ hw174_0)).trans hw174_0))) (fun hHeld => ?_)
                            clear hK K
                            refine norm_ (a' := ?_) ?_ ?_
                            rotate_left
                            · show Act.put _ (some 49) _ = _
                              simp only [Act.put, List.setIfInBounds_toArray, List.set_cons_zero, List.set_cons_succ, i64_w, i32_w]
                              rfl
                            refine one_ (i := 11) (N := some 50) #[true, true, true, true, true, true, true, true, true, true, true, true, false] rfl rfl (one_of HT_.out (by kernel_rfl)) (by decide) (fun K hK => ?_)
                            refine Kd.R_append_step k37 (w0 := w) w.heap.size (by rfl) (.tmp 39) (.tmp 49) 25 37 (.agg #[(.string ⟨#[]⟩), (.string ⟨#[]⟩)]) 32 rfl Try.underlying25 info37 rfl (by decide) (by omega) u8 x8_3 (⟨t173, rdOf ByteArray.empty l1 x9_3⟩ : S37) [.string t173, .string (rdOf ByteArray.empty l1 x9_3)] (fun _ => True) (fun _ => False) rfl rfl ?aP (fun _ hk => hk.elim) ?aF ?aO ?aB ?aS ?aL ?_
                            (case aP => exact k37_mkM _ _ _ (⟨t173, rdOf ByteArray.empty l1 x9_3⟩ : S37))
                            (case aB => exact (by repeat (first | (with_reducible first | exact HB.out | apply below_alloc | apply pw_below_drewN | apply below_drew1) | exact HB.out)))
                            (case aF => exact (fun _ _ => trivial))
                            (case aO => exact (by (with_reducible repeat (first | apply Kd.R_alloc | apply Kd.R_drewN | apply Kd.R_drew)); exact HO_8.out))
                            (case aS => exact (below_size (by repeat (first | (with_reducible first | exact HB.out | apply below_alloc | apply pw_below_drewN | apply below_drew1) | exact HB.out))))
                            (case aL => have := LMc18.out; omega)
                            intro v176 w20 ho hb hg hat
                            rw [← Ny175.out] at ho
                            have n0_ := Aside0.mk (Kd.R_over' (by (with_reducible repeat (first | apply Kd.R_alloc | apply Kd.R_drewN | apply Kd.R_drew)); exact HO_7.out) (Kd.R_typed (by (with_reducible repeat (first | apply Kd.R_alloc | apply Kd.R_drewN | apply Kd.R_drew)); exact HO_8.out)) (by decide) hg)
                            have n1_ := Aside0.mk (hb)
                            have n2_ := Aside0.mk (ho)
                            clear HO_7
                            clear HB
                            clear HO_8
                            have HO_7 := n0_
                            have HB := n1_
                            have HO177 := n2_
                            clear n0_ n1_ n2_
                            clear ho hb hg hat
                            refine hK.out _ _ (((HB.out.cell (World.block_lt_of_cell? w _ hw174_0)).trans hw174_0)) (fun hHeld => ?_)
                            clear hK K
                            refine norm_ (a' := ?_) ?_ ?_
                            rotate_left
                            · show Act.put _ (some 50) _ = _
                              simp only [Act.put, List.setIfInBounds_toArray, List.set_cons_zero, List.set_cons_succ, i64_w, i32_w]
                              rfl
                            refine pure_ (i := 12) (N := some 8) (v := ?_) (a' := ?_) #[true, true, true, true, true, true, true, true, true, true, true, true, true] rfl rfl (any_of HT_.out (by kernel_rfl)) (fun _ _ _ h => h) (Or.inl ⟨by rfl, ?_⟩) ?_ ?_
                            rotate_left
                            · intro w'
                              go_simp
                              with_reducible rfl
                            rotate_left
                            · simp only [Act.put, List.setIfInBounds_toArray, List.set_cons_zero, List.set_cons_succ, i64_w, i32_w]
                              rfl
                            refine done_ (done_of HT_.out (by kernel_rfl)) ?_
                            try go_wp2
                            go_roundg k3
                            case measure => have := HK1.out; have := HJ6.out; have := HK3.out; omega
                            case rel => exact ⟨(y175), (wrap64 (x9_3 + 1)), (by first | rfl | (simp; done) | (simp [*]; done)), H', ⟨by have := HK1.out; have := HJ6.out; have := HK3.out; omega⟩, ⟨by (with_reducible repeat (first | apply Kd.R_alloc | apply Kd.R_drewN | apply Kd.R_drew)); exact HO_7.out⟩, ⟨by (with_reducible repeat (first | apply Kd.R_alloc | apply Kd.R_drewN | apply Kd.R_drew)); exact HO177.out⟩, ⟨by repeat (first | (with_reducible first | exact HB.out | apply below_alloc | apply pw_below_drewN | apply below_drew1) | exact HB.out)⟩⟩
                          · rw [if_neg c18] at H
                            exact absurd H (by simp)
                        · rw [if_neg c17] at H
                          exact absurd H (by simp)
                      · rw [if_neg c16] at H
                        exact absurd H (by simp)
                    · rw [if_neg c14] at H
                      have c14b0 : decide (x9_3 < x11_6) = false := decide_eq_false c14
                      clear c14
                      have H' := Aside0.mk H
                      clear H
                      go_wp2
                      go_meet
                      case rel => exact ⟨_, (x8_3), (x9_3), (by first | rfl | (simp; done) | (simp [*]; done)), H', ⟨by have := HK1.out; have := HJ6.out; have := HK3.out; first | omega | exact Nat.le_refl _⟩, ⟨by (with_reducible repeat (first | apply Kd.R_alloc | apply Kd.R_drewN | apply Kd.R_drew)); exact HO_7.out⟩, ⟨by (with_reducible repeat (first | apply Kd.R_alloc | apply Kd.R_drewN | apply Kd.R_drew)); exact HO_8.out⟩, ⟨by repeat (first | (with_reducible first | exact HB.out | apply below_alloc | apply pw_below_drewN | apply below_drew1) | exact HB.out)⟩⟩
                  · rw [if_neg c13] at H
                    have c13b0 : decide (0 ≤ x11_6) = false := decide_eq_false c13
                    clear c13
                    (first | rw [c13b0] | (simp only [i64_w, i32_w]; rw [c13b0]) | skip)
                    have H' := Aside0.mk H
                    clear H
                    go_wp2
                    go_meet
                    case rel => exact ⟨_, (x8_3), (x9_3), (by first | rfl | (simp; done) | (simp [*]; done)), H', ⟨by have := HK1.out; have := HJ6.out; have := HK3.out; first | omega | exact Nat.le_refl _⟩, ⟨by (with_reducible repeat (first | apply Kd.R_alloc | apply Kd.R_drewN | apply Kd.R_drew)); exact HO_7.out⟩, ⟨by (with_reducible repeat (first | apply Kd.R_alloc | apply Kd.R_drewN | apply Kd.R_drew)); exact HO_8.out⟩, ⟨by repeat (first | (with_reducible first | exact HB.out | apply below_alloc | apply pw_below_drewN | apply below_drew1) | exact HB.out)⟩⟩
            case rest =>
              clear HC12
              try clear c1
              try clear p1
              try clear q1
              try clear hx1
              try clear p2
              try clear c4
              try clear c6
              try clear c6b0
              try clear p6
              try clear c8
              try clear c8b0
              try clear c9
              try clear c9b0
              try clear c10
              try clear c10b0
              try clear c13
              try clear c13b0
              try clear c14
              try clear c14b0
              try clear c16
              try clear c16b0
              try clear c17
              try clear c17b0
              try clear p17
              try clear q17
              try clear hx17
              try clear c18
              try clear hx172_0
              try clear hx174_0
              try clear p1
              try clear p172
              try clear p174
              try clear p2
              try clear q1
              try clear q172
              try clear q174
              obtain ⟨kq, x8_11, x9_11, rfl, HA, HJ11, HO_7, HO_8, HB⟩ := hcut
              cases kq with
              | zero => exact absurd HA.out (by simp [sennitref19_come.j3])
              | succ kj11 =>
                have H := HA.out
                clear HA
                simp only [sennitref19_come.j3] at H
                by_cases c21 : x10_1 < (l0.length : Int)
                · rw [if_pos c21] at H
                  have c21b0 : decide (x10_1 < (l0.length : Int)) = true := decide_eq_true c21
                  clear c21
                  by_cases c22 : x11_6 ≥ 0
                  · rw [if_pos c22] at H
                    have c22b0 : decide (0 ≤ x11_6) = true := decide_eq_true c22
                    clear c22
                    by_cases c23 : 0 ≤ x10_1
                    · rw [if_pos c23] at H
                      have c23b0 : decide (0 ≤ x10_1) = true := decide_eq_true c23
                      clear c23
                      by_cases c24 : ((rd_T37 l0 x10_1).f0).size + 1 ≤ 9223372036854775807
                      · rw [if_pos c24] at H
                        have c24b0 := eq_true c24
                        have c24b1 : decide (((rd_T37 l0 x10_1).f0).size + 1 ≤ 9223372036854775807) = true := decide_eq_true c24
                        try have c24b2 : (9223372036854775807 < ((rd_T37 l0 x10_1).f0).size + 1) = False := eq_false (Nat.not_lt.2 c24)
                        by_cases c25 : x8_11.length < 4398046511104
                        · rw [if_pos c25] at H
                          have LMc25 := Aside0.mk c25
                          clear c25
                          obtain ⟨y180, hy180⟩ : ∃ y_ : List (S37), y_ = (x8_11 ++ [(⟨((rd_T37 l0 x10_1).f0) ++ (⟨#[45]⟩ : ByteArray), (rd_T37 l0 x10_1).f1⟩ : S37)]) := ⟨_, rfl⟩
                          replace H : (sennitref19_come.l0 kj11 l0 l1 a2 t169 y180 (wrap64 (x9_11 + 1)) (wrap64 (x10_1 + 1))) = some r := by first | (rw [hy180]; with_reducible exact H) | (have H2_ := (Option.bind_some _ _).symm.trans H; rw [hy180]; with_reducible exact H2_) | (have H2_ := (Option.bind_some _ _).symm.trans H; with_reducible exact H2_) | with_reducible exact H | (rw [hy180]; exact H) | exact H
                          have Ny180 := Aside0.mk hy180
                          clear hy180
                          have H' := Aside0.mk H
                          clear H
                          try go_wp2
                          have n0_ := Aside0.mk (Kd.R_drew HO_7.out)
                          have n1_ := Aside0.mk (Kd.R_drew HO_8.out)
                          have n2_ := Aside0.mk (below_drew1 HB.out)
                          clear HO_7
                          clear HO_8
                          clear HB
                          have HO_7 := n0_
                          have HO_8 := n1_
                          have HB := n2_
                          clear n0_ n1_ n2_
                          have p178 : 0 ≤ (x10_1 : Int) := of_decide_eq_true (by first | (with_reducible assumption) | assumption)
                          have q178 : x10_1 < (l0.length : Int) := of_decide_eq_true (by first | (with_reducible assumption) | assumption)
                          obtain ⟨ad178, e178, hx178_0, hx178_1⟩ := at_T37 HR0.out x10_1 p178 q178
                          have hw178_1 := hx178_1
                          have hw178_0 := hx178_0
                          cases e178
                          replace hx178_0 := (HB.out.cell (World.block_lt_of_cell? w _ hx178_0)).trans hx178_0
                          replace hx178_1 := (HB.out.cell (World.block_lt_of_cell? w _ hx178_1)).trans hx178_1
                          replace p178 := eq_true p178
                          replace q178 := eq_true q178
                          have p179 : 0 ≤ (x10_1 : Int) := of_decide_eq_true (by first | (with_reducible assumption) | assumption)
                          have q179 : x10_1 < (l0.length : Int) := of_decide_eq_true (by first | (with_reducible assumption) | assumption)
                          obtain ⟨ad179, e179, hx179_0, hx179_1⟩ := at_T37 HR0.out x10_1 p179 q179
                          have hw179_1 := hx179_1
                          have hw179_0 := hx179_0
                          obtain rfl : ad178 = ad179 := (by injection e179)
                          replace hx179_0 := (HB.out.cell (World.block_lt_of_cell? w _ hx179_0)).trans hx179_0
                          replace hx179_1 := (HB.out.cell (World.block_lt_of_cell? w _ hx179_1)).trans hx179_1
                          replace p179 := eq_true p179
                          replace q179 := eq_true q179
                          refine start_ (n := 17) (S := fun w' => w'.cell? (ad178.add ((x10_1).toNat * 2)) = some (.string ((rd_T37 l0 x10_1).f0)) ∧ w'.cell? ⟨(ad178.add ((x10_1).toNat * 2)).block, (ad178.add ((x10_1).toNat * 2)).off + 1, none⟩ = some (.string ((rd_T37 l0 x10_1).f1)) ∧ w'.cell? (ad178.add ((x10_1).toNat * 2)) = some (.string ((rd_T37 l0 x10_1).f0)) ∧ w'.cell? ⟨(ad178.add ((x10_1).toNat * 2)).block, (ad178.add ((x10_1).toNat * 2)).off + 1, none⟩ = some (.string ((rd_T37 l0 x10_1).f1))) (ds := []) #[false, false, false, false, false, false, false, false, false, false, false, false, false, false, false, false, false] (by kernel_rfl) rfl rfl ⟨((HB.out.cell (World.block_lt_of_cell? w _ hw178_0)).trans hw178_0), ((HB.out.cell (World.block_lt_of_cell? w _ hw178_1)).trans hw178_1), ((HB.out.cell (World.block_lt_of_cell? w _ hw179_0)).trans hw179_0), ((HB.out.cell (World.block_lt_of_cell? w _ hw179_1)).trans hw179_1)⟩ (fun hHeld => ?_); refine with_tabW sennitref19_come.tab18 sennitref19_come.bits18 (fun HT_ HW_ => ?_)
                          generalize wc.drew = w26 at HO_7 HO_8 HB hx178_0 hx178_1 hx179_0 hx179_1 hHeld ⊢
                          refine pure_ (i := 0) (N := some 61) (v := ?_) (a' := ?_) #[true, false, false, false, false, false, false, false, false, false, false, false, false, false, false, false, false] rfl rfl (any_of HT_.out (by kernel_rfl)) (fun _ _ _ h => h) (Or.inl ⟨by rfl, ?_⟩) ?_ ?_
                          rotate_left
                          · intro w'
                            go_simp
                            with_reducible rfl
                          rotate_left
                          · simp only [Act.put, List.setIfInBounds_toArray, List.set_cons_zero, List.set_cons_succ, i64_w, i32_w]
                            rfl
                          refine pure_ (i := 1) (N := some 62) (v := ?_) (a' := ?_) #[true, true, false, false, false, false, false, false, false, false, false, false, false, false, false, false, false] rfl rfl (any_of HT_.out (by kernel_rfl)) (fun _ _ _ h => h) (Or.inl ⟨by rfl, ?_⟩) ?_ ?_
                          rotate_left
                          · intro w'
                            go_simp
                            with_reducible rfl
                          rotate_left
                          · simp only [Act.put, List.setIfInBounds_toArray, List.set_cons_zero, List.set_cons_succ, i64_w, i32_w]
                            rfl
                          refine pure_ (i := 2) (N := some 63) (v := ?_) (a' := ?_) #[true, true, true, false, false, false, false, false, false, false, false, false, false, false, false, false, false] rfl rfl (any_of HT_.out (by kernel_rfl)) (fun _ _ _ h => h) (Or.inl ⟨by rfl, ?_⟩) ?_ ?_
                          rotate_left
                          · intro w'
                            go_simp
                            with_reducible rfl
                          rotate_left
                          · simp only [Act.put, List.setIfInBounds_toArray, List.set_cons_zero, List.set_cons_succ, i64_w, i32_w]
                            rfl
                          refine pure_ (i := 3) (N := some 64) (v := ?_) (a' := ?_) #[true, true, true, true, false, false, false, false, false, false, false, false, false, false, false, false, false] rfl rfl (any_of HT_.out (by kernel_rfl)) (fun _ _ _ h => h) (Or.inl ⟨by rfl, ?_⟩) ?_ ?_
                          rotate_left
                          · intro w'
                            go_simp
                            with_reducible rfl
                          rotate_left
                          · simp only [Act.put, List.setIfInBounds_toArray, List.set_cons_zero, List.set_cons_succ, i64_w, i32_w]
                            rfl
                          refine pure_ (i := 4) (N := some 65) (v := ?_) (a' := ?_) #[true, true, true, true, true, false, false, false, false, false, false, false, false, false, false, false, false] rfl rfl (any_of HT_.out (by kernel_rfl)) (fun _ _ _ h => h) (Or.inl ⟨by rfl, ?_⟩) ?_ ?_
                          rotate_left
                          · intro w'
                            go_simp
                            with_reducible rfl
                          rotate_left
                          · simp only [Act.put, List.setIfInBounds_toArray, List.set_cons_zero, List.set_cons_succ, i64_w, i32_w]
                            rfl
                          refine pure_ (i := 6) (N := some 67) (v := ?_) (a' := ?_) #[true, true, true, true, true, false, true, false, false, false, false, false, false, false, false, false, false] rfl rfl (any_of HT_.out (by kernel_rfl)) (fun _ _ _ h => h) (Or.inl ⟨by rfl, ?_⟩) ?_ ?_
                          rotate_left
                          · intro w'
                            go_simp
                            with_reducible rfl
                          rotate_left
                          · simp only [Act.put, List.setIfInBounds_toArray, List.set_cons_zero, List.set_cons_succ, i64_w, i32_w]
                            rfl
                          refine pure_ (i := 8) (N := some 69) (v := ?_) (a' := ?_) #[true, true, true, true, true, false, true, false, true, false, false, false, false, false, false, false, false] rfl rfl (any_of HT_.out (by kernel_rfl)) (fun _ _ _ h => h) (Or.inl ⟨by rfl, ?_⟩) ?_ ?_
                          rotate_left
                          · intro w'
                            go_simp
                            with_reducible rfl
                          rotate_left
                          · simp only [Act.put, List.setIfInBounds_toArray, List.set_cons_zero, List.set_cons_succ, i64_w, i32_w]
                            rfl
                          refine pure_ (i := 9) (N := some 70) (v := ?_) (a' := ?_) #[true, true, true, true, true, false, true, false, true, true, false, false, false, false, false, false, false] rfl rfl (any_of HT_.out (by kernel_rfl)) (fun _ _ _ h => h) (Or.inl ⟨by rfl, ?_⟩) ?_ ?_
                          rotate_left
                          · intro w'
                            go_simp
                            with_reducible rfl
                          rotate_left
                          · simp only [Act.put, List.setIfInBounds_toArray, List.set_cons_zero, List.set_cons_succ, i64_w, i32_w]
                            rfl
                          refine pure_ (i := 10) (N := some 71) (v := ?_) (a' := ?_) #[true, true, true, true, true, false, true, false, true, true, true, false, false, false, false, false, false] rfl rfl (any_of HT_.out (by kernel_rfl)) (fun _ _ _ h => h) (Or.inl ⟨by rfl, ?_⟩) ?_ ?_
                          rotate_left
                          · intro w'
                            go_simp
                            with_reducible rfl
                          rotate_left
                          · simp only [Act.put, List.setIfInBounds_toArray, List.set_cons_zero, List.set_cons_succ, i64_w, i32_w]
                            rfl
                          refine pure_ (i := 11) (N := some 72) (v := ?_) (a' := ?_) #[true, true, true, true, true, false, true, false, true, true, true, true, false, false, false, false, false] rfl rfl (any_of HT_.out (by kernel_rfl)) (fun _ _ _ h => h) (Or.inl ⟨by rfl, ?_⟩) ?_ ?_
                          rotate_left
                          · intro w'
                            go_simp
                            with_reducible rfl
                          rotate_left
                          · simp only [Act.put, List.setIfInBounds_toArray, List.set_cons_zero, List.set_cons_succ, i64_w, i32_w]
                            rfl
                          refine take_ (i := 5) (N := some 66) (v := ?_) (a' := ?_) #[true, true, true, true, true, true, true, false, true, true, true, true, false, false, false, false, false] rfl rfl (take_ofW HT_.out HW_.out (by kernel_rfl)) (fun _ _ _ h => h) (Or.inl ⟨by rfl, ?_⟩) hHeld ?_ ?_
                          rotate_left
                          · rintro w' ⟨s0, s1, s2, s3⟩
                            go_simp
                            with_reducible rfl
                          rotate_left
                          · simp only [Act.put, List.setIfInBounds_toArray, List.set_cons_zero, List.set_cons_succ, i64_w, i32_w]
                            rfl
                          refine pure_ (i := 7) (N := some 68) (v := ?_) (a' := ?_) #[true, true, true, true, true, true, true, true, true, true, true, true, false, false, false, false, false] rfl rfl (any_of HT_.out (by kernel_rfl)) (fun _ _ _ h => h) (Or.inl ⟨by rfl, ?_⟩) ?_ ?_
                          rotate_left
                          · intro w'
                            go_simp
                            with_reducible rfl
                          rotate_left
                          · simp only [Act.put, List.setIfInBounds_toArray, List.set_cons_zero, List.set_cons_succ, i64_w, i32_w]
                            rfl
                          refine take_ (i := 12) (N := some 73) (v := ?_) (a' := ?_) #[true, true, true, true, true, true, true, true, true, true, true, true, true, false, false, false, false] rfl rfl (take_ofW HT_.out HW_.out (by kernel_rfl)) (fun _ _ _ h => h) (Or.inl ⟨by rfl, ?_⟩) hHeld ?_ ?_
                          rotate_left
                          · rintro w' ⟨s0, s1, s2, s3⟩
                            go_simp
                            with_reducible rfl
                          rotate_left
                          · simp only [Act.put, List.setIfInBounds_toArray, List.set_cons_zero, List.set_cons_succ, i64_w, i32_w]
                            rfl
                          refine pure_ (i := 13) (N := some 74) (v := ?_) (a' := ?_) #[true, true, true, true, true, true, true, true, true, true, true, true, true, true, false, false, false] rfl rfl (any_of HT_.out (by kernel_rfl)) (fun _ _ _ h => h) (Or.inl ⟨by rfl, ?_⟩) ?_ ?_
                          rotate_left
                          · intro w'
                            go_simp
                            with_reducible rfl
                          rotate_left
                          · simp only [Act.put, List.setIfInBounds_toArray, List.set_cons_zero, List.set_cons_succ, i64_w, i32_w]
                            rfl
                          refine one_ (i := 14) (N := some 75) #[true, true, true, true, true, true, true, true, true, true, true, true, true, true, true, false, false] rfl rfl (one_of HT_.out (by kernel_rfl)) (by decide) (fun K hK => ?_)
                          refine value_ (w1 := ?_) (v := ?_) (by rfl) rfl ?_ ?_
                          rotate_left 2
                          · go_simp
                            constructor
                            · rfl
                            · rfl
                          refine hK.out _ _ ⟨(World.cell?_alloc_lt _ _ _ (World.block_lt_of_cell? _ _ (((HB.out.cell (World.block_lt_of_cell? w _ hw178_0)).trans hw178_0)))).trans (((HB.out.cell (World.block_lt_of_cell? w _ hw178_0)).trans hw178_0)), (World.cell?_alloc_lt _ _ _ (World.block_lt_of_cell? _ _ (((HB.out.cell (World.block_lt_of_cell? w _ hw178_1)).trans hw178_1)))).trans (((HB.out.cell (World.block_lt_of_cell? w _ hw178_1)).trans hw178_1)), (World.cell?_alloc_lt _ _ _ (World.block_lt_of_cell? _ _ (((HB.out.cell (World.block_lt_of_cell? w _ hw179_0)).trans hw179_0)))).trans (((HB.out.cell (World.block_lt_of_cell? w _ hw179_0)).trans hw179_0)), (World.cell?_alloc_lt _ _ _ (World.block_lt_of_cell? _ _ (((HB.out.cell (World.block_lt_of_cell? w _ hw179_1)).trans hw179_1)))).trans (((HB.out.cell (World.block_lt_of_cell? w _ hw179_1)).trans hw179_1))⟩ (fun hHeld => ?_)
                          clear hK K
                          refine norm_ (a' := ?_) ?_ ?_
                          rotate_left
                          · show Act.put _ (some 75) _ = _
                            simp only [Act.put, List.setIfInBounds_toArray, List.set_cons_zero, List.set_cons_succ, i64_w, i32_w]
                            rfl
                          refine one_ (i := 15) (N := some 76) #[true, true, true, true, true, true, true, true, true, true, true, true, true, true, true, true, false] rfl rfl (one_of HT_.out (by kernel_rfl)) (by decide) (fun K hK => ?_)
                          refine Kd.R_append_step k37 (w0 := w) w.heap.size (by rfl) (.tmp 61) (.tmp 75) 25 37 (.agg #[(.string ⟨#[]⟩), (.string ⟨#[]⟩)]) 32 rfl Try.underlying25 info37 rfl (by decide) (by omega) u8 x8_11 (⟨((rd_T37 l0 x10_1).f0) ++ (⟨#[45]⟩ : ByteArray), (rd_T37 l0 x10_1).f1⟩ : S37) [.string (((rd_T37 l0 x10_1).f0) ++ (⟨#[45]⟩ : ByteArray)), .string ((rd_T37 l0 x10_1).f1)] (fun _ => True) (fun _ => False) rfl rfl ?aP (fun _ hk => hk.elim) ?aF ?aO ?aB ?aS ?aL ?_
                          (case aP => exact k37_mkM _ _ _ (⟨((rd_T37 l0 x10_1).f0) ++ (⟨#[45]⟩ : ByteArray), (rd_T37 l0 x10_1).f1⟩ : S37))
                          (case aB => exact (by repeat (first | (with_reducible first | exact HB.out | apply below_alloc | apply pw_below_drewN | apply below_drew1) | exact HB.out)))
                          (case aF => exact (fun _ _ => trivial))
                          (case aO => exact (by (with_reducible repeat (first | apply Kd.R_alloc | apply Kd.R_drewN | apply Kd.R_drew)); exact HO_8.out))
                          (case aS => exact (below_size (by repeat (first | (with_reducible first | exact HB.out | apply below_alloc | apply pw_below_drewN | apply below_drew1) | exact HB.out))))
                          (case aL => have := LMc25.out; omega)
                          intro v181 w27 ho hb hg hat
                          rw [← Ny180.out] at ho
                          have n0_ := Aside0.mk (Kd.R_over' (by (with_reducible repeat (first | apply Kd.R_alloc | apply Kd.R_drewN | apply Kd.R_drew)); exact HO_7.out) (Kd.R_typed (by (with_reducible repeat (first | apply Kd.R_alloc | apply Kd.R_drewN | apply Kd.R_drew)); exact HO_8.out)) (by decide) hg)
                          have n1_ := Aside0.mk (hb)
                          have n2_ := Aside0.mk (ho)
                          clear HO_7
                          clear HB
                          clear HO_8
                          have HO_7 := n0_
                          have HB := n1_
                          have HO182 := n2_
                          clear n0_ n1_ n2_
                          clear ho hb hg hat
                          refine hK.out _ _ ⟨((HB.out.cell (World.block_lt_of_cell? w _ hw178_0)).trans hw178_0), ((HB.out.cell (World.block_lt_of_cell? w _ hw178_1)).trans hw178_1), ((HB.out.cell (World.block_lt_of_cell? w _ hw179_0)).trans hw179_0), ((HB.out.cell (World.block_lt_of_cell? w _ hw179_1)).trans hw179_1)⟩ (fun hHeld => ?_)
                          clear hK K
                          refine norm_ (a' := ?_) ?_ ?_
                          rotate_left
                          · show Act.put _ (some 76) _ = _
                            simp only [Act.put, List.setIfInBounds_toArray, List.set_cons_zero, List.set_cons_succ, i64_w, i32_w]
                            rfl
                          refine pure_ (i := 16) (N := some 8) (v := ?_) (a' := ?_) #[true, true, true, true, true, true, true, true, true, true, true, true, true, true, true, true, true] rfl rfl (any_of HT_.out (by kernel_rfl)) (fun _ _ _ h => h) (Or.inl ⟨by rfl, ?_⟩) ?_ ?_
                          rotate_left
                          · intro w'
                            go_simp
                            with_reducible rfl
                          rotate_left
                          · simp only [Act.put, List.setIfInBounds_toArray, List.set_cons_zero, List.set_cons_succ, i64_w, i32_w]
                            rfl
                          refine done_ (done_of HT_.out (by kernel_rfl)) ?_
                          try go_wp2
                          go_roundg kj11
                          case measure => have := HK1.out; have := HJ6.out; have := HJ11.out; omega
                          case rel => exact ⟨(y180), (wrap64 (x9_11 + 1)), (wrap64 (x10_1 + 1)), (by first | rfl | (simp; done) | (simp [*]; done)), (by first | rfl | (simp; done) | (simp [*]; done)), H', ⟨by have := HK1.out; have := HJ6.out; have := HJ11.out; omega⟩, ⟨by (with_reducible repeat (first | apply Kd.R_alloc | apply Kd.R_drewN | apply Kd.R_drew)); exact HO_7.out⟩, ⟨by (with_reducible repeat (first | apply Kd.R_alloc | apply Kd.R_drewN | apply Kd.R_drew)); exact HO182.out⟩, ⟨by repeat (first | (with_reducible first | exact HB.out | apply below_alloc | apply pw_below_drewN | apply below_drew1) | exact HB.out)⟩⟩
                        · rw [if_neg c25] at H
                          exact absurd H (by simp)
                      · rw [if_neg c24] at H
                        exact absurd H (by simp)
                    · rw [if_neg c23] at H
                      exact absurd H (by simp)
                  · rw [if_neg c22] at H
                    have c22b0 : decide (0 ≤ x11_6) = false := decide_eq_false c22
                    clear c22
                    by_cases c28 : 0 ≤ x10_1
                    · rw [if_pos c28] at H
                      have c28b0 : decide (0 ≤ x10_1) = true := decide_eq_true c28
                      clear c28
                      by_cases c29 : ((rd_T37 l0 x10_1).f0).size + 1 ≤ 9223372036854775807
                      · rw [if_pos c29] at H
                        have c29b0 := eq_true c29
                        have c29b1 : decide (((rd_T37 l0 x10_1).f0).size + 1 ≤ 9223372036854775807) = true := decide_eq_true c29
                        try have c29b2 : (9223372036854775807 < ((rd_T37 l0 x10_1).f0).size + 1) = False := eq_false (Nat.not_lt.2 c29)
                        by_cases c30 : x8_11.length < 4398046511104
                        · rw [if_pos c30] at H
                          have LMc30 := Aside0.mk c30
                          clear c30
                          obtain ⟨y185, hy185⟩ : ∃ y_ : List (S37), y_ = (x8_11 ++ [(⟨((rd_T37 l0 x10_1).f0) ++ (⟨#[32]⟩ : ByteArray), (rd_T37 l0 x10_1).f1⟩ : S37)]) := ⟨_, rfl⟩
                          replace H : (sennitref19_come.l0 kj11 l0 l1 a2 t169 y185 x9_11 (wrap64 (x10_1 + 1))) = some r := by first | (rw [hy185]; with_reducible exact H) | (have H2_ := (Option.bind_some _ _).symm.trans H; rw [hy185]; with_reducible exact H2_) | (have H2_ := (Option.bind_some _ _).symm.trans H; with_reducible exact H2_) | with_reducible exact H | (rw [hy185]; exact H) | exact H
                          have Ny185 := Aside0.mk hy185
                          clear hy185
                          have H' := Aside0.mk H
                          clear H
                          try go_wp2
                          have n0_ := Aside0.mk (Kd.R_drew HO_7.out)
                          have n1_ := Aside0.mk (Kd.R_drew HO_8.out)
                          have n2_ := Aside0.mk (below_drew1 HB.out)
                          clear HO_7
                          clear HO_8
                          clear HB
                          have HO_7 := n0_
                          have HO_8 := n1_
                          have HB := n2_
                          clear n0_ n1_ n2_
                          have p183 : 0 ≤ (x10_1 : Int) := of_decide_eq_true (by first | (with_reducible assumption) | assumption)
                          have q183 : x10_1 < (l0.length : Int) := of_decide_eq_true (by first | (with_reducible assumption) | assumption)
                          obtain ⟨ad183, e183, hx183_0, hx183_1⟩ := at_T37 HR0.out x10_1 p183 q183
                          have hw183_1 := hx183_1
                          have hw183_0 := hx183_0
                          cases e183
                          replace hx183_0 := (HB.out.cell (World.block_lt_of_cell? w _ hx183_0)).trans hx183_0
                          replace hx183_1 := (HB.out.cell (World.block_lt_of_cell? w _ hx183_1)).trans hx183_1
                          replace p183 := eq_true p183
                          replace q183 := eq_true q183
                          have p184 : 0 ≤ (x10_1 : Int) := of_decide_eq_true (by first | (with_reducible assumption) | assumption)
                          have q184 : x10_1 < (l0.length : Int) := of_decide_eq_true (by first | (with_reducible assumption) | assumption)
                          obtain ⟨ad184, e184, hx184_0, hx184_1⟩ := at_T37 HR0.out x10_1 p184 q184
                          have hw184_1 := hx184_1
                          have hw184_0 := hx184_0
                          obtain rfl : ad183 = ad184 := (by injection e184)
                          replace hx184_0 := (HB.out.cell (World.block_lt_of_cell? w _ hx184_0)).trans hx184_0
                          replace hx184_1 := (HB.out.cell (World.block_lt_of_cell? w _ hx184_1)).trans hx184_1
                          replace p184 := eq_true p184
                          replace q184 := eq_true q184
                          refine start_ (n := 17) (S := fun w' => w'.cell? (ad183.add ((x10_1).toNat * 2)) = some (.string ((rd_T37 l0 x10_1).f0)) ∧ w'.cell? ⟨(ad183.add ((x10_1).toNat * 2)).block, (ad183.add ((x10_1).toNat * 2)).off + 1, none⟩ = some (.string ((rd_T37 l0 x10_1).f1)) ∧ w'.cell? (ad183.add ((x10_1).toNat * 2)) = some (.string ((rd_T37 l0 x10_1).f0)) ∧ w'.cell? ⟨(ad183.add ((x10_1).toNat * 2)).block, (ad183.add ((x10_1).toNat * 2)).off + 1, none⟩ = some (.string ((rd_T37 l0 x10_1).f1))) (ds := []) #[false, false, false, false, false, false, false, false, false, false, false, false, false, false, false, false, false] (by kernel_rfl) rfl rfl ⟨((HB.out.cell (World.block_lt_of_cell? w _ hw183_0)).trans hw183_0), ((HB.out.cell (World.block_lt_of_cell? w _ hw183_1)).trans hw183_1), ((HB.out.cell (World.block_lt_of_cell? w _ hw184_0)).trans hw184_0), ((HB.out.cell (World.block_lt_of_cell? w _ hw184_1)).trans hw184_1)⟩ (fun hHeld => ?_); refine with_tabW sennitref19_come.tab18 sennitref19_come.bits18 (fun HT_ HW_ => ?_)
                          generalize wc.drew = w31 at HO_7 HO_8 HB hx183_0 hx183_1 hx184_0 hx184_1 hHeld ⊢
                          refine pure_ (i := 0) (N := some 61) (v := ?_) (a' := ?_) #[true, false, false, false, false, false, false, false, false, false, false, false, false, false, false, false, false] rfl rfl (any_of HT_.out (by kernel_rfl)) (fun _ _ _ h => h) (Or.inl ⟨by rfl, ?_⟩) ?_ ?_
                          rotate_left
                          · intro w'
                            go_simp
                            with_reducible rfl
                          rotate_left
                          · simp only [Act.put, List.setIfInBounds_toArray, List.set_cons_zero, List.set_cons_succ, i64_w, i32_w]
                            rfl
                          refine pure_ (i := 1) (N := some 62) (v := ?_) (a' := ?_) #[true, true, false, false, false, false, false, false, false, false, false, false, false, false, false, false, false] rfl rfl (any_of HT_.out (by kernel_rfl)) (fun _ _ _ h => h) (Or.inl ⟨by rfl, ?_⟩) ?_ ?_
                          rotate_left
                          · intro w'
                            go_simp
                            with_reducible rfl
                          rotate_left
                          · simp only [Act.put, List.setIfInBounds_toArray, List.set_cons_zero, List.set_cons_succ, i64_w, i32_w]
                            rfl
                          refine pure_ (i := 2) (N := some 63) (v := ?_) (a' := ?_) #[true, true, true, false, false, false, false, false, false, false, false, false, false, false, false, false, false] rfl rfl (any_of HT_.out (by kernel_rfl)) (fun _ _ _ h => h) (Or.inl ⟨by rfl, ?_⟩) ?_ ?_
                          rotate_left
                          · intro w'
                            go_simp
                            with_reducible rfl
                          rotate_left
                          · simp only [Act.put, List.setIfInBounds_toArray, List.set_cons_zero, List.set_cons_succ, i64_w, i32_w]
                            rfl
                          refine pure_ (i := 3) (N := some 64) (v := ?_) (a' := ?_) #[true, true, true, true, false, false, false, false, false, false, false, false, false, false, false, false, false] rfl rfl (any_of HT_.out (by kernel_rfl)) (fun _ _ _ h => h) (Or.inl ⟨by rfl, ?_⟩) ?_ ?_
                          rotate_left
                          · intro w'
                            go_simp
                            with_reducible rfl
                          rotate_left
                          · simp only [Act.put, List.setIfInBounds_toArray, List.set_cons_zero, List.set_cons_succ, i64_w, i32_w]
                            rfl
                          refine pure_ (i := 4) (N := some 65) (v := ?_) (a' := ?_) #[true, true, true, true, true, false, false, false, false, false, false, false, false, false, false, false, false] rfl rfl (any_of HT_.out (by kernel_rfl)) (fun _ _ _ h => h) (Or.inl ⟨by rfl, ?_⟩) ?_ ?_
                          rotate_left
                          · intro w'
                            go_simp
                            with_reducible rfl
                          rotate_left
                          · simp only [Act.put, List.setIfInBounds_toArray, List.set_cons_zero, List.set_cons_succ, i64_w, i32_w]
                            rfl
                          refine pure_ (i := 6) (N := some 67) (v := ?_) (a' := ?_) #[true, true, true, true, true, false, true, false, false, false, false, false, false, false, false, false, false] rfl rfl (any_of HT_.out (by kernel_rfl)) (fun _ _ _ h => h) (Or.inl ⟨by rfl, ?_⟩) ?_ ?_
                          rotate_left
                          · intro w'
                            go_simp
                            with_reducible rfl
                          rotate_left
                          · simp only [Act.put, List.setIfInBounds_toArray, List.set_cons_zero, List.set_cons_succ, i64_w, i32_w]
                            rfl
                          refine pure_ (i := 8) (N := some 69) (v := ?_) (a' := ?_) #[true, true, true, true, true, false, true, false, true, false, false, false, false, false, false, false, false] rfl rfl (any_of HT_.out (by kernel_rfl)) (fun _ _ _ h => h) (Or.inl ⟨by rfl, ?_⟩) ?_ ?_
                          rotate_left
                          · intro w'
                            go_simp
                            with_reducible rfl
                          rotate_left
                          · simp only [Act.put, List.setIfInBounds_toArray, List.set_cons_zero, List.set_cons_succ, i64_w, i32_w]
                            rfl
                          refine pure_ (i := 9) (N := some 70) (v := ?_) (a' := ?_) #[true, true, true, true, true, false, true, false, true, true, false, false, false, false, false, false, false] rfl rfl (any_of HT_.out (by kernel_rfl)) (fun _ _ _ h => h) (Or.inl ⟨by rfl, ?_⟩) ?_ ?_
                          rotate_left
                          · intro w'
                            go_simp
                            with_reducible rfl
                          rotate_left
                          · simp only [Act.put, List.setIfInBounds_toArray, List.set_cons_zero, List.set_cons_succ, i64_w, i32_w]
                            rfl
                          refine pure_ (i := 10) (N := some 71) (v := ?_) (a' := ?_) #[true, true, true, true, true, false, true, false, true, true, true, false, false, false, false, false, false] rfl rfl (any_of HT_.out (by kernel_rfl)) (fun _ _ _ h => h) (Or.inl ⟨by rfl, ?_⟩) ?_ ?_
                          rotate_left
                          · intro w'
                            go_simp
                            with_reducible rfl
                          rotate_left
                          · simp only [Act.put, List.setIfInBounds_toArray, List.set_cons_zero, List.set_cons_succ, i64_w, i32_w]
                            rfl
                          refine pure_ (i := 11) (N := some 72) (v := ?_) (a' := ?_) #[true, true, true, true, true, false, true, false, true, true, true, true, false, false, false, false, false] rfl rfl (any_of HT_.out (by kernel_rfl)) (fun _ _ _ h => h) (Or.inl ⟨by rfl, ?_⟩) ?_ ?_
                          rotate_left
                          · intro w'
                            go_simp
                            with_reducible rfl
                          rotate_left
                          · simp only [Act.put, List.setIfInBounds_toArray, List.set_cons_zero, List.set_cons_succ, i64_w, i32_w]
                            rfl
                          refine take_ (i := 5) (N := some 66) (v := ?_) (a' := ?_) #[true, true, true, true, true, true, true, false, true, true, true, true, false, false, false, false, false] rfl rfl (take_ofW HT_.out HW_.out (by kernel_rfl)) (fun _ _ _ h => h) (Or.inl ⟨by rfl, ?_⟩) hHeld ?_ ?_
                          rotate_left
                          · rintro w' ⟨s0, s1, s2, s3⟩
                            go_simp
                            with_reducible rfl
                          rotate_left
                          · simp only [Act.put, List.setIfInBounds_toArray, List.set_cons_zero, List.set_cons_succ, i64_w, i32_w]
                            rfl
                          refine pure_ (i := 7) (N := some 68) (v := ?_) (a' := ?_) #[true, true, true, true, true, true, true, true, true, true, true, true, false, false, false, false, false] rfl rfl (any_of HT_.out (by kernel_rfl)) (fun _ _ _ h => h) (Or.inl ⟨by rfl, ?_⟩) ?_ ?_
                          rotate_left
                          · intro w'
                            go_simp
                            with_reducible rfl
                          rotate_left
                          · simp only [Act.put, List.setIfInBounds_toArray, List.set_cons_zero, List.set_cons_succ, i64_w, i32_w]
                            rfl
                          refine take_ (i := 12) (N := some 73) (v := ?_) (a' := ?_) #[true, true, true, true, true, true, true, true, true, true, true, true, true, false, false, false, false] rfl rfl (take_ofW HT_.out HW_.out (by kernel_rfl)) (fun _ _ _ h => h) (Or.inl ⟨by rfl, ?_⟩) hHeld ?_ ?_
                          rotate_left
                          · rintro w' ⟨s0, s1, s2, s3⟩
                            go_simp
                            with_reducible rfl
                          rotate_left
                          · simp only [Act.put, List.setIfInBounds_toArray, List.set_cons_zero, List.set_cons_succ, i64_w, i32_w]
                            rfl
                          refine pure_ (i := 13) (N := some 74) (v := ?_) (a' := ?_) #[true, true, true, true, true, true, true, true, true, true, true, true, true, true, false, false, false] rfl rfl (any_of HT_.out (by kernel_rfl)) (fun _ _ _ h => h) (Or.inl ⟨by rfl, ?_⟩) ?_ ?_
                          rotate_left
                          · intro w'
                            go_simp
                            with_reducible rfl
                          rotate_left
                          · simp only [Act.put, List.setIfInBounds_toArray, List.set_cons_zero, List.set_cons_succ, i64_w, i32_w]
                            rfl
                          refine one_ (i := 14) (N := some 75) #[true, true, true, true, true, true, true, true, true, true, true, true, true, true, true, false, false] rfl rfl (one_of HT_.out (by kernel_rfl)) (by decide) (fun K hK => ?_)
                          refine value_ (w1 := ?_) (v := ?_) (by rfl) rfl ?_ ?_
                          rotate_left 2
                          · go_simp
                            constructor
                            · rfl
                            · rfl
                          refine hK.out _ _ ⟨(World.cell?_alloc_lt _ _ _ (World.block_lt_of_cell? _ _ (((HB.out.cell (World.block_lt_of_cell? w _ hw183_0)).trans hw183_0)))).trans (((HB.out.cell (World.block_lt_of_cell? w _ hw183_0)).trans hw183_0)), (World.cell?_alloc_lt _ _ _ (World.block_lt_of_cell? _ _ (((HB.out.cell (World.block_lt_of_cell? w _ hw183_1)).trans hw183_1)))).trans (((HB.out.cell (World.block_lt_of_cell? w _ hw183_1)).trans hw183_1)), (World.cell?_alloc_lt _ _ _ (World.block_lt_of_cell? _ _ (((HB.out.cell (World.block_lt_of_cell? w _ hw184_0)).trans hw184_0)))).trans (((HB.out.cell (World.block_lt_of_cell? w _ hw184_0)).trans hw184_0)), (World.cell?_alloc_lt _ _ _ (World.block_lt_of_cell? _ _ (((HB.out.cell (World.block_lt_of_cell? w _ hw184_1)).trans hw184_1)))).trans (((HB.out.cell (World.block_lt_of_cell? w _ hw184_1)).trans hw184_1))⟩ (fun hHeld => ?_)
                          clear hK K
                          refine norm_ (a' := ?_) ?_ ?_
                          rotate_left
                          · show Act.put _ (some 75) _ = _
                            simp only [Act.put, List.setIfInBounds_toArray, List.set_cons_zero, List.set_cons_succ, i64_w, i32_w]
                            rfl
                          refine one_ (i := 15) (N := some 76) #[true, true, true, true, true, true, true, true, true, true, true, true, true, true, true, true, false] rfl rfl (one_of HT_.out (by kernel_rfl)) (by decide) (fun K hK => ?_)
                          refine Kd.R_append_step k37 (w0 := w) w.heap.size (by rfl) (.tmp 61) (.tmp 75) 25 37 (.agg #[(.string ⟨#[]⟩), (.string ⟨#[]⟩)]) 32 rfl Try.underlying25 info37 rfl (by decide) (by omega) u8 x8_11 (⟨((rd_T37 l0 x10_1).f0) ++ (⟨#[32]⟩ : ByteArray), (rd_T37 l0 x10_1).f1⟩ : S37) [.string (((rd_T37 l0 x10_1).f0) ++ (⟨#[32]⟩ : ByteArray)), .string ((rd_T37 l0 x10_1).f1)] (fun _ => True) (fun _ => False) rfl rfl ?aP (fun _ hk => hk.elim) ?aF ?aO ?aB ?aS ?aL ?_
                          (case aP => exact k37_mkM _ _ _ (⟨((rd_T37 l0 x10_1).f0) ++ (⟨#[32]⟩ : ByteArray), (rd_T37 l0 x10_1).f1⟩ : S37))
                          (case aB => exact (by repeat (first | (with_reducible first | exact HB.out | apply below_alloc | apply pw_below_drewN | apply below_drew1) | exact HB.out)))
                          (case aF => exact (fun _ _ => trivial))
                          (case aO => exact (by (with_reducible repeat (first | apply Kd.R_alloc | apply Kd.R_drewN | apply Kd.R_drew)); exact HO_8.out))
                          (case aS => exact (below_size (by repeat (first | (with_reducible first | exact HB.out | apply below_alloc | apply pw_below_drewN | apply below_drew1) | exact HB.out))))
                          (case aL => have := LMc30.out; omega)
                          intro v186 w32 ho hb hg hat
                          rw [← Ny185.out] at ho
                          have n0_ := Aside0.mk (Kd.R_over' (by (with_reducible repeat (first | apply Kd.R_alloc | apply Kd.R_drewN | apply Kd.R_drew)); exact HO_7.out) (Kd.R_typed (by (with_reducible repeat (first | apply Kd.R_alloc | apply Kd.R_drewN | apply Kd.R_drew)); exact HO_8.out)) (by decide) hg)
                          have n1_ := Aside0.mk (hb)
                          have n2_ := Aside0.mk (ho)
                          clear HO_7
                          clear HB
                          clear HO_8
                          have HO_7 := n0_
                          have HB := n1_
                          have HO187 := n2_
                          clear n0_ n1_ n2_
                          clear ho hb hg hat
                          refine hK.out _ _ ⟨((HB.out.cell (World.block_lt_of_cell? w _ hw183_0)).trans hw183_0), ((HB.out.cell (World.block_lt_of_cell? w _ hw183_1)).trans hw183_1), ((HB.out.cell (World.block_lt_of_cell? w _ hw184_0)).trans hw184_0), ((HB.out.cell (World.block_lt_of_cell? w _ hw184_1)).trans hw184_1)⟩ (fun hHeld => ?_)
                          clear hK K
                          refine norm_ (a' := ?_) ?_ ?_
                          rotate_left
                          · show Act.put _ (some 76) _ = _
                            simp only [Act.put, List.setIfInBounds_toArray, List.set_cons_zero, List.set_cons_succ, i64_w, i32_w]
                            rfl
                          refine pure_ (i := 16) (N := some 8) (v := ?_) (a' := ?_) #[true, true, true, true, true, true, true, true, true, true, true, true, true, true, true, true, true] rfl rfl (any_of HT_.out (by kernel_rfl)) (fun _ _ _ h => h) (Or.inl ⟨by rfl, ?_⟩) ?_ ?_
                          rotate_left
                          · intro w'
                            go_simp
                            with_reducible rfl
                          rotate_left
                          · simp only [Act.put, List.setIfInBounds_toArray, List.set_cons_zero, List.set_cons_succ, i64_w, i32_w]
                            rfl
                          refine done_ (done_of HT_.out (by kernel_rfl)) ?_
                          try go_wp2
                          go_roundg kj11
                          case measure => have := HK1.out; have := HJ6.out; have := HJ11.out; omega
                          case rel => exact ⟨(y185), (x9_11), (wrap64 (x10_1 + 1)), (by first | rfl | (simp; done) | (simp [*]; done)), (by first | rfl | (simp; done) | (simp [*]; done)), H', ⟨by have := HK1.out; have := HJ6.out; have := HJ11.out; omega⟩, ⟨by (with_reducible repeat (first | apply Kd.R_alloc | apply Kd.R_drewN | apply Kd.R_drew)); exact HO_7.out⟩, ⟨by (with_reducible repeat (first | apply Kd.R_alloc | apply Kd.R_drewN | apply Kd.R_drew)); exact HO187.out⟩, ⟨by repeat (first | (with_reducible first | exact HB.out | apply below_alloc | apply pw_below_drewN | apply below_drew1) | exact HB.out)⟩⟩
                        · rw [if_neg c30] at H
                          exact absurd H (by simp)
                      · rw [if_neg c29] at H
                        exact absurd H (by simp)
                    · rw [if_neg c28] at H
                      exact absurd H (by simp)
                · rw [if_neg c21] at H
                  have c21b0 : decide (x10_1 < (l0.length : Int)) = false := decide_eq_false c21
                  clear c21
                  have H' := Aside0.mk H
                  clear H
                  go_wp2
                  go_roundg kj11
                  case measure => have := HK1.out; have := HJ6.out; have := HJ11.out; omega
                  case rel => exact ⟨(x8_11), (x9_11), (wrap64 (x10_1 + 1)), (by first | rfl | (simp; done) | (simp [*]; done)), (by first | rfl | (simp; done) | (simp [*]; done)), H', ⟨by have := HK1.out; have := HJ6.out; have := HJ11.out; omega⟩, ⟨by (with_reducible repeat (first | apply Kd.R_alloc | apply Kd.R_drewN | apply Kd.R_drew)); exact HO_7.out⟩, ⟨by (with_reducible repeat (first | apply Kd.R_alloc | apply Kd.R_drewN | apply Kd.R_drew)); exact HO_8.out⟩, ⟨by repeat (first | (with_reducible first | exact HB.out | apply below_alloc | apply pw_below_drewN | apply below_drew1) | exact HB.out)⟩⟩
      · rw [if_neg c6] at H
        have c6b0 : decide (x10_1 ≤ (l0.length : Int)) = false := decide_eq_false c6
        clear c6
        obtain rfl := Option.some.inj H
        go_wp2
        go_ret
        exact ⟨_, by first | rfl | (simp [errW_none, errW_some] <;> rfl) | (simp [*, errW_none, errW_some] <;> rfl), by (with_reducible repeat (first | apply Kd.R_alloc | apply Kd.R_drewN | apply Kd.R_drew)); exact HO_8.out, by repeat (first | (with_reducible first | exact HB.out | apply below_alloc | apply pw_below_drewN | apply below_drew1) | exact HB.out)⟩

end Go.Proofs.Ytnlekganlliikaa.X
-- part XRn4
namespace Go.Proofs.Ytnlekganlliikaa.X
open Go.RowKit Go.Proofs.YtnlekganlliikaaW.PrintWords Go.Proofs.YtnlekganlliikaaW.PrintLast Go.Proofs.YtnlekganlliikaaW.PrintMore
attribute [local go_sem] max2_int min2_int max_two min_two max_three min_three max_four min_four   -- for this text's walks alone
set_option linter.unusedVariables false
set_option linter.unusedSimpArgs false
attribute [local go_sem high] eqA37
def sennitref19_Coalesce.l0 : Nat → List (List ByteArray) → List (S37) → Int → Option ((List (S37)) × Int)
  | 0, _, _, _ => none
  | k + 1, x0, x4, x5 => if x5 < (x0.length : Int) then (if (x4.length : Int) > 2000 then (some (([] : List (S37)), 4)) else (if 0 ≤ x5 then (if ((rd_L1 x0 x5).length : Int) > 2000 then (some (([] : List (S37)), 4)) else ((sennitref19_come.f k x4 (rd_L1 x0 x5) x5).bind fun t190 => (sennitref19_Coalesce.l0 k x0 t190 (wrap64 (x5 + 1))))) else (none))) else (some (x4, 0))
def sennitref19_Coalesce.f (k : Nat) (l0 : List (List ByteArray)) : Option ((List (S37)) × Int) := if (l0.length : Int) > 16 then (some (([] : List (S37)), 1)) else (sennitref19_Coalesce.l0 k l0 ([] : List (S37)) 0)
set_option maxHeartbeats 8000000 in
set_option maxRecDepth 100000 in
theorem sennitref19_Coalesce.calls (k : Nat) (A0 : Option Addr) (c0 : Nat) (l0 : List (List ByteArray)) (r1 : List (S37)) (r2 : Int) (w : World) (hr0 : Kd.C (Kd.slice 9 Kd.string) w A0 l0.length l0) (hc0 : l0.length ≤ c0) (h : sennitref19_Coalesce.f k l0 = some (r1, r2)) :
    Calls Try.prog 18 #[.slice A0 l0.length c0] w fun e w' => ∃ v0_ : Value, e = .returned (.tuple #[v0_, .int .i64 r2]) ∧ Kd.R k37 37 w' w.heap.size (fun _ => True) v0_ r1 ∧ Below w.heap.size w w' := by
  have HR0 := Aside0.mk hr0
  have HC0 := Aside0.mk hc0
  clear hr0 hc0
  have HB := Aside0.mk (Below.refl w.heap.size w)
  have H : (if (l0.length : Int) > 16 then (some (([] : List (S37)), 1)) else (sennitref19_Coalesce.l0 k l0 ([] : List (S37)) 0)) = some (r1, r2) := h
  clear h
  by_cases c2 : (l0.length : Int) > 16
  · rw [if_pos c2] at H
    have c2b0 : decide (16 < (l0.length : Int)) = true := decide_eq_true c2
    have c2b1 : decide (16 < l0.length) = true := decide_eq_true (by omega)
    clear c2
    simp only [Option.some.injEq, Prod.mk.injEq] at H
    obtain ⟨rfl, rfl⟩ := H
    go_enter Try.func18, Try.ntmps18
    go_wp2
    go_ret2
    exact ⟨_, by first | rfl | (simp [errW_none, errW_some] <;> rfl) | (simp [*, errW_none, errW_some] <;> rfl), by first | exact Kd.R_nil _ _ _ _ _ | exact Kd.N_nil _ _ _ _ _ | exact Kd.V_nil _ _ _ _ _ | exact Kd.Q_nil _ _ _ _ _ | exact Kd.S_nil _ _ _ _ _, by repeat (first | (with_reducible first | exact HB.out | apply below_alloc | apply pw_below_drewN | apply below_drew1) | exact HB.out)⟩
  · rw [if_neg c2] at H
    have c2b0 : decide (16 < (l0.length : Int)) = false := decide_eq_false c2
    have c2b1 : decide (16 < l0.length) = false := decide_eq_false (by omega)
    clear c2
    have H' := Aside0.mk H
    clear H
    go_enter Try.func18, Try.ntmps18
    go_wp2
    go_loopg [4, 5] k (fun kq v4 v5 w' => ∃ (x4_1 : List (S37)) (x5_1 : Int), v5 = .int .i64 x5_1 ∧ Aside0 (sennitref19_Coalesce.l0 kq l0 x4_1 x5_1 = some (r1, r2)) ∧ Aside0 (kq ≤ k) ∧ Aside0 (Kd.R k37 37 w' w.heap.size (fun _ => True) v4 x4_1) ∧ Aside0 (Below w.heap.size w w'))
    case atStart => exact ⟨(([] : List (S37))), (0), (by first | rfl | (simp; done) | (simp [*]; done)), H', ⟨Nat.le_refl _⟩, ⟨by first | exact Kd.R_nil _ _ _ _ _ | exact Kd.N_nil _ _ _ _ _ | exact Kd.V_nil _ _ _ _ _ | exact Kd.Q_nil _ _ _ _ _ | exact Kd.S_nil _ _ _ _ _⟩, ⟨by repeat (first | (with_reducible first | exact HB.out | apply below_alloc | apply pw_below_drewN | apply below_drew1) | exact HB.out)⟩⟩
    case round =>
      clear H'
      try clear c1
      try clear c2
      try clear c2b0
      try clear c2b1
      try clear p2
      obtain ⟨x4_1, x5_1, rfl, HA, HK1, HO_4, HB⟩ := hrel
      cases gk with
      | zero => exact absurd HA.out (by simp [sennitref19_Coalesce.l0])
      | succ k1 =>
        have H := HA.out
        clear HA
        simp only [sennitref19_Coalesce.l0] at H
        by_cases c3 : x5_1 < (l0.length : Int)
        · rw [if_pos c3] at H
          have c3b0 : decide (x5_1 < (l0.length : Int)) = true := decide_eq_true c3
          clear c3
          by_cases c4 : (x4_1.length : Int) > 2000
          · rw [if_pos c4] at H
            have c4b0 : decide (2000 < (x4_1.length : Int)) = true := decide_eq_true c4
            have c4b1 : decide (2000 < x4_1.length) = true := decide_eq_true (by omega)
            clear c4
            simp only [Option.some.injEq, Prod.mk.injEq] at H
            obtain ⟨rfl, rfl⟩ := H
            obtain ⟨Ao5, co5, eo5⟩ := Kd.R_slice HO_4.out
            subst eo5
            go_wp2
            go_ret2
            exact ⟨_, by first | rfl | (simp [errW_none, errW_some] <;> rfl) | (simp [*, errW_none, errW_some] <;> rfl), by first | exact Kd.R_nil _ _ _ _ _ | exact Kd.N_nil _ _ _ _ _ | exact Kd.V_nil _ _ _ _ _ | exact Kd.Q_nil _ _ _ _ _ | exact Kd.S_nil _ _ _ _ _, by repeat (first | (with_reducible first | exact HB.out | apply below_alloc | apply pw_below_drewN | apply below_drew1) | exact HB.out)⟩
          · rw [if_neg c4] at H
            have c4b0 : decide (2000 < (x4_1.length : Int)) = false := decide_eq_false c4
            have c4b1 : decide (2000 < x4_1.length) = false := decide_eq_false (by omega)
            clear c4
            by_cases c6 : 0 ≤ x5_1
            · rw [if_pos c6] at H
              have c6b0 : decide (0 ≤ x5_1) = true := decide_eq_true c6
              clear c6
              by_cases c7 : ((rd_L1 l0 x5_1).length : Int) > 2000
              · rw [if_pos c7] at H
                have c7b0 : decide (2000 < ((rd_L1 l0 x5_1).length : Int)) = true := decide_eq_true c7
                have c7b1 : decide (2000 < (rd_L1 l0 x5_1).length) = true := decide_eq_true (by omega)
                clear c7
                simp only [Option.some.injEq, Prod.mk.injEq] at H
                obtain ⟨rfl, rfl⟩ := H
                obtain ⟨Ao8, co8, eo8⟩ := Kd.R_slice HO_4.out
                subst eo8
                have p188 : 0 ≤ (x5_1 : Int) := of_decide_eq_true (by first | (with_reducible assumption) | assumption)
                have q188 : x5_1 < (l0.length : Int) := of_decide_eq_true (by first | (with_reducible assumption) | assumption)
                obtain ⟨ad188, A188_0, c188_0, e188, hx188_0, hl188_0, hi188_0⟩ := at_L1 HR0.out x5_1 p188 q188
                cases e188
                replace hx188_0 := (HB.out.cell (World.block_lt_of_cell? w _ hx188_0)).trans hx188_0
                have HR188_0 := Aside0.mk hi188_0
                have HC188_0 := Aside0.mk hl188_0
                clear hi188_0 hl188_0
                replace p188 := eq_true p188
                replace q188 := eq_true q188
                go_wp2
                go_ret2
                exact ⟨_, by first | rfl | (simp [errW_none, errW_some] <;> rfl) | (simp [*, errW_none, errW_some] <;> rfl), by first | exact Kd.R_nil _ _ _ _ _ | exact Kd.N_nil _ _ _ _ _ | exact Kd.V_nil _ _ _ _ _ | exact Kd.Q_nil _ _ _ _ _ | exact Kd.S_nil _ _ _ _ _, by repeat (first | (with_reducible first | exact HB.out | apply below_alloc | apply pw_below_drewN | apply below_drew1) | exact HB.out)⟩
              · rw [if_neg c7] at H
                have c7b0 : decide (2000 < ((rd_L1 l0 x5_1).length : Int)) = false := decide_eq_false c7
                have c7b1 : decide (2000 < (rd_L1 l0 x5_1).length) = false := decide_eq_false (by omega)
                clear c7
                replace H := Option.bind_eq_some_iff.mp H
                obtain ⟨t190, A90, H⟩ := H
                replace H : (sennitref19_Coalesce.l0 k1 l0 t190 (wrap64 (x5_1 + 1))) = some (r1, r2) := H
                have A9 := Aside0.mk A90
                clear A90
                have H' := Aside0.mk H
                clear H
                obtain ⟨Ao10, co10, eo10⟩ := Kd.R_slice HO_4.out
                subst eo10
                have p188 : 0 ≤ (x5_1 : Int) := of_decide_eq_true (by first | (with_reducible assumption) | assumption)
                have q188 : x5_1 < (l0.length : Int) := of_decide_eq_true (by first | (with_reducible assumption) | assumption)
                obtain ⟨ad188, A188_0, c188_0, e188, hx188_0, hl188_0, hi188_0⟩ := at_L1 HR0.out x5_1 p188 q188
                cases e188
                replace hx188_0 := (HB.out.cell (World.block_lt_of_cell? w _ hx188_0)).trans hx188_0
                have HR188_0 := Aside0.mk hi188_0
                have HC188_0 := Aside0.mk hl188_0
                clear hi188_0 hl188_0
                replace p188 := eq_true p188
                replace q188 := eq_true q188
                have p189 : 0 ≤ (x5_1 : Int) := of_decide_eq_true (by first | (with_reducible assumption) | assumption)
                have q189 : x5_1 < (l0.length : Int) := of_decide_eq_true (by first | (with_reducible assumption) | assumption)
                obtain ⟨ad189, A189_0, c189_0, e189, hx189_0, hl189_0, hi189_0⟩ := at_L1 HR0.out x5_1 p189 q189
                obtain rfl : ad188 = ad189 := (by injection e189)
                replace hx189_0 := (HB.out.cell (World.block_lt_of_cell? w _ hx189_0)).trans hx189_0
                have HR189_0 := Aside0.mk hi189_0
                have HC189_0 := Aside0.mk hl189_0
                clear hi189_0 hl189_0
                replace p189 := eq_true p189
                replace q189 := eq_true q189
                have ea_ := Option.some.inj (hx188_0.symm.trans hx189_0)
                injection ea_ with ea_ en_ ec_
                subst ea_
                subst ec_
                clear en_
                go_wp2_with (first | ((with_reducible refine gate_callee (f := 42) rfl ?_); refine goesL_ (some 32) rfl rfl Try.func42 (by kernel_rfl) rfl #[.slice Ao10 x4_1.length co10, .slice A188_0 (rd_L1 l0 x5_1).length c188_0, .int .i64 x5_1] rfl (by (try simp only [List.map_toArray, List.map_cons, List.map_nil]); first | done | rfl | (simp only [List.length_drop, List.length_take]; rfl)) ?_; (with_reducible refine (sennitref19_come.calls k1 _ _ x4_1 _ _ (rd_L1 l0 x5_1) x5_1 t190 _ ?side1 ?side2 ?side3 ?side4 A9.out).mono ?_); (case side1 => repeat (first | exact (Kd.R_reads' HO_4.out).2.2 | (with_reducible refine Kd.C_alloc ?_ _) | (with_reducible refine Kd.C_drewN ?_ _) | (with_reducible refine Kd.C_drew ?_))); (case side2 => exact (Kd.R_reads' HO_4.out).2.1); (case side3 => repeat (first | exact (Kd.C_below HR189_0.out HB.out) | (with_reducible refine Kd.C_alloc ?_ _) | (with_reducible refine Kd.C_drewN ?_ _) | (with_reducible refine Kd.C_drew ?_))); (case side4 => exact HC189_0.out); rintro e w11 ⟨v191, rfl, ho0, hb⟩; refine ⟨_, rfl, ?_⟩; have n0_ := Aside0.mk (Kd.R_elder' (by (with_reducible repeat (first | apply Kd.R_alloc | apply Kd.R_drewN | apply Kd.R_drew)); exact HO_4.out) (Kd.R_base ho0) hb); have n1_ := Aside0.mk (Kd.R_lower (Kd.R_new' ho0 (Kd.R_lt (by (with_reducible repeat (first | apply Kd.R_alloc | apply Kd.R_drewN | apply Kd.R_drew)); exact HO_4.out))) (below_size (by repeat (first | (with_reducible first | exact HB.out | apply below_alloc | apply pw_below_drewN | apply below_drew1) | exact HB.out)))); have n2_ := Aside0.mk (below_step (by repeat (first | (with_reducible first | exact HB.out | apply below_alloc | apply pw_below_drewN | apply below_drew1) | exact HB.out)) hb); clear HO_4; clear HB; have HO_4 := n0_; have HO192 := n1_; have HB := n2_; clear n0_ n1_ n2_; (try clear hb); (try clear hb2); (try clear hk); (try clear hi); (try clear ho0)))
                go_roundg k1
                case measure => have := HK1.out; omega
                case rel => exact ⟨(t190), (wrap64 (x5_1 + 1)), (by first | rfl | (simp; done) | (simp [*]; done)), H', ⟨by have := HK1.out; omega⟩, ⟨by (with_reducible repeat (first | apply Kd.R_alloc | apply Kd.R_drewN | apply Kd.R_drew)); exact Kd.R_mono HO192.out (fun _ hk => trivial)⟩, ⟨by repeat (first | (with_reducible first | exact HB.out | apply below_alloc | apply pw_below_drewN | apply below_drew1) | exact HB.out)⟩⟩
            · rw [if_neg c6] at H
              exact absurd H (by simp)
        · rw [if_neg c3] at H
          have c3b0 : decide (x5_1 < (l0.length : Int)) = false := decide_eq_false c3
          clear c3
          simp only [Option.some.injEq, Prod.mk.injEq] at H
          obtain ⟨rfl, rfl⟩ := H
          go_wp2
          go_ret2
          exact ⟨_, by first | rfl | (simp [errW_none, errW_some] <;> rfl) | (simp [*, errW_none, errW_some] <;> rfl), by (with_reducible repeat (first | apply Kd.R_alloc | apply Kd.R_drewN | apply Kd.R_drew)); exact HO_4.out, by repeat (first | (with_reducible first | exact HB.out | apply below_alloc | apply pw_below_drewN | apply below_drew1) | exact HB.out)⟩

mutual
def sennitref01_Few.l0 : Nat → List ByteArray → Int → Int → Option (Bool)
  | 0, _, _, _ => none
  | k + 1, x0, x1, x5 => if x5 < (x0.length : Int) then (sennitref01_Few.j1 k x0 x1 x5 (decide (x5 ≤ x1))) else (sennitref01_Few.j1 k x0 x1 x5 false)
def sennitref01_Few.j1 : Nat → List ByteArray → Int → Int → Bool → Option (Bool)
  | 0, _, _, _, _ => none
  | k + 1, x0, x1, x5, x14 => if x14 = true then (if 0 ≤ x5 then (if x5 < (x0.length : Int) then (if ((rdOf ByteArray.empty x0 x5).size : Int) > 100 then (some false) else (sennitref01_Few.l0 k x0 x1 (wrap64 (x5 + 1)))) else (none)) else (none)) else (some (decide ((x0.length : Int) ≤ x1)))
end
def sennitref01_Few.f (k : Nat) (l0 : List ByteArray) (a1 : Int) : Option (Bool) := sennitref01_Few.l0 k l0 a1 0
set_option maxHeartbeats 8000000 in
set_option maxRecDepth 100000 in
theorem sennitref01_Few.calls (k : Nat) (A0 : Option Addr) (c0 : Nat) (l0 : List ByteArray) (a1 : Int) (r : Bool) (w : World) (hr0 : Kd.C Kd.string w A0 l0.length l0) (hc0 : l0.length ≤ c0) (h : sennitref01_Few.f k l0 a1 = some r) :
    Calls Try.prog 22 #[.slice A0 l0.length c0, .int .i64 a1] w fun e w' => e = .returned (.bool r) ∧ Drawn0 w w' := by
  have HR0 := Aside0.mk hr0
  have HC0 := Aside0.mk hc0
  clear hr0 hc0
  have H : (sennitref01_Few.l0 k l0 a1 0) = some r := h
  clear h
  have H' := Aside0.mk H
  clear H
  go_enter Try.func22, Try.ntmps22
  go_wp2
  go_loopg [5] k (fun kq v5 w' => ∃ (x5_1 : Int), v5 = .int .i64 x5_1 ∧ Aside0 (sennitref01_Few.l0 kq l0 a1 x5_1 = some r) ∧ Aside0 (kq ≤ k) ∧ Drawn0 w w')
  case atStart => exact ⟨(0), (by first | rfl | (simp; done) | (simp [*]; done)), H', ⟨Nat.le_refl _⟩, by repeat (first | exact Drawn0.refl _ | apply Drawn0.step)⟩
  case round =>
    clear H'
    try clear c2
    try clear p2
    obtain ⟨x5_1, rfl, HA, HK1, ⟨m1, rfl⟩⟩ := hrel
    cases gk with
    | zero => exact absurd HA.out (by simp [sennitref01_Few.l0])
    | succ k1 =>
      have H := HA.out
      clear HA
      simp only [sennitref01_Few.l0] at H
      have HC3 := Aside0.mk H
      clear H
      go_upto_region 2 with (fail)
      go_cut [14] (fun v14 wc => ∃ (kq : Nat) (x14_2 : Bool), v14 = .bool x14_2 ∧ Aside0 (sennitref01_Few.j1 kq l0 a1 x5_1 x14_2 = some r) ∧ Aside0 (kq ≤ k1) ∧ Drawn0 w wc)
      case first =>
        have H := HC3.out
        clear HC3
        by_cases c4 : x5_1 < (l0.length : Int)
        · rw [if_pos c4] at H
          have c4b0 : decide (x5_1 < (l0.length : Int)) = true := decide_eq_true c4
          clear c4
          (first | rw [c4b0] | (simp only [i64_w, i32_w]; rw [c4b0]) | skip)
          have H' := Aside0.mk H
          clear H
          go_wp2
          go_meet
          case rel => exact ⟨_, (decide (x5_1 ≤ a1)), (by first | rfl | (simp; done) | (simp [*]; done)), H', ⟨by have := HK1.out; first | omega | exact Nat.le_refl _⟩, by repeat (first | exact Drawn0.refl _ | apply Drawn0.step)⟩
        · rw [if_neg c4] at H
          have c4b0 : decide (x5_1 < (l0.length : Int)) = false := decide_eq_false c4
          clear c4
          (first | rw [c4b0] | (simp only [i64_w, i32_w]; rw [c4b0]) | skip)
          have H' := Aside0.mk H
          clear H
          go_wp2
          go_meet
          case rel => exact ⟨_, (false), (by first | rfl | (simp; done) | (simp [*]; done)), H', ⟨by have := HK1.out; first | omega | exact Nat.le_refl _⟩, by repeat (first | exact Drawn0.refl _ | apply Drawn0.step)⟩
      case rest =>
        clear HC3
        try clear c2
        try clear p2
        try clear c4
        try clear c4b0
        try clear p2
        obtain ⟨kq, x14_2, rfl, HA, HJ2, ⟨mc2, rfl⟩⟩ := hcut
        cases kq with
        | zero => exact absurd HA.out (by simp [sennitref01_Few.j1])
        | succ kj2 =>
          have H := HA.out
          clear HA
          simp only [sennitref01_Few.j1] at H
          by_cases c5 : x14_2 = true
          · subst c5
            have H1 : (if 0 ≤ x5_1 then (if x5_1 < (l0.length : Int) then (if ((rdOf ByteArray.empty l0 x5_1).size : Int) > 100 then (some false) else (sennitref01_Few.l0 kj2 l0 a1 (wrap64 (x5_1 + 1)))) else (none)) else (none)) = some r := by rw [if_pos rfl] at H; exact H
            clear H
            have H := H1
            clear H1
            by_cases c6 : 0 ≤ x5_1
            · rw [if_pos c6] at H
              have c6b0 : decide (0 ≤ x5_1) = true := decide_eq_true c6
              clear c6
              by_cases c7 : x5_1 < (l0.length : Int)
              · rw [if_pos c7] at H
                have c7b0 : decide (x5_1 < (l0.length : Int)) = true := decide_eq_true c7
                clear c7
                by_cases c8 : ((rdOf ByteArray.empty l0 x5_1).size : Int) > 100
                · rw [if_pos c8] at H
                  have c8b0 : decide (100 < ((rdOf ByteArray.empty l0 x5_1).size : Int)) = true := decide_eq_true c8
                  have c8b1 : decide (100 < (rdOf ByteArray.empty l0 x5_1).size) = true := decide_eq_true (by omega)
                  clear c8
                  obtain rfl := Option.some.inj H
                  have p201 : 0 ≤ (x5_1 : Int) := of_decide_eq_true (by first | (with_reducible assumption) | assumption)
                  have q201 : x5_1 < (l0.length : Int) := of_decide_eq_true (by first | (with_reducible assumption) | assumption)
                  obtain ⟨ad201, e201, hx201_0⟩ := Kd.at_string HR0.out x5_1 p201 q201
                  cases e201
                  replace p201 := eq_true p201
                  replace q201 := eq_true q201
                  go_wp2
                  go_ret
                  exact ⟨by first | rfl | (simp; done) | (simp [*]; done), by repeat (first | exact Drawn0.refl _ | apply Drawn0.step)⟩
                · rw [if_neg c8] at H
                  have c8b0 : decide (100 < ((rdOf ByteArray.empty l0 x5_1).size : Int)) = false := decide_eq_false c8
                  have c8b1 : decide (100 < (rdOf ByteArray.empty l0 x5_1).size) = false := decide_eq_false (by omega)
                  clear c8
                  have H' := Aside0.mk H
                  clear H
                  have p201 : 0 ≤ (x5_1 : Int) := of_decide_eq_true (by first | (with_reducible assumption) | assumption)
                  have q201 : x5_1 < (l0.length : Int) := of_decide_eq_true (by first | (with_reducible assumption) | assumption)
                  obtain ⟨ad201, e201, hx201_0⟩ := Kd.at_string HR0.out x5_1 p201 q201
                  cases e201
                  replace p201 := eq_true p201
                  replace q201 := eq_true q201
                  go_wp2
                  go_roundg kj2
                  case measure => have := HK1.out; have := HJ2.out; omega
                  case rel => exact ⟨(wrap64 (x5_1 + 1)), (by first | rfl | (simp; done) | (simp [*]; done)), H', ⟨by have := HK1.out; have := HJ2.out; omega⟩, by repeat (first | exact Drawn0.refl _ | apply Drawn0.step)⟩
              · rw [if_neg c7] at H
                exact absurd H (by simp)
            · rw [if_neg c6] at H
              exact absurd H (by simp)
          · replace c5 := Bool.eq_false_iff.mpr c5
            subst c5
            have H1 : (some (decide ((l0.length : Int) ≤ a1))) = some r := by rw [if_neg (show ¬ (false = true) by decide)] at H; exact H
            clear H
            have H := H1
            clear H1
            obtain rfl := Option.some.inj H
            go_wp2
            go_ret
            exact ⟨by first | rfl | (simp; done) | (simp [*]; done), by repeat (first | exact Drawn0.refl _ | apply Drawn0.step)⟩

end Go.Proofs.Ytnlekganlliikaa.X
-- part XRn5
namespace Go.Proofs.Ytnlekganlliikaa.X
open Go.RowKit Go.Proofs.YtnlekganlliikaaW.PrintWords Go.Proofs.YtnlekganlliikaaW.PrintLast Go.Proofs.YtnlekganlliikaaW.PrintMore
attribute [local go_sem] max2_int min2_int max_two min_two max_three min_three max_four min_four   -- for this text's walks alone
set_option linter.unusedVariables false
set_option linter.unusedSimpArgs false
mutual
def sennitref06_Few.l0 : Nat → List ByteArray → List (List ByteArray) → Int → Option (Bool)
  | 0, _, _, _ => none
  | k + 1, x0, x1, x5 => if x5 < (x1.length : Int) then (sennitref06_Few.j1 k x0 x1 x5 (decide (x5 < 7))) else (sennitref06_Few.j1 k x0 x1 x5 false)
def sennitref06_Few.j1 : Nat → List ByteArray → List (List ByteArray) → Int → Bool → Option (Bool)
  | 0, _, _, _, _ => none
  | k + 1, x0, x1, x5, x13 => if x13 = true then (if 0 ≤ x5 then (if x5 < (x1.length : Int) then ((sennitref01_Few.f k (rd_L1 x1 x5) 20).bind fun t203 => (if t203 = true then (sennitref06_Few.l0 k x0 x1 (wrap64 (x5 + 1))) else (some false))) else (none)) else (none)) else ((sennitref01_Few.f k x0 20).bind fun t204 => (if t204 = true then (some (decide ((x1.length : Int) ≤ 6))) else (some false)))
end
def sennitref06_Few.f (k : Nat) (l0 : List ByteArray) (l1 : List (List ByteArray)) : Option (Bool) := sennitref06_Few.l0 k l0 l1 0
set_option maxHeartbeats 8000000 in
set_option maxRecDepth 100000 in
theorem sennitref06_Few.calls (k : Nat) (A0 : Option Addr) (c0 : Nat) (l0 : List ByteArray) (A1 : Option Addr) (c1 : Nat) (l1 : List (List ByteArray)) (r : Bool) (w : World) (hr0 : Kd.C Kd.string w A0 l0.length l0) (hc0 : l0.length ≤ c0) (hr1 : Kd.C (Kd.slice 9 Kd.string) w A1 l1.length l1) (hc1 : l1.length ≤ c1) (h : sennitref06_Few.f k l0 l1 = some r) :
    Calls Try.prog 16 #[.slice A0 l0.length c0, .slice A1 l1.length c1] w fun e w' => e = .returned (.bool r) ∧ Drawn0 w w' := by
  have HR0 := Aside0.mk hr0
  have HC0 := Aside0.mk hc0
  clear hr0 hc0
  have HR1 := Aside0.mk hr1
  have HC1 := Aside0.mk hc1
  clear hr1 hc1
  have H : (sennitref06_Few.l0 k l0 l1 0) = some r := h
  clear h
  have H' := Aside0.mk H
  clear H
  go_enter Try.func16, Try.ntmps16
  go_wp2
  go_loopg [5] k (fun kq v5 w' => ∃ (x5_1 : Int), v5 = .int .i64 x5_1 ∧ Aside0 (sennitref06_Few.l0 kq l0 l1 x5_1 = some r) ∧ Aside0 (kq ≤ k) ∧ Drawn0 w w')
  case atStart => exact ⟨(0), (by first | rfl | (simp; done) | (simp [*]; done)), H', ⟨Nat.le_refl _⟩, by repeat (first | exact Drawn0.refl _ | apply Drawn0.step)⟩
  case round =>
    clear H'
    try clear c1
    try clear p2
    obtain ⟨x5_1, rfl, HA, HK1, ⟨m1, rfl⟩⟩ := hrel
    cases gk with
    | zero => exact absurd HA.out (by simp [sennitref06_Few.l0])
    | succ k1 =>
      have H := HA.out
      clear HA
      simp only [sennitref06_Few.l0] at H
      have HC3 := Aside0.mk H
      clear H
      go_upto_region 2 with (fail)
      go_cut [13] (fun v13 wc => ∃ (kq : Nat) (x13_2 : Bool), v13 = .bool x13_2 ∧ Aside0 (sennitref06_Few.j1 kq l0 l1 x5_1 x13_2 = some r) ∧ Aside0 (kq ≤ k1) ∧ Drawn0 w wc)
      case first =>
        have H := HC3.out
        clear HC3
        by_cases c4 : x5_1 < (l1.length : Int)
        · rw [if_pos c4] at H
          have c4b0 : decide (x5_1 < (l1.length : Int)) = true := decide_eq_true c4
          clear c4
          (first | rw [c4b0] | (simp only [i64_w, i32_w]; rw [c4b0]) | skip)
          have H' := Aside0.mk H
          clear H
          go_wp2
          go_meet
          case rel => exact ⟨_, (decide (x5_1 < 7)), (by first | rfl | (simp; done) | (simp [*]; done)), H', ⟨by have := HK1.out; first | omega | exact Nat.le_refl _⟩, by repeat (first | exact Drawn0.refl _ | apply Drawn0.step)⟩
        · rw [if_neg c4] at H
          have c4b0 : decide (x5_1 < (l1.length : Int)) = false := decide_eq_false c4
          clear c4
          (first | rw [c4b0] | (simp only [i64_w, i32_w]; rw [c4b0]) | skip)
          have H' := Aside0.mk H
          clear H
          go_wp2
          go_meet
          case rel => exact ⟨_, (false), (by first | rfl | (simp; done) | (simp [*]; done)), H', ⟨by have := HK1.out; first | omega | exact Nat.le_refl _⟩, by repeat (first | exact Drawn0.refl _ | apply Drawn0.step)⟩
      case rest =>
        clear HC3
        try clear c1
        try clear p2
        try clear c4
        try clear c4b0
        try clear p2
        obtain ⟨kq, x13_2, rfl, HA, HJ2, ⟨mc2, rfl⟩⟩ := hcut
        cases kq with
        | zero => exact absurd HA.out (by simp [sennitref06_Few.j1])
        | succ kj2 =>
          have H := HA.out
          clear HA
          simp only [sennitref06_Few.j1] at H
          by_cases c5 : x13_2 = true
          · subst c5
            have H1 : (if 0 ≤ x5_1 then (if x5_1 < (l1.length : Int) then ((sennitref01_Few.f kj2 (rd_L1 l1 x5_1) 20).bind fun t203 => (if t203 = true then (sennitref06_Few.l0 kj2 l0 l1 (wrap64 (x5_1 + 1))) else (some false))) else (none)) else (none)) = some r := by rw [if_pos rfl] at H; exact H
            clear H
            have H := H1
            clear H1
            by_cases c6 : 0 ≤ x5_1
            · rw [if_pos c6] at H
              have c6b0 : decide (0 ≤ x5_1) = true := decide_eq_true c6
              clear c6
              by_cases c7 : x5_1 < (l1.length : Int)
              · rw [if_pos c7] at H
                have c7b0 : decide (x5_1 < (l1.length : Int)) = true := decide_eq_true c7
                clear c7
                replace H := Option.bind_eq_some_iff.mp H
                obtain ⟨t203, A80, H⟩ := H
                replace H : (if t203 = true then (sennitref06_Few.l0 kj2 l0 l1 (wrap64 (x5_1 + 1))) else (some false)) = some r := H
                have A8 := Aside0.mk A80
                clear A80
                by_cases c9 : t203 = true
                · subst c9
                  have H1 : (sennitref06_Few.l0 kj2 l0 l1 (wrap64 (x5_1 + 1))) = some r := by rw [if_pos rfl] at H; exact H
                  clear H
                  have H := H1
                  clear H1
                  have H' := Aside0.mk H
                  clear H
                  have p202 : 0 ≤ (x5_1 : Int) := of_decide_eq_true (by first | (with_reducible assumption) | assumption)
                  have q202 : x5_1 < (l1.length : Int) := of_decide_eq_true (by first | (with_reducible assumption) | assumption)
                  obtain ⟨ad202, A202_0, c202_0, e202, hx202_0, hl202_0, hi202_0⟩ := at_L1 HR1.out x5_1 p202 q202
                  cases e202
                  have HR202_0 := Aside0.mk hi202_0
                  have HC202_0 := Aside0.mk hl202_0
                  clear hi202_0 hl202_0
                  replace p202 := eq_true p202
                  replace q202 := eq_true q202
                  go_wp2_with (first | ((with_reducible refine gate_callee (f := 22) rfl ?_); refine goesL_ (some 20) rfl rfl Try.func22 (by kernel_rfl) rfl #[.slice A202_0 (rd_L1 l1 x5_1).length c202_0, .int .i64 20] rfl (by (try simp only [List.map_toArray, List.map_cons, List.map_nil]); first | done | rfl | (simp only [List.length_drop, List.length_take]; rfl)) ?_; (with_reducible refine (sennitref01_Few.calls kj2 _ _ (rd_L1 l1 x5_1) 20 true _ ?side1 ?side2 A8.out).mono ?_); (case side1 => repeat (first | exact HR202_0.out | (with_reducible refine Kd.C_alloc ?_ _) | (with_reducible refine Kd.C_drewN ?_ _) | (with_reducible refine Kd.C_drew ?_))); (case side2 => exact HC202_0.out); rintro e w' ⟨rfl, ⟨nd, rfl⟩⟩; refine ⟨_, rfl, ?_⟩))
                  go_roundg kj2
                  case measure => have := HK1.out; have := HJ2.out; omega
                  case rel => exact ⟨(wrap64 (x5_1 + 1)), (by first | rfl | (simp; done) | (simp [*]; done)), H', ⟨by have := HK1.out; have := HJ2.out; omega⟩, by repeat (first | exact Drawn0.refl _ | apply Drawn0.step)⟩
                · replace c9 := Bool.eq_false_iff.mpr c9
                  subst c9
                  have H1 : (some false) = some r := by rw [if_neg (show ¬ (false = true) by decide)] at H; exact H
                  clear H
                  have H := H1
                  clear H1
                  obtain rfl := Option.some.inj H
                  have p202 : 0 ≤ (x5_1 : Int) := of_decide_eq_true (by first | (with_reducible assumption) | assumption)
                  have q202 : x5_1 < (l1.length : Int) := of_decide_eq_true (by first | (with_reducible assumption) | assumption)
                  obtain ⟨ad202, A202_0, c202_0, e202, hx202_0, hl202_0, hi202_0⟩ := at_L1 HR1.out x5_1 p202 q202
                  cases e202
                  have HR202_0 := Aside0.mk hi202_0
                  have HC202_0 := Aside0.mk hl202_0
                  clear hi202_0 hl202_0
                  replace p202 := eq_true p202
                  replace q202 := eq_true q202
                  go_wp2_with (first | ((with_reducible refine gate_callee (f := 22) rfl ?_); refine goesL_ (some 20) rfl rfl Try.func22 (by kernel_rfl) rfl #[.slice A202_0 (rd_L1 l1 x5_1).length c202_0, .int .i64 20] rfl (by (try simp only [List.map_toArray, List.map_cons, List.map_nil]); first | done | rfl | (simp only [List.length_drop, List.length_take]; rfl)) ?_; (with_reducible refine (sennitref01_Few.calls kj2 _ _ (rd_L1 l1 x5_1) 20 false _ ?side1 ?side2 A8.out).mono ?_); (case side1 => repeat (first | exact HR202_0.out | (with_reducible refine Kd.C_alloc ?_ _) | (with_reducible refine Kd.C_drewN ?_ _) | (with_reducible refine Kd.C_drew ?_))); (case side2 => exact HC202_0.out); rintro e w' ⟨rfl, ⟨nd, rfl⟩⟩; refine ⟨_, rfl, ?_⟩))
                  go_ret
                  exact ⟨by first | rfl | (simp; done) | (simp [*]; done), by repeat (first | exact Drawn0.refl _ | apply Drawn0.step)⟩
              · rw [if_neg c7] at H
                exact absurd H (by simp)
            · rw [if_neg c6] at H
              exact absurd H (by simp)
          · replace c5 := Bool.eq_false_iff.mpr c5
            subst c5
            have H1 : ((sennitref01_Few.f kj2 l0 20).bind fun t204 => (if t204 = true then (some (decide ((l1.length : Int) ≤ 6))) else (some false))) = some r := by rw [if_neg (show ¬ (false = true) by decide)] at H; exact H
            clear H
            have H := H1
            clear H1
            replace H := Option.bind_eq_some_iff.mp H
            obtain ⟨t204, A100, H⟩ := H
            replace H : (if t204 = true then (some (decide ((l1.length : Int) ≤ 6))) else (some false)) = some r := H
            have A10 := Aside0.mk A100
            clear A100
            by_cases c11 : t204 = true
            · subst c11
              have H1 : (some (decide ((l1.length : Int) ≤ 6))) = some r := by rw [if_pos rfl] at H; exact H
              clear H
              have H := H1
              clear H1
              obtain rfl := Option.some.inj H
              go_wp2_with (first | ((with_reducible refine gate_callee (f := 22) rfl ?_); refine goesL_ (some 23) rfl rfl Try.func22 (by kernel_rfl) rfl #[.slice A0 l0.length c0, .int .i64 20] rfl (by (try simp only [List.map_toArray, List.map_cons, List.map_nil]); first | done | rfl | (simp only [List.length_drop, List.length_take]; rfl)) ?_; (with_reducible refine (sennitref01_Few.calls kj2 _ _ l0 20 true _ ?side1 ?side2 A10.out).mono ?_); (case side1 => repeat (first | exact HR0.out | (with_reducible refine Kd.C_alloc ?_ _) | (with_reducible refine Kd.C_drewN ?_ _) | (with_reducible refine Kd.C_drew ?_))); (case side2 => exact HC0.out); rintro e w' ⟨rfl, ⟨nd, rfl⟩⟩; refine ⟨_, rfl, ?_⟩))
              go_ret
              exact ⟨by first | rfl | (simp; done) | (simp [*]; done), by repeat (first | exact Drawn0.refl _ | apply Drawn0.step)⟩
            · replace c11 := Bool.eq_false_iff.mpr c11
              subst c11
              have H1 : (some false) = some r := by rw [if_neg (show ¬ (false = true) by decide)] at H; exact H
              clear H
              have H := H1
              clear H1
              obtain rfl := Option.some.inj H
              go_wp2_with (first | ((with_reducible refine gate_callee (f := 22) rfl ?_); refine goesL_ (some 23) rfl rfl Try.func22 (by kernel_rfl) rfl #[.slice A0 l0.length c0, .int .i64 20] rfl (by (try simp only [List.map_toArray, List.map_cons, List.map_nil]); first | done | rfl | (simp only [List.length_drop, List.length_take]; rfl)) ?_; (with_reducible refine (sennitref01_Few.calls kj2 _ _ l0 20 false _ ?side1 ?side2 A10.out).mono ?_); (case side1 => repeat (first | exact HR0.out | (with_reducible refine Kd.C_alloc ?_ _) | (with_reducible refine Kd.C_drewN ?_ _) | (with_reducible refine Kd.C_drew ?_))); (case side2 => exact HC0.out); rintro e w' ⟨rfl, ⟨nd, rfl⟩⟩; refine ⟨_, rfl, ?_⟩))
              go_ret
              exact ⟨by first | rfl | (simp; done) | (simp [*]; done), by repeat (first | exact Drawn0.refl _ | apply Drawn0.step)⟩

end Go.Proofs.Ytnlekganlliikaa.X
-- part XInternMath
namespace Go.Proofs.Ytnlekganlliikaa.X
set_option linter.unusedVariables false
set_option linter.unusedSimpArgs false
/-- Where a text stands first; behind all, if it doesn't. -/
def place (s : ByteArray) : List ByteArray → Nat
  | [] => 0
  | x :: xs => if x = s then 0 else place s xs + 1
/-- A table, and one text more, if it is new. -/
def addT (t : List ByteArray) (s : ByteArray) : List ByteArray := if place s t < t.length then t else t ++ [s]
theorem place_le (s : ByteArray) : ∀ t, place s t ≤ t.length
  | [] => Nat.le_refl _
  | x :: xs => by
    have := place_le s xs
    simp only [place, List.length_cons]
    split <;> omega
theorem place_get (s : ByteArray) : ∀ {t : List ByteArray} (h : place s t < t.length), t[place s t] = s
  | [], h => by simp [place] at h
  | x :: xs, h => by
    by_cases e : x = s
    · simp [place, e]
    · have h' : place s xs < xs.length := by simpa [place, e] using h
      simp only [place, e, if_false, List.getElem_cons_succ]
      exact place_get s h'
theorem place_mem (s : ByteArray) : ∀ {t : List ByteArray}, s ∈ t ↔ place s t < t.length
  | [] => by simp [place]
  | x :: xs => by
    by_cases e : x = s
    · simp [place, e]
    · have e' : ¬ s = x := fun h => e h.symm
      simp [place, e, e', place_mem s (t := xs)]
theorem place_append (s : ByteArray) : ∀ {t : List ByteArray} (u : List ByteArray), place s t < t.length → place s (t ++ u) = place s t
  | [], u, h => by simp [place] at h
  | x :: xs, u, h => by
    by_cases e : x = s
    · simp [place, e]
    · have h' : place s xs < xs.length := by simpa [place, e] using h
      simp [place, e, place_append s u h']
theorem place_new (s : ByteArray) : ∀ {t : List ByteArray} (u : List ByteArray), ¬ place s t < t.length → place s (t ++ s :: u) = t.length
  | [], u, h => by simp [place]
  | x :: xs, u, h => by
    by_cases e : x = s
    · simp [place, e] at h
    · have h' : ¬ place s xs < xs.length := by simpa [place, e] using h
      simp [place, e, place_new s u h']
theorem place_not {s : ByteArray} {t : List ByteArray} (h : ¬ place s t < t.length) : place s t = t.length := by
  have := place_le s t; omega
theorem addT_length (t : List ByteArray) (s : ByteArray) : t.length ≤ (addT t s).length ∧ (addT t s).length ≤ t.length + 1 := by
  unfold addT; split <;> simp
/-- The numbers of some texts, and the table then. -/
def idsOne : List ByteArray → List ByteArray → List ByteArray × List Int
  | t, [] => (t, [])
  | t, s :: l => ((idsOne (addT t s) l).1, (place s t : Int) :: (idsOne (addT t s) l).2)
def idsMany : List ByteArray → List (List ByteArray) → List (List Int)
  | _, [] => []
  | t, l :: ls => (idsOne t l).2 :: idsMany (idsOne t l).1 ls
/-- The numbers of all texts of some files. -/
def idsAll (files : List (List ByteArray)) : List (List Int) := idsMany [] files
theorem idsOne_length : ∀ (t l : List ByteArray), (idsOne t l).2.length = l.length
  | t, [] => rfl
  | t, s :: l => by simp [idsOne, idsOne_length (addT t s) l]
theorem idsOne_snoc : ∀ (t l : List ByteArray) (s : ByteArray), idsOne t (l ++ [s]) = (addT (idsOne t l).1 s, (idsOne t l).2 ++ [(place s (idsOne t l).1 : Int)])
  | t, [], s => by simp [idsOne]
  | t, x :: l, s => by simp [idsOne, idsOne_snoc (addT t x) l s]
theorem idsOne_table_le : ∀ (t l : List ByteArray), (idsOne t l).1.length ≤ t.length + l.length
  | t, [] => by simp [idsOne]
  | t, s :: l => by
    have h1 := idsOne_table_le (addT t s) l
    have h2 := (addT_length t s).2
    simp only [idsOne, List.length_cons]; omega
theorem idsMany_length : ∀ (t : List ByteArray) (ls : List (List ByteArray)), (idsMany t ls).length = ls.length
  | _, [] => rfl
  | t, l :: ls => by simp [idsMany, idsMany_length (idsOne t l).1 ls]
/-- The table behind some files. -/
def tabOf : List ByteArray → List (List ByteArray) → List ByteArray
  | t, [] => t
  | t, l :: ls => tabOf (idsOne t l).1 ls
theorem tabOf_snoc : ∀ (t : List ByteArray) (ls : List (List ByteArray)) (l : List ByteArray), tabOf t (ls ++ [l]) = (idsOne (tabOf t ls) l).1
  | t, [], l => rfl
  | t, x :: ls, l => tabOf_snoc (idsOne t x).1 ls l
theorem idsMany_snoc : ∀ (t : List ByteArray) (ls : List (List ByteArray)) (l : List ByteArray), idsMany t (ls ++ [l]) = idsMany t ls ++ [(idsOne (tabOf t ls) l).2]
  | t, [], l => rfl
  | t, x :: ls, l => by simp [idsMany, tabOf, idsMany_snoc (idsOne t x).1 ls l]
end Go.Proofs.Ytnlekganlliikaa.X
-- part XLcsMath
namespace Go.Proofs.Ytnlekganlliikaa.X
/-- How long the longest common sequence is. -/
def lcsL : List Int → List Int → Nat
  | [], _ => 0
  | _ :: _, [] => 0
  | x :: xs, y :: ys => if x = y then lcsL xs ys + 1 else max (lcsL xs (y :: ys)) (lcsL (x :: xs) ys)
  termination_by a b => a.length + b.length

@[simp] theorem lcsL_nil_left (b : List Int) : lcsL [] b = 0 := by unfold lcsL; rfl
@[simp] theorem lcsL_nil_right (a : List Int) : lcsL a [] = 0 := by cases a <;> (unfold lcsL; rfl)
theorem lcsL_cons (x y : Int) (xs ys : List Int) : lcsL (x :: xs) (y :: ys) = if x = y then lcsL xs ys + 1 else max (lcsL xs (y :: ys)) (lcsL (x :: xs) ys) := by
  rw [lcsL]

/-- What is done at two suffixes: 0 both are paired, 1 the first list's is passed over, 2 the second's. -/
def stepAt : List Int → List Int → Int
  | x :: xs, y :: ys => if x = y then 0 else if lcsL (x :: xs) ys ≤ lcsL xs (y :: ys) then 1 else 2
  | _, _ => 0

/-- The whole table, row by row. -/
def stepsOf (a b : List Int) : List Int := (List.range (a.length * b.length)).map fun k => stepAt (a.drop (k / b.length)) (b.drop (k % b.length))

/-- With which place of the second list each of the first one's is paired: from the place j on. -/
def matchFrom : List Int → List Int → Nat → List Int
  | [], _, _ => []
  | _ :: xs, [], j => -1 :: matchFrom xs [] j
  | x :: xs, y :: ys, j => if x = y then (j : Int) :: matchFrom xs ys (j + 1) else if lcsL (x :: xs) ys ≤ lcsL xs (y :: ys) then -1 :: matchFrom xs (y :: ys) j else matchFrom (x :: xs) ys (j + 1)
  termination_by a b _ => a.length + b.length

def matchOf (a b : List Int) : List Int := matchFrom a b 0

/-- Common sequences: the longest one is as long as told, and there is one. -/
theorem lcsL_le (a b s : List Int) : s.Sublist a → s.Sublist b → s.length ≤ lcsL a b := by
  match a, b with
  | [], b => intro h _; simp at h; simp [h]
  | x :: xs, [] => intro _ h; simp at h; simp [h]
  | x :: xs, y :: ys =>
    intro h h'
    rw [lcsL_cons]
    by_cases e : x = y
    · subst e
      rw [if_pos rfl]
      cases s with
      | nil => simp
      | cons z zs =>
        have h1 : zs.Sublist xs := by
          cases h with
          | cons _ h => exact (List.sublist_cons_self z zs).trans h
          | cons_cons _ h => exact h
        have h2 : zs.Sublist ys := by
          cases h' with
          | cons _ h => exact (List.sublist_cons_self z zs).trans h
          | cons_cons _ h => exact h
        have := lcsL_le xs ys zs h1 h2
        simp; omega
    · rw [if_neg e]
      cases h with
      | cons _ h => have := lcsL_le xs (y :: ys) s h h'; omega
      | cons_cons _ h =>
        cases h' with
        | cons _ h' => have := lcsL_le (x :: xs) ys _ (h.cons_cons x) h'; omega
        | cons_cons _ h' => exact absurd rfl e
  termination_by a.length + b.length

theorem lcsL_ex (a b : List Int) : ∃ s : List Int, s.Sublist a ∧ s.Sublist b ∧ s.length = lcsL a b := by
  match a, b with
  | [], b => exact ⟨[], by simp, by simp, by simp⟩
  | x :: xs, [] => exact ⟨[], by simp, by simp, by simp⟩
  | x :: xs, y :: ys =>
    rw [lcsL_cons]
    by_cases e : x = y
    · subst e
      rw [if_pos rfl]
      obtain ⟨s, h1, h2, h3⟩ := lcsL_ex xs ys
      exact ⟨x :: s, h1.cons_cons x, h2.cons_cons x, by simp [h3]⟩
    · rw [if_neg e]
      obtain ⟨s, h1, h2, h3⟩ := lcsL_ex xs (y :: ys)
      obtain ⟨s', h1', h2', h3'⟩ := lcsL_ex (x :: xs) ys
      rcases Nat.le_total (lcsL (x :: xs) ys) (lcsL xs (y :: ys)) with h | h
      · exact ⟨s, h1.cons x, h2, by omega⟩
      · exact ⟨s', h1', h2'.cons y, by omega⟩
  termination_by a.length + b.length

theorem lcsL_unique {a b : List Int} {n : Nat} (h1 : ∀ s : List Int, s.Sublist a → s.Sublist b → s.length ≤ n) (h2 : ∃ s : List Int, s.Sublist a ∧ s.Sublist b ∧ s.length = n) : lcsL a b = n := by
  obtain ⟨s, h3, h4, h5⟩ := lcsL_ex a b
  obtain ⟨t, h6, h7, h8⟩ := h2
  have := h1 s h3 h4
  have := lcsL_le a b t h6 h7
  omega

theorem lcsL_comm (a b : List Int) : lcsL a b = lcsL b a :=
  lcsL_unique (fun s h h' => lcsL_le b a s h' h) (let ⟨s, h1, h2, h3⟩ := lcsL_ex b a; ⟨s, h2, h1, h3⟩)

theorem lcsL_le_left (a b : List Int) : lcsL a b ≤ a.length := let ⟨_, h1, _, h3⟩ := lcsL_ex a b; h3 ▸ h1.length_le
theorem lcsL_le_right (a b : List Int) : lcsL a b ≤ b.length := let ⟨_, _, h1, h3⟩ := lcsL_ex a b; h3 ▸ h1.length_le
theorem lcsL_step_left (x : Int) (a b : List Int) : lcsL (x :: a) b ≤ lcsL a b + 1 := by
  obtain ⟨s, h1, h2, h3⟩ := lcsL_ex (x :: a) b
  cases h1 with
  | cons _ h => have := lcsL_le a b s h h2; omega
  | @cons_cons s' _ _ h =>
    have := lcsL_le a b s' h ((List.sublist_cons_self x s').trans h2)
    simp at h3
    omega
theorem lcsL_step_right (y : Int) (a b : List Int) : lcsL a (y :: b) ≤ lcsL a b + 1 := by
  rw [lcsL_comm, lcsL_comm a b]; exact lcsL_step_left y b a

theorem matchFrom_nil (b : List Int) (j : Nat) : matchFrom [] b j = [] := by unfold matchFrom; rfl
theorem matchFrom_none (x : Int) (xs : List Int) (j : Nat) : matchFrom (x :: xs) [] j = -1 :: matchFrom xs [] j := by rw [matchFrom]
theorem matchFrom_cons (x y : Int) (xs ys : List Int) (j : Nat) : matchFrom (x :: xs) (y :: ys) j = if x = y then (j : Int) :: matchFrom xs ys (j + 1) else if lcsL (x :: xs) ys ≤ lcsL xs (y :: ys) then -1 :: matchFrom xs (y :: ys) j else matchFrom (x :: xs) ys (j + 1) := by rw [matchFrom]
theorem matchFrom_rest (a : List Int) (j : Nat) : matchFrom a [] j = List.replicate a.length (-1) := by
  induction a with
  | nil => rw [matchFrom_nil]; rfl
  | cons x a ih => rw [matchFrom_none, ih]; rfl

theorem matchFrom_length (a b : List Int) (j : Nat) : (matchFrom a b j).length = a.length := by
  match a, b with
  | [], b => simp [matchFrom_nil]
  | x :: xs, [] => simp [matchFrom_rest]
  | x :: xs, y :: ys =>
    rw [matchFrom_cons]
    split
    · simp [matchFrom_length xs ys]
    · split
      · simp [matchFrom_length xs (y :: ys)]
      · exact matchFrom_length (x :: xs) ys _
  termination_by a.length + b.length

/-- All that is told of a match: each place is told -1, or one of b's, that holds the same; they rise; as many are as the longest. -/
def Rises (a b : List Int) (j : Nat) : List Int → Nat → Prop
  | [], n => n = 0 ∧ True
  | m :: ms, n => (m = -1 ∧ Rises a.tail b j ms n) ∨ (∃ k n', m = ((j + k : Nat) : Int) ∧ n = n' + 1 ∧ b[k]? = a.head? ∧ a ≠ [] ∧ Rises a.tail (b.drop (k + 1)) (j + k + 1) ms n')

theorem rises_shift {a b : List Int} {j : Nat} {y : Int} : ∀ {ms : List Int} {n : Nat}, ms.length = a.length → Rises a b (j + 1) ms n → Rises a (y :: b) j ms n := by
  intro ms
  induction ms generalizing a with
  | nil => intro n _ h; exact h
  | cons m ms ih =>
    intro n hl h
    rcases h with ⟨h1, h2⟩ | ⟨k, n', h1, h2, h3, h4, h5⟩
    · exact .inl ⟨h1, ih (by simp at hl ⊢; omega) h2⟩
    · exact .inr ⟨k + 1, n', by rw [h1]; congr 1; omega, h2, by simpa using h3, h4, by rw [show j + (k + 1) + 1 = j + 1 + k + 1 from by omega]; simpa using h5⟩

theorem matchFrom_rises (a b : List Int) (j : Nat) : Rises a b j (matchFrom a b j) (lcsL a b) := by
  match a, b with
  | [], b => rw [matchFrom_nil, lcsL_nil_left]; exact ⟨rfl, trivial⟩
  | x :: xs, [] =>
    rw [matchFrom_none, lcsL_nil_right]
    have := matchFrom_rises xs [] j
    rw [lcsL_nil_right] at this
    exact .inl ⟨rfl, this⟩
  | x :: xs, y :: ys =>
    rw [matchFrom_cons, lcsL_cons]
    by_cases e : x = y
    · subst e
      rw [if_pos rfl, if_pos rfl]
      exact .inr ⟨0, lcsL xs ys, by simp, rfl, by simp, by simp, by simpa using matchFrom_rises xs ys (j + 1)⟩
    · rw [if_neg e, if_neg e]
      by_cases h : lcsL (x :: xs) ys ≤ lcsL xs (y :: ys)
      · rw [if_pos h, Nat.max_eq_left h]
        exact .inl ⟨rfl, matchFrom_rises xs (y :: ys) j⟩
      · rw [if_neg h, Nat.max_eq_right (by omega)]
        exact rises_shift (matchFrom_length _ _ _) (matchFrom_rises (x :: xs) ys (j + 1))
  termination_by a.length + b.length
end Go.Proofs.Ytnlekganlliikaa.X
-- part XKit
namespace Go.Proofs.Ytnlekganlliikaa.X
open Go.RowKit Go.Proofs.YtnlekganlliikaaW.PrintWords Go.Proofs.YtnlekganlliikaaW.PrintLast Go.Proofs.YtnlekganlliikaaW.PrintMore
set_option linter.unusedVariables false
set_option linter.unusedSimpArgs false
/-- A block of known cells, read as a row. -/
theorem C_blk {α : Type} {d : Kd α} {W : World} {g : Nat} {t : TypeId} {fr : Nat × Nat} {xs : List α} {inner : List Value} (h : W.heap[g]? = some (.cells inner.toArray t fr)) (hr : Reps (d.K W) d.sz xs inner) (hl : xs.length ≤ 9223372036854775807) : d.C W (some ⟨g, 0, none⟩) xs.length xs := by
  refine ⟨rfl, hl, fun _ => ⟨_, rfl, fun j p hj => ⟨_, ?_, hr.2 j p hj, fun i u hu => ?_⟩⟩⟩
  · have hjl := (List.getElem?_eq_some_iff.1 hj).1
    have h1 : j * d.sz + d.sz ≤ inner.length := by rw [hr.1, ← Nat.succ_mul]; exact Nat.mul_le_mul_right _ hjl
    rw [List.length_take, List.length_drop]; omega
  · have hil := (List.getElem?_eq_some_iff.1 hu).1
    rw [List.length_take] at hil
    rw [List.getElem?_take_of_lt (by omega), List.getElem?_drop] at hu
    have : W.cell? ⟨g, j * d.sz + i, none⟩ = some u := by rw [cell_of_row W g _ _ t fr h]; simpa using hu
    obtain ⟨q, hq⟩ : ∃ q, j * d.sz + i = q := ⟨_, rfl⟩
    rw [hq] at this ⊢
    by_cases e : q = 0
    · subst e; simpa [Addr.add] using this
    · simpa [Addr.add, e] using this
/-- A step of a call that keeps the old: as seen from the law's world. -/
theorem far_ {W w w' : World} (h : Below W.heap.size W w) (hb : Below w.heap.size w w') : Below W.heap.size W w' := h.trans (hb.mono h.size)
/-- An element that is a slice. -/
theorem at_slice {α : Type} {e : Nat} {d : Kd α} {w : World} {A : Option Addr} {n : Nat} {xs : List (List α)} (h : (Kd.slice e d).C w A n xs) (i : Nat) (hi : i < n) :
    ∃ ad A0 c0, A = some ad ∧ w.cell? (ad.add i) = some (.slice A0 (xs.getD i []).length c0) ∧ (xs.getD i []).length ≤ c0 ∧ d.C w A0 (xs.getD i []).length (xs.getD i []) := by
  obtain ⟨ad, c, e1, _, ⟨A0, c0, e2, e3, e4⟩, e5⟩ := ReadsRow.get_ h [] (i : Int) (by omega) (by omega)
  rw [Int.toNat_natCast] at e2 e3 e4 e5
  subst e2
  have := e5 0 _ rfl
  rw [show i * (Kd.slice e d).sz + 0 = i from by rw [show (Kd.slice e d).sz = 1 from rfl]; omega] at this
  exact ⟨ad, A0, c0, e1, this, e3, e4⟩
theorem at_str {w : World} {A : Option Addr} {n : Nat} {xs : List ByteArray} (h : Kd.string.C w A n xs) (i : Nat) (hi : i < n) : ∃ ad, A = some ad ∧ w.cell? (ad.add i) = some (.string (xs.getD i ByteArray.empty)) := by
  obtain ⟨ad, e, hc⟩ := Kd.at_string h (i : Int) (by omega) (by omega)
  rw [Int.toNat_natCast] at hc
  refine ⟨ad, e, ?_⟩
  rw [hc, rdOf, Int.toNat_natCast]
theorem at_num {k : IntKind} {w : World} {A : Option Addr} {n : Nat} {xs : List Int} (h : (Kd.int k).C w A n xs) (i : Nat) (hi : i < n) : ∃ ad, A = some ad ∧ w.cell? (ad.add i) = some (.int k (xs.getD i 0)) := by
  obtain ⟨ad, e, hc⟩ := Kd.at_int h (i : Int) (by omega) (by omega)
  rw [Int.toNat_natCast] at hc
  refine ⟨ad, e, ?_⟩
  rw [hc, rd, Int.toNat_natCast]
theorem getD_get {α : Type} {d : α} {l : List α} {i : Nat} (h : i < l.length) : l.getD i d = l[i] := by simp [h]
theorem C_cap {α : Type} {d : Kd α} {w : World} {A : Option Addr} {n : Nat} {xs : List α} (h : d.C w A n xs) : xs.length = n := h.1
end Go.Proofs.Ytnlekganlliikaa.X
-- part XBuild
namespace Go.Proofs.Ytnlekganlliikaa.X
open Go.RowKit Go.Proofs.YtnlekganlliikaaW.PrintWords Go.Proofs.YtnlekganlliikaaW.PrintLast Go.Proofs.YtnlekganlliikaaW.PrintMore
set_option linter.unusedVariables false
set_option linter.unusedSimpArgs false
theorem sizeBuilder : (Try.prog.info? 67).map (·.size) = some 2 := by kernel_rfl

set_option maxHeartbeats 1000000 in
set_option maxRecDepth 100000 in
theorem copyCheck_used (b : Nat) (w : World) (h0 : w.cell? ⟨b, 0, none⟩ = some (.pointer (some ⟨b, 0, none⟩))) :
    Calls Try.prog 66 #[.pointer (some ⟨b, 0, none⟩)] w fun e w' => e = .returned (.tuple #[]) ∧ w' = w := by
  obtain ⟨j, hj, _⟩ := Option.map_eq_some_iff.1 sizeBuilder
  go_enter Try.func66, Try.ntmps66
  go_wp2
  rw [Lib.run_neq_ptr_same w _ Try.underlying64 hj]
  go_wp2
  go_end0
  exact ⟨rfl, rfl⟩

set_option maxHeartbeats 1000000 in
set_option maxRecDepth 100000 in
theorem copyCheck_fresh (b : Nat) (w : World) (h0 : w.cell? ⟨b, 0, none⟩ = some (.pointer none)) (hsh : w.shape? b = some (67, 2)) (hfz : w.frozen? ⟨b, 0, none⟩ = false) :
    Calls Try.prog 66 #[.pointer (some ⟨b, 0, none⟩)] w fun e w' => e = .returned (.tuple #[]) ∧ w' = w.setCell ⟨b, 0, none⟩ (.pointer (some ⟨b, 0, none⟩)) := by
  obtain ⟨j, hj, hjs⟩ := Option.map_eq_some_iff.1 sizeBuilder
  go_enter Try.func66, Try.ntmps66
  go_wp2
  rw [Lib.run_to_unsafe w ⟨b, 0, none⟩ Try.underlying64 Try.underlying132 hj (by rw [hjs]; decide) hsh (Nat.zero_lt_succ 1)]
  simp only [Result.andThen]
  rw [Oper.upon_value]
  go_wp2
  rw [run_callFunc_extern Try.func83 (by kernel_rfl) (by kernel_rfl) (by kernel_rfl) (e := Extern.AbiNoEscape.same) (by kernel_rfl)]
  rw [Lib.run_noEscape]
  simp only [Result.andThen]
  rw [Oper.upon_value]
  go_wp2
  rw [Lib.run_from_unsafe w ⟨b, 0, none⟩ Try.underlying132 Try.underlying64 hj hsh (by kernel_rfl)]
  simp only [Result.andThen]
  rw [Oper.upon_value]
  go_wp2
  go_end0
  exact ⟨rfl, rfl⟩

theorem copyCheck_calls (B b : Nat) (bs : List Value) (w : World) (h : Lib.IsBuilder 67 5 B b bs w) :
    Calls Try.prog 66 #[.pointer (some ⟨b, 0, none⟩)] w fun e w' => e = .returned (.tuple #[]) ∧ (Lib.BuilderAt 67 5 B b (.pointer (some ⟨b, 0, none⟩)) bs w' ∧ Below B w w') := by
  rcases h with h | h
  · refine (copyCheck_fresh b w h.cell0 h.shape h.frozen0).mono ?_
    rintro e w' ⟨rfl, rfl⟩
    exact ⟨rfl, h.used _, (Below.refl B w).setCell (p := ⟨b, 0, none⟩) h.1 _⟩
  · refine (copyCheck_used b w h.cell0).mono ?_
    rintro e w' ⟨rfl, rfl⟩
    exact ⟨rfl, h, Below.refl B _⟩

set_option maxHeartbeats 2000000 in
set_option maxRecDepth 100000 in
theorem writeByte_calls (B b : Nat) (bs : List Value) (c : Int) (w : World) (h : Lib.IsBuilder 67 5 B b bs w) (hlen : bs.length + 1 ≤ 140737488355328) (hBw : B ≤ w.heap.size) :
    Calls Try.prog 40 #[.pointer (some ⟨b, 0, none⟩), .int .u8 c] w fun e w' => e = .returned .nilIface ∧ (Lib.BuilderAt 67 5 B b (.pointer (some ⟨b, 0, none⟩)) (bs ++ [.int .u8 c]) w' ∧ Below B w w') := by
  obtain ⟨i0, hi, hz0, hz1, hz2⟩ := info_parts (P := Try.prog) (e := 5) (z := .int .u8 0) (size := 1) (bytes := 1) (by kernel_rfl)
  go_enter Try.func40, Try.ntmps40
  go_wp2_with fail
  refine (copyCheck_calls B b bs _ h).mono ?_
  rintro e w1 ⟨rfl, h1, hb1⟩
  obtain ⟨hB, v, hbk, hown, hne⟩ := h1
  have c0 : w1.cell? ⟨b, 0, none⟩ = some (.pointer (some ⟨b, 0, none⟩)) := by rw [Lib.cell_of_heap hbk]; rfl
  have c1 : w1.cell? ⟨b, 1, none⟩ = some v := by rw [Lib.cell_of_heap hbk]; rfl
  go_wp2_with (at_builtin; refine wpList_append_own _ rfl _ _ 65 rfl B 5 i0 (.int .u8 0) 1 1 Try.underlying65 hi hz0 hz1 hz2 rfl (by decide) _ _ _ rfl (hown.alloc _) ⟨w1.heap.size, 0, none⟩ 1 1 [.int .u8 c] rfl rfl ?c1 ?c2 ?c3 ?c4 ?c5 ?_)
  case c1 =>
    intro j u hj
    match j, hj with
    | 0, hj => simp at hj; subst hj; simp [Addr.add]
  case c2 => intro u hu; simp at hu; subst hu; rfl
  case c3 => unfold maxLen; omega
  case c4 => omega
  case c5 => have := hb1.size; simp; omega
  intro v' w2 hown' hgrow _
  have hlt : b < w1.heap.size := by
    rcases Nat.lt_or_ge b w1.heap.size with h' | h'
    · exact h'
    · simp [Array.getElem?_eq_none h'] at hbk
  have hb2 : w2.heap[b]? = some (.cells #[.pointer (some ⟨b, 0, none⟩), v] 67 (0, 0)) := by
    rw [hgrow.block b (by simp; omega) (fun e => hne e.symm), Lib.alloc_old w1 _ b hlt]
    exact hbk
  have d0 : w2.cell? ⟨b, 0, none⟩ = some (.pointer (some ⟨b, 0, none⟩)) := by rw [Lib.cell_of_heap hb2]; rfl
  have d1 : w2.cell? ⟨b, 1, none⟩ = some v := by rw [Lib.cell_of_heap hb2]; rfl
  have f1 : w2.frozen? ⟨b, 1, none⟩ = false := Lib.frozen_of_heap hb2 1
  obtain ⟨g, cap, rfl⟩ : ∃ g cap, v' = .slice (some ⟨g, 0, none⟩) (bs.length + 1) cap := by
    rcases hown'.2 with ⟨_, h0⟩ | ⟨g, cap, cur, hv, _⟩
    · omega
    · exact ⟨g, cap, hv⟩
  go_wp2
  go_ret
  refine ⟨rfl, ?_, ?_⟩
  · exact Lib.BuilderAt.put (T := 67) (e := 5) hB hb2 (bs' := bs ++ [.int .u8 c]) (by simpa using hown') (by decide)
  · exact ((hb1.alloc (by have := hb1.size; omega) _).grown hgrow (by have := hb1.size; simp; omega) (fun k hk => (hown.lt k hk).1)).setCell (p := ⟨b, 1, none⟩) hB _
end Go.Proofs.Ytnlekganlliikaa.X
-- part XGives
namespace Go.Proofs.Ytnlekganlliikaa.X
open Go.RowKit Go.Proofs.YtnlekganlliikaaW.PrintWords Go.Proofs.YtnlekganlliikaaW.PrintLast Go.Proofs.YtnlekganlliikaaW.PrintMore
set_option linter.unusedVariables false
set_option linter.unusedSimpArgs false
section
variable {α β : Type} {f g : Nat → Option α} {c : Nat → Option β} {r r' : α} {t : β}
/-- With rounds enough it tells r. -/
def Gives (f : Nat → Option α) (r : α) : Prop := ∃ K, ∀ k, K ≤ k → f k = some r
theorem Gives.of (h : ∀ k, f (k + 1) = some r) : Gives f r := ⟨1, fun k hk => by obtain ⟨j, rfl⟩ : ∃ j, k = j + 1 := ⟨k - 1, by omega⟩; exact h j⟩
theorem Gives.step (hg : Gives g r) (h : ∀ k, f (k + 1) = g k) : Gives f r := by
  obtain ⟨K, hK⟩ := hg
  exact ⟨K + 1, fun k hk => by obtain ⟨j, rfl⟩ : ∃ j, k = j + 1 := ⟨k - 1, by omega⟩; rw [h j]; exact hK j (by omega)⟩
theorem Gives.same (hg : Gives g r) (h : ∀ k, f k = g k) : Gives f r := by
  obtain ⟨K, hK⟩ := hg
  exact ⟨K, fun k hk => by rw [h k]; exact hK k hk⟩
theorem Gives.call (hc : Gives c t) (hg : Gives g r) (h : ∀ k, c k = some t → f (k + 1) = g k) : Gives f r := by
  obtain ⟨K, hK⟩ := hg
  obtain ⟨C, hC⟩ := hc
  exact ⟨K + C + 1, fun k hk => by obtain ⟨j, rfl⟩ : ∃ j, k = j + 1 := ⟨k - 1, by omega⟩; rw [h j (hC j (by omega))]; exact hK j (by omega)⟩
theorem Gives.call0 (hc : Gives c t) (hg : Gives g r) (h : ∀ k, c k = some t → f k = g k) : Gives f r := by
  obtain ⟨K, hK⟩ := hg
  obtain ⟨C, hC⟩ := hc
  exact ⟨K + C, fun k hk => by rw [h k (hC k (by omega))]; exact hK k (by omega)⟩
theorem Gives.last (hc : Gives c t) (h : ∀ k, c k = some t → f (k + 1) = some r) : Gives f r := by
  obtain ⟨C, hC⟩ := hc
  exact ⟨C + 1, fun k hk => by obtain ⟨j, rfl⟩ : ∃ j, k = j + 1 := ⟨k - 1, by omega⟩; exact h j (hC j (by omega))⟩
theorem Gives.last0 (hc : Gives c t) (h : ∀ k, c k = some t → f k = some r) : Gives f r := by
  obtain ⟨C, hC⟩ := hc
  exact ⟨C, fun k hk => h k (hC k hk)⟩
theorem Gives.eq (h : Gives f r) (e : r = r') : Gives f r' := e ▸ h
end
theorem gw {x : Int} (h : -9223372036854775808 ≤ x) (h2 : x < 9223372036854775808) : wrap64 x = x := by
  unfold wrap64
  omega
theorem gw1 {i : Nat} (h : i < 4611686018427387904) : wrap64 ((i : Int) + 1) = ((i + 1 : Nat) : Int) := by
  rw [gw (by omega) (by omega)]; omega
theorem getN {α : Type} {d : α} {L : List α} {i : Nat} (h : i < L.length) : L.getD (i : Int).toNat d = L[i] := by
  simp [h]
theorem rdOfN {α : Type} {d : α} {L : List α} {i : Nat} (h : i < L.length) : rdOf d L (i : Int) = L[i] := by
  simp [rdOf, h]
theorem rdN {L : List Int} {i : Nat} (h : i < L.length) : rd L (i : Int) = L[i] := by
  simp [rd, h]
theorem strEq {a b : ByteArray} : a.toList = b.toList ↔ a = b := by
  constructor
  · intro h
    rw [Lib.toList_data, Lib.toList_data] at h
    exact ByteArray.ext (Array.toList_inj.1 h)
  · rintro rfl; rfl
theorem dropCons {α : Type} {l : List α} {i : Nat} (h : i < l.length) : l.drop i = l[i] :: l.drop (i + 1) := List.drop_eq_getElem_cons h
/-- What came in, told with all that it may lie in. -/
theorem V_of_C {α : Type} {d : Kd α} (hd : Kd.Heap d) {e base c : Nat} {w : World} {A : Option Addr} {xs : List α} (h : d.C w A xs.length xs) (hc : xs.length ≤ c) : Kd.V d e w base (fun _ => True) (.slice A xs.length c) xs :=
  Kd.V_mk hc (fun W' hW => hd.C (fun k hk => hW k trivial hk) h)
end Go.Proofs.Ytnlekganlliikaa.X
-- part XRef02
namespace Go.Proofs.Ytnlekganlliikaa.X
open Go.RowKit Go.Proofs.YtnlekganlliikaaW.PrintWords Go.Proofs.YtnlekganlliikaaW.PrintLast Go.Proofs.YtnlekganlliikaaW.PrintMore
set_option linter.unusedVariables false
set_option linter.unusedSimpArgs false
/-- So many texts, of 100 bytes, at most. -/
def fewB (l : List ByteArray) (n : Nat) : Bool := decide (l.length ≤ n ∧ ∀ s ∈ l, s.size ≤ 100)
theorem ref_few01_l0 (l : List ByteArray) (n : Nat) (hn : n ≤ 1000000) : ∀ (r i k : Nat), i + r = n + 1 → 2 * r + 2 ≤ k → sennitref01_Few.l0 k l (n : Int) (i : Int) = some (decide (l.length ≤ n ∧ ∀ s ∈ l.drop i, s.size ≤ 100))
  | 0, i, k + 2, hi, hk => by
    have e : ((l.length : Int) ≤ (n : Int)) = (l.length ≤ n) := by simp
    rw [sennitref01_Few.l0]
    by_cases h : (i : Int) < l.length
    · rw [if_pos h, decide_eq_false (show ¬ ((i : Int) ≤ (n : Int)) by omega), sennitref01_Few.j1, if_neg (by decide), decide_eq_false (by omega), decide_eq_false (by omega)]
    · rw [if_neg h, sennitref01_Few.j1, if_neg (by decide), List.drop_of_length_le (by omega)]
      simp
  | r + 1, i, k + 2, hi, hk => by
    rw [sennitref01_Few.l0]
    by_cases h : (i : Int) < l.length
    · have hd : l.drop i = l[i] :: l.drop (i + 1) := List.drop_eq_getElem_cons (by omega)
      rw [if_pos h, decide_eq_true (show ((i : Int) ≤ (n : Int)) by omega), sennitref01_Few.j1, if_pos rfl, if_pos (by omega), if_pos h, rdOfN (by omega), hd]
      by_cases h2 : 100 < l[i].size
      · rw [if_pos (by omega), decide_eq_false]
        rintro ⟨_, h3⟩
        have := h3 l[i] List.mem_cons_self
        omega
      · rw [if_neg (by omega), gw1 (by omega)]
        have := ref_few01_l0 l n hn r (i + 1) k (by omega) (by omega)
        rw [this]
        simp only [List.forall_mem_cons, show l[i].size ≤ 100 from by omega, true_and]
    · rw [if_neg h, sennitref01_Few.j1, if_neg (by decide), List.drop_of_length_le (by omega)]
      simp
theorem ref_few01 (l : List ByteArray) (n : Nat) (hn : n ≤ 1000000) : Gives (fun k => sennitref01_Few.f k l (n : Int)) (fewB l n) :=
  ⟨2 * (n + 1) + 2, fun k hk => by
    have := ref_few01_l0 l n hn (n + 1) 0 k (by omega) hk
    simpa [sennitref01_Few.f, fewB] using this⟩

theorem ref_id_l0 (t : List ByteArray) (s : ByteArray) (ht : t.length ≤ 1000000) : ∀ (r i : Nat), i + r = t.length → Gives (fun k => sennitref02_Id.l0 k t s (i : Int)) (if place s (t.drop i) < (t.drop i).length then t else t ++ [s], ((i + place s (t.drop i) : Nat) : Int))
  | 0, i, hi => Gives.of fun k => by
    show sennitref02_Id.l0 (k + 1) t s (i : Int) = _
    rw [sennitref02_Id.l0, if_neg (by omega), List.drop_of_length_le (by omega)]
    simp only [Option.bind_some, List.nil_append, List.length_nil, Nat.zero_add]
    rw [if_pos (by omega), if_pos (by omega), if_neg (by simp [place])]
    simp [place]; omega
  | r + 1, i, hi => by
    have ha := dropCons (l := t) (i := i) (by omega)
    by_cases e : t[i] = s
    · refine Gives.of fun k => ?_
      show sennitref02_Id.l0 (k + 1) t s (i : Int) = _
      rw [sennitref02_Id.l0, if_pos (by omega), if_pos (by omega), rdOfN (by omega), if_pos (strEq.2 e), ha]
      simp [place, e]
    · refine ((ref_id_l0 t s ht r (i + 1) (by omega)).eq ?_).step fun k => ?_
      · rw [ha]; simp only [place, if_neg e, List.length_cons]
        congr 1
        · by_cases h : place s (t.drop (i + 1)) < (t.drop (i + 1)).length
          · rw [if_pos h, if_pos (by omega)]
          · rw [if_neg h, if_neg (by omega)]
        · omega
      · show sennitref02_Id.l0 (k + 1) t s (i : Int) = _
        rw [sennitref02_Id.l0, if_pos (by omega), if_pos (by omega), rdOfN (by omega), if_neg (fun h => e (strEq.1 h)), gw1 (by omega)]
theorem ref_id (t : List ByteArray) (s : ByteArray) (ht : t.length ≤ 1000000) : Gives (fun k => sennitref02_Id.f k t s) (addT t s, ((place s t : Nat) : Int)) := by
  refine ((ref_id_l0 t s ht t.length 0 (by omega)).eq ?_).same fun k => rfl
  simp [addT]
theorem ref_all_l1 (files : List (List ByteArray)) (i : Nat) (hi : i < files.length) (hf : files.length ≤ 1000) (hl : files[i].length ≤ 100000) (out : List (List Int)) (ho : out.length ≤ 1000) (R : List (List Int)) (T : List ByteArray) (ht : (idsOne T files[i]).1.length ≤ 1000000)
    (hR : Gives (fun k => sennitref02_All.l0 k files (out ++ [(idsOne T files[i]).2]) (idsOne T files[i]).1 ((i + 1 : Nat) : Int)) R) :
    ∀ (r j : Nat), j + r = files[i].length → Gives (fun k => sennitref02_All.l1 k files out (idsOne T (files[i].take j)).1 (i : Int) (idsOne T (files[i].take j)).2 (j : Int)) R
  | 0, j, hj => hR.step fun k => by
    show sennitref02_All.l1 (k + 1) files out _ (i : Int) _ (j : Int) = _
    have e : rd_L1 files (i : Int) = files[i] := getN hi
    rw [sennitref02_All.l1, if_pos (by omega), if_pos (by omega), e, if_neg (by omega), if_pos (by omega), gw1 (by omega), List.take_of_length_le (by omega)]
  | r + 1, j, hj => by
    have e : rd_L1 files (i : Int) = files[i] := getN hi
    have hjl : j < files[i].length := by omega
    have tk : files[i].take (j + 1) = files[i].take j ++ [files[i][j]] := (List.take_append_getElem hjl).symm
    have ih := ref_all_l1 files i hi hf hl out ho R T ht hR r (j + 1) (by omega)
    rw [tk, idsOne_snoc] at ih
    have hle : (idsOne T (files[i].take j)).1.length ≤ 1000000 := by
      have : ∀ (t l k : List ByteArray), (idsOne t l).1.length ≤ (idsOne t (l ++ k)).1.length := by
        intro t l
        induction l generalizing t with
        | nil =>
          intro k
          induction k generalizing t with
          | nil => exact Nat.le_refl _
          | cons s k ih => exact Nat.le_trans (addT_length t s).1 (ih (addT t s))
        | cons s l ih => intro k; exact ih (addT t s) k
      have h2 := this T (files[i].take j) (files[i].drop j)
      rw [List.take_append_drop] at h2
      omega
    refine Gives.call (ref_id _ files[i][j] hle) ih fun k hk => ?_
    show sennitref02_All.l1 (k + 1) files out _ (i : Int) _ (j : Int) = _
    have hs : (idsOne T (files[i].take j)).2.length = j := by rw [idsOne_length, List.length_take]; omega
    rw [sennitref02_All.l1, if_pos (by omega), if_pos (by omega), e, if_pos (by omega), if_pos (by omega), rdOfN hjl, hk, Option.bind_some, if_pos (by omega), gw1 (by omega)]
theorem ref_all_l0 (files : List (List ByteArray)) (hf : files.length ≤ 1000) (hl : ∀ l ∈ files, l.length ≤ 100000) (ht : (files.map List.length).sum ≤ 1000000) :
    ∀ (r i : Nat), i + r = files.length → Gives (fun k => sennitref02_All.l0 k files (idsMany [] (files.take i)) (tabOf [] (files.take i)) (i : Int)) (idsMany [] files)
  | 0, i, hi => Gives.of fun k => by
    show sennitref02_All.l0 (k + 1) files _ _ (i : Int) = _
    rw [sennitref02_All.l0, if_neg (by omega), List.take_of_length_le (by omega)]
  | r + 1, i, hi => by
    have hil : i < files.length := by omega
    have tk : files.take (i + 1) = files.take i ++ [files[i]] := (List.take_append_getElem hil).symm
    have ih := ref_all_l0 files hf hl ht r (i + 1) (by omega)
    rw [tk, idsMany_snoc, tabOf_snoc] at ih
    have hsum : (idsOne (tabOf [] (files.take i)) files[i]).1.length ≤ 1000000 := by
      have h1 := idsOne_table_le (tabOf [] (files.take i)) files[i]
      have h2 : ∀ (t : List ByteArray) (ls : List (List ByteArray)), (tabOf t ls).length ≤ t.length + (ls.map List.length).sum := by
        intro t ls
        induction ls generalizing t with
        | nil => simp [tabOf]
        | cons l ls ih => have a := ih (idsOne t l).1; have b := idsOne_table_le t l; simp only [tabOf, List.map_cons, List.sum_cons]; omega
      have h3 := h2 [] (files.take i)
      have h4 : ((files.take i).map List.length).sum + files[i].length ≤ (files.map List.length).sum := by
        have e : files = files.take i ++ files[i] :: files.drop (i + 1) := by rw [← dropCons hil, List.take_append_drop]
        have := congrArg (fun l => (l.map List.length).sum) e
        simp only [List.map_append, List.sum_append, List.map_cons, List.sum_cons] at this
        omega
      simp only [List.length_nil] at h3
      omega
    have := ref_all_l1 files i hil hf (hl _ (List.getElem_mem _)) (idsMany [] (files.take i)) (by rw [idsMany_length, List.length_take]; omega) _ _ hsum ih files[i].length 0 (by omega)
    refine this.step fun k => ?_
    show sennitref02_All.l0 (k + 1) files _ _ (i : Int) = _
    rw [sennitref02_All.l0, if_pos (by omega)]
    rfl
theorem ref_all (files : List (List ByteArray)) (hf : files.length ≤ 1000) (hl : ∀ l ∈ files, l.length ≤ 100000) (ht : (files.map List.length).sum ≤ 1000000) : Gives (fun k => sennitref02_All.f k files) (idsAll files) :=
  (ref_all_l0 files hf hl ht files.length 0 (by omega)).same fun k => rfl
end Go.Proofs.Ytnlekganlliikaa.X
-- part XLcs1
namespace Go.Proofs.Ytnlekganlliikaa.X
open Go.RowKit Go.Proofs.YtnlekganlliikaaW.PrintWords Go.Proofs.YtnlekganlliikaaW.PrintLast Go.Proofs.YtnlekganlliikaaW.PrintMore
set_option linter.unusedVariables false
set_option linter.unusedSimpArgs false
theorem C_none {α : Type} {d : Kd α} {w : World} {n : Nat} {xs : List α} (h : Kd.C d w none n xs) : n = 0 ∧ xs = [] := by
  have h1 := h.1
  rcases Nat.eq_zero_or_pos n with h0 | h0
  · subst h0
    exact ⟨rfl, List.length_eq_zero_iff.1 h1⟩
  · obtain ⟨ad, e, _⟩ := h.2.2 h0
    cases e

set_option maxHeartbeats 4000000 in
set_option maxRecDepth 100000 in
theorem slices_Clone_int.calls (A0 : Option Addr) (c0 : Nat) (l0 : List Int) (w : World) (hr0 : Kd.C (Kd.int .i64) w A0 l0.length l0) (hc0 : l0.length ≤ c0) (hb : l0.length < 17592186044416) :
    Calls Try.prog 56 #[.slice A0 l0.length c0] w fun e w' => ∃ v0_ : Value, e = .returned v0_ ∧ Kd.R (Kd.int .i64) 3 w' w.heap.size (fun _ => True) v0_ l0 ∧ Below w.heap.size w w' := by
  have q22 : ∀ (w : World) (a : Option Addr) (n c n' c' : Nat), (binOp .eql 49 (.slice a n c) (.slice none n' c')).run Try.prog w = .ok (.bool a.isNone) w := fun w a n c n' c' => Lib.run_eql_slice_nil w _ _ a n c n' c' Try.underlying49
  cases A0 with
  | none =>
    obtain ⟨h0, rfl⟩ := C_none hr0
    clear hr0 hb h0
    go_enter Try.func56, Try.ntmps56
    go_wp2
    go_ret
    exact ⟨_, rfl, Kd.R_nil _ _ _ _ _, Below.refl _ _⟩
  | some ad =>
    have HR0 := Aside0.mk hr0
    have HB := Aside0.mk (Below.refl w.heap.size w)
    clear hr0 hc0
    have Hb := Lib.hid hb
    clear hb
    go_enter Try.func56, Try.ntmps56
    go_wp2_with (first | ((with_reducible refine gate_dst (N := 5) rfl ?_); refine Kd.R_lit (Kd.int .i64) _ 3 ?hg (N := 5) ?hd (xs := ([] : List Int)) (inner := []) (ok := fun _ => True) (okp := fun _ => True) ?hr ?hp (fun _ hk => hk) trivial (Below.refl _ _) (Nat.le_refl _) (by simp) ?_; (case hd => rfl); (case hg => rfl); (case hr => first | (go_simp; done) | (go_simp; rfl)); (case hp => exact Reps.none _ _); intro v1 w1 ho_ hb_ hg_ hnew_; have n0_ := Aside0.mk (Kd.R_lower ho_ (below_size (by repeat (first | (with_reducible first | exact HB.out | apply below_alloc | apply pw_below_drewN | apply below_drew1) | exact HB.out)))); have n1_ := Aside0.mk (below_step (by repeat (first | (with_reducible first | exact HB.out | apply below_alloc | apply pw_below_drewN | apply below_drew1) | exact HB.out)) hb_); clear HB; have HO1 := n0_; have HB := n1_; clear n0_ n1_; clear hb_ ho_ hg_ hnew_) | ((with_reducible refine gate_builtin (b := .append) (xs := #[.tmp 5, .tmp 6]) rfl ?_); at_builtin; refine Kd.R_append_rows (Kd.int .i64) (w0 := w) w.heap.size rfl (.tmp 5) (.tmp 6) 49 3 (.int .i64 0) 8 rfl Try.underlying49 info3 rfl (by decide) (by omega) v1 [] l0 _ _ _ (fun _ => True) (fun _ => False) rfl rfl ?aO ?aR (fun _ _ h => h) (fun _ h => h.elim) ?aF ?aB ?aS ?aL ?_; (case aR => repeat (first | exact (Kd.C_below HR0.out HB.out) | (with_reducible refine Kd.C_alloc ?_ _) | (with_reducible refine Kd.C_drewN ?_ _) | (with_reducible refine Kd.C_drew ?_))); (case aB => exact (by repeat (first | (with_reducible first | exact HB.out | apply below_alloc | apply pw_below_drewN | apply below_drew1) | exact HB.out))); (case aF => exact (fun _ _ => trivial)); (case aO => exact (by (with_reducible repeat (first | apply Kd.R_alloc | apply Kd.R_drewN | apply Kd.R_drew)); exact HO1.out)); (case aS => exact (below_size (by repeat (first | (with_reducible first | exact HB.out | apply below_alloc | apply pw_below_drewN | apply below_drew1) | exact HB.out)))); (case aL => (have := Hb.out; simp; omega)); intro v2 w2 ho_ hb_ hg_ hat_; have n0_ := Aside0.mk (hb_); have n1_ := Aside0.mk (ho_); clear HB; clear HO1; have HB := n0_; have HO2 := n1_; clear n0_ n1_; clear ho_ hb_ hg_ hat_))
    go_ret
    exact ⟨_, rfl, HO2.out, HB.out⟩
end Go.Proofs.Ytnlekganlliikaa.X
-- part XLcs2
namespace Go.Proofs.Ytnlekganlliikaa.X
open Go.RowKit Go.Proofs.YtnlekganlliikaaW.PrintWords Go.Proofs.YtnlekganlliikaaW.PrintLast Go.Proofs.YtnlekganlliikaaW.PrintMore
set_option linter.unusedVariables false
set_option linter.unusedSimpArgs false
/-- A pair's block: the lists, the Once (done, its lock), the steps, how many. -/
def pairCells (sa sb st : Value) (d long : Int) : Array Value := #[sa, sb, .int .u32 d, .int .i32 0, .int .u32 0, st, .int .i64 long]
/-- g is the block of a pair of the lists a and b, made since base; reckoned or not. -/
def IsPair (W : World) (base g : Nat) (a b : List Int) : Prop :=
  base ≤ g ∧ ∃ sa sb st d long, W.heap[g]? = some (.cells (pairCells sa sb st d long) 103 (0, 0)) ∧ Kd.R (Kd.int .i64) 3 W base (fun k => k ≠ g) sa a ∧ Kd.R (Kd.int .i64) 3 W base (fun k => k ≠ g) sb b ∧ a.length ≤ 2000 ∧ b.length ≤ 2000 ∧
    ((d = 0 ∧ st = .slice none 0 0 ∧ long = 0) ∨ (d = 1 ∧ Kd.R (Kd.int .u8) 5 W base (fun k => k ≠ g) st (stepsOf a b) ∧ long = lcsL a b))

set_option maxHeartbeats 4000000 in
set_option maxRecDepth 100000 in
theorem lcs_New_long (A0 : Option Addr) (c0 : Nat) (l0 : List Int) (A1 : Option Addr) (c1 : Nat) (l1 : List Int) (w : World) (h0 : l0.length ≤ 9223372036854775807) (h1 : l1.length ≤ 9223372036854775807) (hl : 2000 < l0.length ∨ 2000 < l1.length) :
    Calls Try.prog 31 #[.slice A0 l0.length c0, .slice A1 l1.length c1] w fun e w' => e = .returned (.tuple #[.pointer none, .int .i64 4]) ∧ w' = w := by
  by_cases h : 2000 < l0.length
  · have c1 : decide ((2000 : Int) < (l0.length : Int)) = true := decide_eq_true (by omega)
    have c2 : decide (2000 < l0.length) = true := decide_eq_true h
    clear hl h
    go_enter Try.func31, Try.ntmps31
    go_wp2
    go_ret2
    exact ⟨rfl, rfl⟩
  · have c1 : decide ((2000 : Int) < (l0.length : Int)) = false := decide_eq_false (by omega)
    have c2 : decide (2000 < l0.length) = false := decide_eq_false h
    have c3 : decide ((2000 : Int) < (l1.length : Int)) = true := decide_eq_true (by omega)
    have c4 : decide (2000 < l1.length) = true := decide_eq_true (by omega)
    clear hl h
    go_enter Try.func31, Try.ntmps31
    go_wp2
    go_ret2
    exact ⟨rfl, rfl⟩

set_option maxHeartbeats 4000000 in
set_option maxRecDepth 100000 in
theorem lcs_New_ok (A0 : Option Addr) (c0 : Nat) (l0 : List Int) (A1 : Option Addr) (c1 : Nat) (l1 : List Int) (w : World) (hr0 : Kd.C (Kd.int .i64) w A0 l0.length l0) (hc0 : l0.length ≤ c0) (hr1 : Kd.C (Kd.int .i64) w A1 l1.length l1) (hc1 : l1.length ≤ c1) (h0 : l0.length ≤ 2000) (h1 : l1.length ≤ 2000) :
    Calls Try.prog 31 #[.slice A0 l0.length c0, .slice A1 l1.length c1] w fun e w' => ∃ g : Nat, e = .returned (.tuple #[.pointer (some ⟨g, 0, none⟩), .int .i64 0]) ∧ IsPair w' w.heap.size g l0 l1 ∧ Below w.heap.size w w' := by
  have HR0 := Aside0.mk hr0
  have HC0 := Aside0.mk hc0
  have HR1 := Aside0.mk hr1
  have HC1 := Aside0.mk hc1
  clear hr0 hc0 hr1 hc1
  have d1 : decide ((2000 : Int) < (l0.length : Int)) = false := decide_eq_false (by omega)
  have d2 : decide (2000 < l0.length) = false := decide_eq_false (by omega)
  have d3 : decide ((2000 : Int) < (l1.length : Int)) = false := decide_eq_false (by omega)
  have d4 : decide (2000 < l1.length) = false := decide_eq_false (by omega)
  go_enter Try.func31, Try.ntmps31
  go_wp2_with fail
  refine (slices_Clone_int.calls A0 c0 l0 _ HR0.out HC0.out (by omega)).mono ?_
  rintro e w1 ⟨v1, rfl, ho1, hb1⟩
  obtain ⟨Av1, cv1, rfl⟩ := Kd.R_slice ho1
  have HO1 := Aside0.mk ho1
  have HB1 := Aside0.mk hb1
  clear ho1 hb1
  go_wp2_with fail
  refine (slices_Clone_int.calls A1 c1 l1 _ (Kd.C_below HR1.out HB1.out) HC1.out (by omega)).mono ?_
  rintro e w2 ⟨v2, rfl, ho2, hb2⟩
  obtain ⟨Av2, cv2, rfl⟩ := Kd.R_slice ho2
  have HO2 := Aside0.mk ho2
  have HB2 := Aside0.mk hb2
  clear ho2 hb2
  go_wp2
  go_ret2
  have hB : Below w.heap.size w w2 := below_step HB1.out HB2.out
  have ho1 := Kd.R_mono (Kd.R_bound (Kd.R_below HO1.out HB2.out)) (ok' := fun k => k ≠ w2.heap.size) (fun k hk => by have := hk.2.2.1; omega)
  have ho2 := Kd.R_mono (Kd.R_bound (Kd.R_lower HO2.out HB1.out.size)) (ok' := fun k => k ≠ w2.heap.size) (fun k hk => by have := hk.2.2.1; omega)
  refine ⟨w2.heap.size, rfl, ⟨hB.size, _, _, _, _, _, blk_new _ _, Kd.R_alloc ho1 _, Kd.R_alloc ho2 _, h0, h1, .inl ⟨rfl, rfl, rfl⟩⟩, below_alloc hB _⟩
end Go.Proofs.Ytnlekganlliikaa.X
-- part XGap1
namespace Go.Proofs.Ytnlekganlliikaa.X
open Go.RowKit Go.Proofs.YtnlekganlliikaaW.PrintWords Go.Proofs.YtnlekganlliikaaW.PrintLast Go.Proofs.YtnlekganlliikaaW.PrintMore
set_option linter.unusedVariables false
set_option linter.unusedSimpArgs false
abbrev RowG := List Int × ByteArray
abbrev kM : Kd (List Int) := Kd.arr 16 (Kd.int .u8) (by decide)
abbrev kRow : Kd RowG := Kd.pair kM Kd.string
def rowCells (x : RowG) : List Value := x.1.map (Value.int .u8) ++ [.string x.2]
theorem kRow_K {w : World} {x : RowG} {cs : List Value} : kRow.K w x cs ↔ x.1.length = 16 ∧ cs = rowCells x := by
  constructor
  · rintro ⟨c0, c1, rfl, h0, h1⟩
    obtain ⟨h2, h3⟩ := Kd.arr_cells (enc := Value.int .u8) (h1 := fun _ => rfl) (hs := by decide) h0
    exact ⟨h2, by rw [h3, show c1 = _ from h1]; rfl⟩
  · rintro ⟨h1, rfl⟩
    exact ⟨_, _, rfl, (Kd.arr 16 (Kd.int .u8) (by decide)).K_of_M (base := 0) (ok := fun _ => True) (Kd.arr_of_cells (enc := Value.int .u8) (h1 := fun _ => rfl) (hs := by decide) h1), rfl⟩
theorem kRow_M {w : World} {base : Nat} {ok : Nat → Prop} {x : RowG} (h : x.1.length = 16) : kRow.M w base ok x (rowCells x) :=
  ⟨_, _, rfl, Kd.arr_of_cells (enc := Value.int .u8) (h1 := fun _ => rfl) (hs := by decide) h, rfl⟩
theorem rowCells_len {x : RowG} (h : x.1.length = 16) : (rowCells x).length = 17 := by simp [rowCells, h]
theorem rowCells_text {x : RowG} (h : x.1.length = 16) : (rowCells x)[16]? = some (.string x.2) := by
  rw [rowCells, List.getElem?_append_right (by simp [h])]; simp [h]
theorem rowCells_one {x : RowG} : (rowCells x).toArray.all (·.oneCell') = true := by
  simp [rowCells, Value.oneCell']
theorem add0_ (g o : Nat) : (⟨g, 0, none⟩ : Addr).add o = ⟨g, o, none⟩ := by unfold Addr.add; split <;> simp_all
/-- An element that is a row: its cells. -/
theorem at_row {w : World} {g : Nat} {n : Nat} {rs : List RowG} (h : kRow.C w (some ⟨g, 0, none⟩) n rs) (i : Nat) (hi : i < n) :
    (rs.getD i ([], ByteArray.empty)).1.length = 16 ∧ w.rangeAt g (i * 17) (rowCells (rs.getD i ([], ByteArray.empty))) := by
  obtain ⟨ad, c, e1, e2, e3, e4⟩ := ReadsRow.get_ h ([], ByteArray.empty) (i : Int) (by omega) (by omega)
  cases e1
  rw [Int.toNat_natCast] at e3 e4
  obtain ⟨h1, rfl⟩ := kRow_K.1 e3
  refine ⟨h1, fun j v hj => ?_⟩
  have := e4 j v hj
  rwa [show kRow.sz = 17 from rfl, add0_] at this
theorem range_below {w W : World} {b : Nat} {o : Nat} {cs : List Value} (h : w.rangeAt b o cs) (hb : Below w.heap.size w W) : W.rangeAt b o cs := fun j v hj => (hb.cell (World.block_lt_of_cell? w _ (h j v hj))).trans (h j v hj)
/-- A whole struct into the block that was made last. -/
theorem wpList_store_new {P : Program} {ops : Array Oper} {rest : List Oper} {o : Oper} {a : Act} {w : World} {Q : Exit → Act → World → Prop} (hgd : o.guard = none) (t : TypeId) (p : Tmp) (x : Operand) (ho : o.op = .store t (.tmp p) x) (hN : o.dst = none)
    {b : Nat} (hb : b = w.heap.size) (hp : a.eval (.tmp p) = .pointer (some ⟨b, 0, none⟩)) {c c' : Array Value} (hx : a.eval x = .agg c') (hi : (P.info? t).map (·.size) = some c'.size) (hs : c.size = c'.size) (h1 : c'.all (·.oneCell') = true)
    (h : wpList P ops Q rest a (w.alloc (.cells c' t))) : wpList P ops Q (o :: rest) a (w.alloc (.cells c t)) := by
  subst hb
  refine store_event hgd ho hN ?_ (fun w' hw => by rw [hw]; exact h)
  simp only [execOp, ho, hp, hx, Sem.run_bind, run_storeAt_new w t c c' hi hs h1, Result.andThen_ok]
  rfl
/-- The rows that there are, behind a pointer. -/
def RowsIn (W : World) (B g : Nat) (rs : List RowG) (e : Int) : Prop :=
  ∃ v, W.heap[g]? = some (.cells #[v, .int .i64 e] 57 (0, 0)) ∧ B ≤ g ∧ Kd.R kRow 63 W B (fun _ => True) v rs
theorem kRow_form {W : World} {B : Nat} {v : Value} {rs : List RowG} (h : Kd.R kRow 63 W B (fun _ => True) v rs) (hp : 0 < rs.length) : ∃ g cap, v = .slice (some ⟨g, 0, none⟩) rs.length cap ∧ rs.length ≤ cap ∧ kRow.C W (some ⟨g, 0, none⟩) rs.length rs := by
  obtain ⟨g, cap, rfl, _⟩ := Kd.R_form h hp
  exact ⟨g, cap, rfl, (Kd.R_reads' h).2.1, (Kd.R_reads' h).2.2⟩

set_option maxRecDepth 100000 in
set_option maxHeartbeats 4000000 in
theorem rows_texts (g B : Nat) (rs : List RowG) (e : Int) (w : World) (h : RowsIn w B g rs e) (hn : rs.length ≤ 1000000) :
    Calls Try.prog 63 #[.pointer (some ⟨g, 0, none⟩)] w fun e w' => ∃ v, e = .returned v ∧ Aside0 (Kd.R Kd.string 9 w' w.heap.size (fun _ => True) v (rs.map (·.2))) ∧ Aside0 (Below w.heap.size w w') := by
  obtain ⟨v, hb, hg, hr⟩ := h
  obtain ⟨A, c, rfl, hc, hC⟩ := Kd.R_reads hr
  have c0 : w.cell? ⟨g, 0, none⟩ = some (.slice A rs.length c) := cell_blk hb rfl
  have HC := Aside0.mk hC
  have HRr := Aside0.mk hr
  have HB := Aside0.mk (Below.refl w.heap.size w)
  clear hb hr hC
  go_enter Try.func63, Try.ntmps63
  go_wp2_with fail
  go_loopw [3, 11] (fun o i wr => ∃ k : Nat, k ≤ rs.length ∧ i = .int .i64 k ∧ Aside0 (Kd.R Kd.string 9 wr w.heap.size (fun _ => True) o ((rs.take k).map (·.2))) ∧ Aside0 (Below w.heap.size w wr)) (fun _ i _ => rs.length - (intOf i).toNat)
  case atStart => exact ⟨0, Nat.zero_le _, rfl, ⟨Kd.R_nil _ _ _ _ _⟩, HB⟩
  case round =>
    obtain ⟨k, hk, rfl, HO, HBr⟩ := hrel
    by_cases hlt : k < rs.length
    · obtain ⟨gb, cap, hev, _⟩ := kRow_form HRr.out (by omega)
      injection hev with e1 e2 e3
      subst e1; subst e3
      clear e2
      obtain ⟨h16, hrg⟩ := at_row HC.out k hlt
      have hsn : (rs.take (k + 1)).map (·.2) = (rs.take k).map (·.2) ++ [(rs.getD k ([], ByteArray.empty)).2] := by
        rw [← List.take_append_getElem hlt, List.map_append]
        simp only [getD_get hlt]; rfl
      have HSN := Aside0.mk hsn
      clear hsn
      obtain ⟨x, hx⟩ : ∃ x, rs.getD k ([], ByteArray.empty) = x := ⟨_, rfl⟩
      rw [hx] at h16 hrg HSN
      have HRG := Aside0.mk (range_below hrg HBr.out)
      have hall := Aside0.mk (rowCells_one (x := x))
      have h16c := rowCells_text h16
      have h16d : (rowCells x).toArray[16]? = some (.string x.2) := by simpa using h16c
      have hsz := Aside0.mk (rowCells_len h16)
      clear hrg hx
      obtain ⟨Ao, co, rfl⟩ := Kd.R_slice HO.out
      have HZ : Aside0 (((rs.take k).map (·.2)).length = k) := ⟨by simp; omega⟩
      rw [HZ.out] at HO
      have h16l := Aside0.mk h16
      clear h16
      obtain ⟨C, hCe⟩ : ∃ C, rowCells x = C := ⟨_, rfl⟩
      rw [hCe] at HRG hall h16c hsz h16d
      clear hCe
      go_wp2_with (first | ((with_reducible refine gate_dst (N := 14) rfl ?_); refine wpList_load_mid rfl 63 _ rfl gb (k * 17) (by rfl) C _ HRG.out Try.underlying63 rfl (by rw [hsz.out]; kernel_rfl) ?_) | ((with_reducible refine gate_store (t := 63) (p := 5) rfl ?_); (refine wpList_store_new rfl 63 5 _ rfl rfl (b := wr.heap.size) rfl rfl (c' := C.toArray) rfl (by rw [List.size_toArray, hsz.out]; kernel_rfl) (by rw [show C.toArray.size = 17 from hsz.out]; rfl) hall.out ?_)) | (at_builtin; (refine Kd.R_append Kd.string (w0 := w) w.heap.size rfl (.tmp 15) (.tmp 18) 34 9 (.string ByteArray.empty) 16 rfl Try.underlying34 info9 rfl (by decide) (by decide) _ _ x.2 [.string x.2] (fun _ => True) (fun _ => False) rfl (congrArg (fun n => Value.slice (some ⟨n, 0, none⟩) 1 1) (show wr.heap.size + 1 = (wr.alloc (.cells C.toArray 63)).heap.size by simp)) rfl (fun _ h => h.elim) (fun _ _ => trivial) (Kd.R_alloc HO.out _) (HBr.out.alloc HBr.out.size _) (by have := HBr.out.size; simp; omega) (by rw [HZ.out]; omega) ?_; intro v3 w3 hr3 hb3 hg3 hat3; obtain ⟨A3, c3, hv3⟩ := Kd.R_slice hr3; subst hv3; have HR3 := Aside0.mk hr3; have HB3 := Aside0.mk hb3; clear hr3 hb3 hg3 hat3)))
      go_roundw
      case measure => simp [intOf]; omega
      case rel =>
        have hr3 := HR3.out
        have hz3 : ((rs.take k).map (·.2) ++ [x.2]).length = k + 1 := by rw [List.length_append, HZ.out]; rfl
        rw [hz3] at hr3
        refine ⟨k + 1, by omega, by go_num, ⟨?_⟩, HB3⟩
        rw [HSN.out]
        exact hr3
    · have hk' : k = rs.length := by omega
      subst hk'
      rw [List.take_length] at HO
      go_wp2
      go_ret
      exact ⟨_, rfl, HO, HBr⟩
end Go.Proofs.Ytnlekganlliikaa.X
-- part XGap2
namespace Go.Proofs.Ytnlekganlliikaa.X
open Go.RowKit Go.Proofs.YtnlekganlliikaaW.PrintWords Go.Proofs.YtnlekganlliikaaW.PrintLast Go.Proofs.YtnlekganlliikaaW.PrintMore
set_option linter.unusedVariables false
set_option linter.unusedSimpArgs false
theorem rowCells_get {x : RowG} {j : Nat} (h : j < x.1.length) : (rowCells x)[j]? = some (.int .u8 x.1[j]) := by
  rw [rowCells, List.getElem?_append_left (by simpa using h)]; simp [h]
theorem rowCells_set {x : RowG} {j : Nat} (h : j < x.1.length) (v : Int) : (rowCells x).toArray.setIfInBounds j (.int .u8 v) = (rowCells (x.1.set j v, x.2)).toArray := by
  simp only [rowCells, List.setIfInBounds_toArray]
  rw [List.set_append_left _ _ (by simpa using h), List.map_set]
def noMarks : List Int := List.replicate 16 0
theorem zeroRow_cell {col : Nat} (h : col < 16) (s : ByteArray) : (rowCells (noMarks, s)).toArray[col]? = some (.int .u8 0) := by
  have := rowCells_get (x := (noMarks, s)) (j := col) (by simpa [noMarks] using h)
  rw [List.getElem?_toArray, this]
  simp only [noMarks, List.getElem_replicate]
theorem info_row : (Try.prog.info? 63).map (fun i => (i.zero, i.size, i.bytes)) = some (some (.agg (rowCells (noMarks, ByteArray.empty)).toArray), 17, 32) := by kernel_rfl
theorem size_row {x : RowG} (h : x.1.length = 16) : (Try.prog.info? 63).map (·.size) = some (rowCells x).toArray.size := by
  have e : (Try.prog.info? 63).map (·.size) = some 17 := by kernel_rfl
  rw [e]
  exact congrArg some (rowCells_len h).symm
/-- A row with one mark. -/
def oneRow (col : Nat) (s : ByteArray) : RowG := (noMarks.set col 1, s)
/-- The boxes that 'fresh' has: how far it is, the list, the column, the rows that come. -/
def ComeI (w0 W : World) (B Ba Bl Bc Bo : Nat) (Al : Option Addr) (cl : Nat) (list : List ByteArray) (col at_ : Nat) (rs : List RowG) (v : Value) : Prop :=
  W.heap[Ba]? = some (.cells #[.int .i64 (at_ : Int)] 3 (0, 0)) ∧ W.heap[Bl]? = some (.cells #[.slice Al list.length cl] 34 (0, 0)) ∧ W.heap[Bc]? = some (.cells #[.int .i64 (col : Int)] 3 (0, 0)) ∧
    (W.heap[Bo]? = some (.cells #[v] 55 (0, 0)) ∧ Kd.R kRow 63 W B (fun _ => True) v rs) ∧ Below B w0 W ∧ B ≤ Ba ∧ B ≤ Bo ∧ Ba ≠ Bc
theorem own_eq (A : Option Addr) (n c n' c' : Nat) : (Value.slice A n c).ownBlock = (Value.slice A n' c').ownBlock := by cases A <;> rfl
/-- What 'fresh' leaves: all but its boxes, and the rows that come. -/
def KeepsF (Ba Bo : Nat) (W W' : World) (v v' : Value) : Prop :=
  W.heap.size ≤ W'.heap.size ∧ (∀ k, k < W.heap.size → k ≠ Ba → k ≠ Bo → some k ≠ v.ownBlock → W'.heap[k]? = W.heap[k]?) ∧ (v'.ownBlock = v.ownBlock ∨ ∃ b, v'.ownBlock = some b ∧ W.heap.size ≤ b)
theorem KeepsF.refl (Ba Bo : Nat) (W : World) (v : Value) : KeepsF Ba Bo W W v v := ⟨Nat.le_refl _, fun _ _ _ _ _ => rfl, .inl rfl⟩
theorem KeepsF.trans {Ba Bo : Nat} {W W1 W2 : World} {v v1 v2 : Value} (h : KeepsF Ba Bo W W1 v v1) (k : KeepsF Ba Bo W1 W2 v1 v2) : KeepsF Ba Bo W W2 v v2 := by
  refine ⟨Nat.le_trans h.1 k.1, fun i hi h1 h2 h3 => ?_, ?_⟩
  · refine (k.2.1 i (Nat.lt_of_lt_of_le hi h.1) h1 h2 (fun e => ?_)).trans (h.2.1 i hi h1 h2 h3)
    rcases h.2.2 with h4 | ⟨b, h4, h5⟩
    · exact h3 (e.trans h4)
    · rw [h4] at e; injection e with e; omega
  · rcases k.2.2 with h4 | ⟨b, h4, h5⟩
    · rcases h.2.2 with h6 | ⟨b, h6, h7⟩
      · exact .inl (h4.trans h6)
      · exact .inr ⟨b, h4.trans h6, h7⟩
    · exact .inr ⟨b, h4, Nat.le_trans h.1 h5⟩
theorem KeepsF.below {Ba Bo : Nat} {W W1 : World} {v : Value} (h : Below W.heap.size W W1) : KeepsF Ba Bo W W1 v v := ⟨h.size, fun k hk _ _ _ => h.block k hk, .inl rfl⟩
/-- How far it is, read off the world. -/
def atOf (Ba : Nat) (W : World) : Nat := match W.cell? ⟨Ba, 0, none⟩ with | some (.int _ n) => n.toNat | _ => 0
theorem atOf_of {Ba : Nat} {W : World} {n : Nat} {k : IntKind} (h : W.cell? ⟨Ba, 0, none⟩ = some (.int k (n : Int))) : atOf Ba W = n := by simp [atOf, h]

theorem wpList_store_row {P : Program} {ops : Array Oper} {rest : List Oper} {o : Oper} {a : Act} {w : World} {Q : Exit → Act → World → Prop} (hgd : o.guard = none) (t : TypeId) (p : Tmp) (x : Operand) (ho : o.op = .store t (.tmp p) x) (hN : o.dst = none)
    {b : Nat} (hb : b = w.heap.size) (hp : a.eval (.tmp p) = .pointer (some ⟨b, 0, none⟩)) {c c' : Array Value} (hx : a.eval x = .agg c') (hi : (P.info? t).map (·.size) = some c'.size) (hs : c.size = c'.size) (h1 : c'.all (·.oneCell') = true)
    (h : ∀ w1 : World, w1.heap[w.heap.size]? = some (.cells c' t (0, 0)) → Below w.heap.size w w1 → w.heap.size < w1.heap.size → wpList P ops Q rest a w1) : wpList P ops Q (o :: rest) a (w.alloc (.cells c t)) :=
  wpList_store_new hgd t p x ho hN hb hp hx hi hs h1 (h _ (blk_new _ _) ((Below.refl _ _).alloc (Nat.le_refl _) _) (by simp))
theorem fold_cells : ∀ (c : List Value) (k : Nat) (z : Array Value), k + c.length = z.size → List.foldl (fun (cs : Array Value) (x : Value × Nat) => cs.setIfInBounds x.2 x.1) z (c.zipIdx k) = (z.toList.take k ++ c).toArray
  | [], k, z, h => by simp at h; simp [List.take_of_length_le, h]
  | v :: c, k, z, h => by
    rw [List.zipIdx_cons, List.foldl_cons, fold_cells c (k + 1) (z.setIfInBounds k v) (by simp at h ⊢; omega)]
    congr 1
    have hk : k < z.toList.length := by simp at h ⊢; omega
    rw [Array.toList_setIfInBounds, List.take_succ_eq_append_getElem (by simpa using hk), List.take_set_of_le (Nat.le_refl _), List.getElem_set_self]
    simp
theorem fold_row {x : RowG} (h : x.1.length = 16) : List.foldl (fun (cs : Array Value) (x : Value × Nat) => cs.setIfInBounds x.2 x.1) #[.int .u8 0, .int .u8 0, .int .u8 0, .int .u8 0, .int .u8 0, .int .u8 0, .int .u8 0, .int .u8 0, .int .u8 0, .int .u8 0, .int .u8 0, .int .u8 0, .int .u8 0, .int .u8 0, .int .u8 0, .int .u8 0, .string ⟨#[]⟩] (rowCells x).zipIdx = (rowCells x).toArray := by
  rw [fold_cells _ _ _ (by rw [rowCells_len h]; rfl)]; simp
theorem after_set {w1 w2 : World} {b j : Nat} {v : Value} {cs cs' : Array Value} {t : TypeId} (hw : Aside0 (w2 = w1.setCell ⟨b, j, none⟩ v)) (hb : w1.heap[b]? = some (.cells cs t (0, 0))) (hc : cs.setIfInBounds j v = cs') :
    w2.heap[b]? = some (.cells cs' t (0, 0)) ∧ (∀ k, k ≠ b → w2.heap[k]? = w1.heap[k]?) ∧ w2.heap.size = w1.heap.size := by
  obtain rfl := hw.out
  exact ⟨by rw [heap_set_same hb, hc], fun k hk => heap_set_other hk _, by simp [World.setCell]⟩
theorem below_set {n b j : Nat} {v : Value} {w w1 w2 : World} (h : Below n w w1) (hw : Aside0 (w2 = w1.setCell ⟨b, j, none⟩ v)) (hn : n ≤ b) : Below n w w2 := by
  obtain rfl := hw.out
  exact h.setCell (p := ⟨b, j, none⟩) hn _
theorem blk_ne {W : World} {a b : Nat} {cs cs' : Array Value} {t t' : TypeId} (h : W.heap[a]? = some (.cells cs t (0, 0))) (k : W.heap[b]? = some (.cells cs' t' (0, 0))) (ht : t ≠ t') : a ≠ b := by
  rintro rfl
  rw [h] at k
  cases k
  exact ht rfl
theorem keep4 {W W2 W4 : World} {b : Nat} {o : Obj} {row : Option Nat} (h : W.heap[b]? = some o) (h2 : Below W.heap.size W W2) (h4 : W2.grownBy W4 row) (hne : some b ≠ row) : W4.heap[b]? = some o :=
  have hb := (Array.getElem?_eq_some_iff.1 h).1
  (h4.block b (Nat.lt_of_lt_of_le hb h2.size) hne).trans ((h2.block b hb).trans h)
theorem keep_ {W W1 : World} {b : Nat} {o : Obj} (h : W.heap[b]? = some o) (hb : Below W.heap.size W W1) : W1.heap[b]? = some o := (hb.block b (Array.getElem?_eq_some_iff.1 h).1).trans h
theorem set_keep {W : World} {b g j : Nat} {o : Obj} (h : W.heap[b]? = some o) (hne : b ≠ g) (v : Value) : (W.setCell ⟨g, j, none⟩ v).heap[b]? = some o := (heap_set_other hne v).trans h

set_option maxRecDepth 100000 in
set_option maxHeartbeats 8000000 in
theorem fresh_calls (w0 w : World) (B Ba Bl Bc Bo : Nat) (Al : Option Addr) (cl : Nat) (list : List ByteArray) (col a0 m : Nat) (rs : List RowG) (v0 : Value) (hC : Kd.C Kd.string w0 Al list.length list) (hB : B = w0.heap.size)
    (h : ComeI w0 w B Ba Bl Bc Bo Al cl list col a0 rs v0) (hcol : col < 16) (hto : m ≤ list.length) (ha : a0 ≤ m) (hl : list.length ≤ 100000) (hr : rs.length + list.length ≤ 1000000) :
    Calls Try.prog 64 #[.int .i64 (m : Int), .pointer (some ⟨Ba, 0, none⟩), .pointer (some ⟨Bl, 0, none⟩), .pointer (some ⟨Bc, 0, none⟩), .pointer (some ⟨Bo, 0, none⟩)] w fun e w' => ∃ v', e = .returned (.tuple #[]) ∧
      Aside0 (ComeI w0 w' B Ba Bl Bc Bo Al cl list col m (rs ++ ((list.take m).drop a0).map (oneRow col)) v') ∧ Aside0 (Below B w w') ∧ Aside0 (KeepsF Ba Bo w w' v0 v') := by
  have HC := Aside0.mk hC
  have HI := Aside0.mk h
  have HBw : Aside0 (B ≤ w.heap.size) := ⟨by rw [hB]; exact h.2.2.2.2.1.size⟩
  have HB0 := Aside0.mk hB
  clear hC h hB
  go_enter Try.func64, Try.ntmps64
  go_wp2_with fail
  go_loopw [] (fun wr => ∃ (k : Nat) (v : Value), a0 ≤ k ∧ k ≤ m ∧ Aside0 (ComeI w0 wr B Ba Bl Bc Bo Al cl list col k (rs ++ ((list.take k).drop a0).map (oneRow col)) v) ∧ Aside0 (Below B w wr) ∧ Aside0 (KeepsF Ba Bo w wr v0 v)) (fun wr => list.length - atOf Ba wr)
  case atStart => exact ⟨a0, v0, Nat.le_refl _, ha, by rw [List.drop_of_length_le (by rw [List.length_take]; omega)]; simpa using HI, ⟨Below.refl _ _⟩, ⟨KeepsF.refl _ _ _ _⟩⟩
  case round =>
    obtain ⟨k, v, hak, hk, HIr, HBr, HKr⟩ := hrel
    obtain ⟨h1, h2, h3, ⟨h4, h5⟩, h6, h7, h8, h9⟩ := HIr.out
    have ca : wr.cell? ⟨Ba, 0, none⟩ = some (.int .i64 (k : Int)) := cell_blk h1 rfl
    have H1 := Aside0.mk h1
    have H2 := Aside0.mk h2
    have H3 := Aside0.mk h3
    have H4 := Aside0.mk h4
    have H5 := Aside0.mk h5
    have H6 := Aside0.mk h6
    have H7 := Aside0.mk h7
    have H8 := Aside0.mk h8
    have H9 := Aside0.mk h9
    clear h1 h2 h3 h4 h5 h6 h7 h8 h9
    by_cases hlt : k < m
    · have cl_ : wr.cell? ⟨Bl, 0, none⟩ = some (.slice Al list.length cl) := cell_blk H2.out rfl
      have cc : wr.cell? ⟨Bc, 0, none⟩ = some (.int .i64 (col : Int)) := cell_blk H3.out rfl
      have co : wr.cell? ⟨Bo, 0, none⟩ = some v := cell_blk H4.out rfl
      obtain ⟨ad, rfl, hs⟩ := at_str HC.out k (by omega)
      replace hs := (H6.out.cell (by rw [HB0.out]; exact World.block_lt_of_cell? w0 _ hs)).trans hs
      have hkl : k < list.length := by omega
      have hsn : (list.take (k + 1)).drop a0 = (list.take k).drop a0 ++ [list.getD k ByteArray.empty] := by
        rw [← List.take_append_getElem hkl, List.drop_append_of_le_length (by rw [List.length_take]; omega)]
        simp only [getD_get hkl]
      have HSN := Aside0.mk hsn
      obtain ⟨s, hse⟩ : ∃ s, list.getD k ByteArray.empty = s := ⟨_, rfl⟩
      rw [hse] at hs HSN
      clear hse hsn
      obtain ⟨Ao, co_, rfl⟩ := Kd.R_slice H5.out
      have HZ : Aside0 ((rs ++ ((list.take k).drop a0).map (oneRow col)).length = rs.length + (k - a0)) := ⟨by simp; omega⟩
      obtain ⟨rws, hrw⟩ : ∃ rws, rs ++ ((list.take k).drop a0).map (oneRow col) = rws := ⟨_, rfl⟩
      have HRW := Aside0.mk hrw
      rw [hrw] at co HZ H4 H5
      clear hrw
      obtain ⟨n, hn⟩ : ∃ n, rws.length = n := ⟨_, rfl⟩
      rw [hn] at co HZ H4
      have HN := Aside0.mk hn
      have hH5 := H5.out
      rw [hn] at hH5
      have HR := Aside0.mk hH5
      clear hn hH5
      have hn5 : n ≤ 1000000 := by have := HZ.out; omega
      have b1 : decide ((k : Int) < (m : Int)) = true := decide_eq_true (by omega)
      have b2 : decide (k < m) = true := decide_eq_true hlt
      have e1 : wrap64 ((k : Int) + 1) = (k : Int) + 1 := by unfold wrap64; omega
      have hz16 : ((noMarks, s) : RowG).1.length = 16 := rfl
      have hcn : col < noMarks.length := hcol
      obtain ⟨x, hx⟩ : ∃ x, oneRow col s = x := ⟨_, rfl⟩
      have hx16 : x.1.length = 16 := by rw [← hx]; simp [oneRow, noMarks]
      have HX16 := Aside0.mk hx16
      have hfold := fold_row hx16
      have hl17 := rowCells_len hx16
      have HXE := Aside0.mk hx
      have hset : (rowCells (noMarks, s)).toArray.setIfInBounds col (.int .u8 1) = (rowCells x).toArray := by rw [rowCells_set hcn, ← hx]; rfl
      have HSET := Aside0.mk hset
      clear hset hx hx16 hz16
      go_wp2_with (first
        | ((with_reducible refine gate_store (t := 63) (p := 6) rfl ?_); (refine wpList_store_row rfl 63 6 _ rfl rfl (b := wr.heap.size) rfl rfl (c' := (rowCells (noMarks, s)).toArray) rfl (by kernel_rfl) (by rfl) rowCells_one ?_; intro w1 hb1 hl1 hz1; have cc1 : w1.cell? ⟨Bc, 0, none⟩ = some (.int .i64 (col : Int)) := cell_blk (keep_ H3.out hl1) rfl; have cx1 : w1.cell? ⟨wr.heap.size, col, none⟩ = some (.int .u8 0) := (cell_of_row _ _ _ _ _ _ hb1).trans (zeroRow_cell hcol s); have fx1 : w1.frozen? ⟨wr.heap.size, col, none⟩ = false := frozen_of_row _ _ _ _ _ hb1; have HB1 := Aside0.mk hb1; have HL1 := Aside0.mk hl1; have HZ1 := Aside0.mk hz1; clear hb1 hl1 hz1))
        | ((with_reducible refine gate_store (t := 5) (p := 19) rfl ?_); (refine store_at (t := 5) (p := 19) (v := .const (.int .u8 1)) (w1 := w1.setCell ⟨wr.heap.size, col, none⟩ (.int .u8 1)) ?hg ?ho ?hn ?hr ?_; (case ho => rfl); (case hg => rfl); (case hn => rfl); (case hr => first | (go_simp; done) | (go_simp; rfl)); intro w2 hw2; have hl2 := below_set HL1.out hw2 (Nat.le_refl _); have hb2 := (after_set hw2 HB1.out HSET.out).1; have c2o := (hl2.cell (World.block_lt_of_cell? wr _ co)).trans co; have HB2 := Aside0.mk hb2; have HL2 := Aside0.mk hl2; have HW2 : Aside0 (Below B w w2) := ⟨HBr.out.trans (hl2.mono (Nat.le_trans HBw.out HBr.out.size))⟩; have HZ2 : Aside0 (wr.heap.size < w2.heap.size) := ⟨blk_lt hb2⟩; clear hb2 hl2 hw2 cc1 cx1 fx1))
        | ((with_reducible refine gate_dst (N := 21) rfl ?_); (refine wpList_load_row rfl 63 _ rfl wr.heap.size rfl 63 (rowCells x).toArray (0, 0) _ HB2.out Try.underlying63 rfl (size_row HX16.out) ?_))
        | (at_builtin; (refine Kd.R_append kRow (w0 := w) B rfl (.tmp 20) (.tmp 22) 55 63 (.agg (rowCells (noMarks, ByteArray.empty)).toArray) 32 rfl Try.underlying55 info_row rfl (by decide) (by decide) (.slice Ao n co_) rws x (rowCells x) (fun _ => True) (fun _ => False) rfl rfl (kRow_M HX16.out) (fun _ h => h.elim) (fun _ _ => trivial) (Kd.R_below HR.out HL2.out) HW2.out (Nat.le_trans HBw.out HW2.out.size) (by rw [HN.out]; omega) ?_; intro v4 w4 hr4 hb4 hg4 hat4; have hgn : some Bo ≠ (Value.slice Ao n co_).ownBlock := Kd.R_ne HR.out H4.out (by decide); have h4o := (hg4.block Bo (Nat.lt_of_lt_of_le (blk_lt H4.out) HL2.out.size) hgn).trans (keep_ H4.out HL2.out); obtain ⟨A4, c4, hv4⟩ := Kd.R_slice hr4; subst hv4; have c4o : w4.cell? ⟨Bo, 0, none⟩ = some (.slice Ao n co_) := cell_blk h4o rfl; have f4o : w4.frozen? ⟨Bo, 0, none⟩ = false := frozen_of_row _ _ _ _ _ h4o; have HR4 := Aside0.mk hr4; have HB4 := Aside0.mk hb4; have HG4 := Aside0.mk hg4; have HAT := Aside0.mk hat4; have H4O := Aside0.mk h4o; have hl4 : (rws ++ [x]).length = n + 1 := (by simp [HN.out]); rw [hl4] at HR4 ⊢; clear hr4 hb4 hg4 h4o hat4 hgn c2o hl4))
        | ((with_reducible refine gate_store (t := 55) (p := 4) rfl ?_); (refine store_at (t := 55) (p := 4) (v := .tmp 23) (w1 := w4.setCell ⟨Bo, 0, none⟩ (.slice A4 (n + 1) c4)) ?hg ?ho ?hn ?hr ?_; (case ho => rfl); (case hg => rfl); (case hn => rfl); (case hr => first | (go_simp; done) | (go_simp; rfl)); intro w5 hw5; have hBaBo := blk_ne H1.out H4.out (by decide); have h5a := ((after_set hw5 H4O.out rfl).2.1 Ba hBaBo).trans (keep4 H1.out HL2.out HG4.out (Kd.R_ne HR.out H1.out (by decide))); have ca5 := cell_blk (j := 0) h5a rfl; have f5a : w5.frozen? ⟨Ba, 0, none⟩ = false := frozen_of_row _ _ _ _ _ h5a; have H5A := Aside0.mk h5a; clear c4o f4o h5a hBaBo))
        | ((with_reducible refine gate_store (t := 3) (p := 1) rfl ?_); (refine store_at (t := 3) (p := 1) (v := .tmp 11) (w1 := w5.setCell ⟨Ba, 0, none⟩ (.int .i64 ((k : Int) + 1))) ?hg ?ho ?hn ?hr ?_; (case ho => rfl); (case hg => rfl); (case hn => rfl); (case hr => first | (go_simp; done) | (go_simp; rfl)); intro w6 hw6; clear ca5 f5a)))
      go_roundw
      case measure =>
        have e6 : atOf Ba w6 = k + 1 := atOf_of (k := .i64) (n := k + 1) ((cell_blk (j := 0) (after_set hw6 H5A.out rfl).1 rfl).trans (by simp))
        rw [e6, atOf_of ca]; omega
      case rel =>
        have hBaBo := blk_ne H1.out H4.out (by decide)
        have hBlBo := blk_ne H2.out H4.out (by decide)
        have hBlBa := blk_ne H2.out H1.out (by decide)
        have hBcBo := blk_ne H3.out H4.out (by decide)
        have h6a := (after_set hw6 H5A.out rfl).1
        have o5 := (after_set hw5 H4O.out rfl).2.1
        have o6 := (after_set hw6 H5A.out rfl).2.1
        have h5o := (after_set hw5 H4O.out rfl).1
        have r5 : Kd.R kRow 63 w5 B (fun _ => True) (.slice A4 (n + 1) c4) (rws ++ [x]) := by rw [hw5.out]; exact Kd.R_set HR4.out H4O.out (by decide) _ _
        have r6 : Kd.R kRow 63 w6 B (fun _ => True) (.slice A4 (n + 1) c4) (rws ++ [x]) := by rw [hw6.out]; exact Kd.R_set r5 H5A.out (by decide) _ _
        have hrw2 : rs ++ ((list.take (k + 1)).drop a0).map (oneRow col) = rws ++ [x] := by rw [HSN.out, List.map_append, ← List.append_assoc, HRW.out, List.map_singleton, HXE.out]
        have hb6 : Below B w w6 := below_set (below_set HB4.out hw5 H8.out) hw6 H7.out
        refine ⟨k + 1, .slice A4 (n + 1) c4, by omega, by omega, ⟨⟨?_, ?_, ?_, ⟨?_, ?_⟩, ?_, H7.out, H8.out, H9.out⟩⟩, ⟨hb6⟩, ⟨HKr.out.trans ⟨?_, fun q hq h1 h2 h3 => ?_, ?_⟩⟩⟩
        · rw [h6a]; simp
        · exact (o6 Bl hBlBa).trans ((o5 Bl hBlBo).trans (keep4 H2.out HL2.out HG4.out (Kd.R_ne HR.out H2.out (by decide))))
        · exact (o6 Bc H9.out.symm).trans ((o5 Bc hBcBo).trans (keep4 H3.out HL2.out HG4.out (Kd.R_ne HR.out H3.out (by decide))))
        · exact (o6 Bo hBaBo.symm).trans h5o
        · rw [hrw2]; exact r6
        · exact HI.out.2.2.2.2.1.trans hb6
        · rw [(after_set hw6 H5A.out rfl).2.2, (after_set hw5 H4O.out rfl).2.2]
          exact Nat.le_trans HL2.out.size HG4.out.size
        · exact (o6 q h1).trans ((o5 q h2).trans ((HG4.out.block q (Nat.lt_of_lt_of_le hq HL2.out.size) (fun e => h3 (e.trans (own_eq _ _ _ _ _)))).trans (HL2.out.block q hq)))
        · rcases HAT.out with h | ⟨b, h, hh⟩
          · exact .inl ((own_eq _ _ _ _ _).trans (h.trans (own_eq _ _ _ _ _)))
          · exact .inr ⟨b, (own_eq _ _ _ _ _).trans h, Nat.le_trans HL2.out.size hh⟩
    · have hk' : k = m := by omega
      subst hk'
      go_wp2
      go_end0
      exact ⟨_, rfl, HIr, HBr, HKr⟩
end Go.Proofs.Ytnlekganlliikaa.X
-- part XGapMath
namespace Go.Proofs.Ytnlekganlliikaa.X
set_option linter.unusedVariables false
set_option linter.unusedSimpArgs false
/-- Places that rise, from lo on, below hi; -1: none. -/
def Up (hi : Nat) : Nat → List Int → Prop
  | lo, [] => lo ≤ hi
  | lo, m :: ms => (m = -1 ∧ Up hi lo ms) ∨ (∃ k : Nat, m = (k : Int) ∧ lo ≤ k ∧ k < hi ∧ Up hi (k + 1) ms)
theorem Up.le {hi : Nat} : ∀ {ms : List Int} {lo : Nat}, Up hi lo ms → lo ≤ hi
  | [], lo, h => h
  | m :: ms, lo, h => by
    rcases h with ⟨_, h⟩ | ⟨k, _, h1, h2, _⟩
    · exact Up.le h
    · omega
theorem up_of_rises {a b : List Int} : ∀ {ms : List Int} {a b : List Int} {j n : Nat}, Rises a b j ms n → Up (j + b.length) j ms
  | [], a, b, j, n, h => by simp [Up]
  | m :: ms, a, b, j, n, h => by
    rcases h with ⟨h1, h2⟩ | ⟨k, n', h1, _, h3, h4, h5⟩
    · exact .inl ⟨h1, up_of_rises (a := []) (b := []) h2⟩
    · have hk : k < b.length := by
        rcases Nat.lt_or_ge k b.length with h | h
        · exact h
        · rw [List.getElem?_eq_none h] at h3
          cases a with
          | nil => exact absurd rfl h4
          | cons x xs => cases h3
      have := up_of_rises (a := []) (b := []) h5
      rw [List.length_drop] at this
      refine .inr ⟨j + k, h1, by omega, by omega, ?_⟩
      rwa [show j + k + 1 + (b.length - (k + 1)) = j + b.length by omega] at this
theorem match_up (a b : List Int) : Up b.length 0 (matchOf a b) := by
  have := up_of_rises (a := []) (b := []) (matchFrom_rises a b 0)
  rwa [Nat.zero_add] at this
/-- The rows, as a list comes to them: m tells where each row is paired. -/
def comeGo (col : Nat) (list : List ByteArray) : List Int → List RowG → Nat → List RowG
  | m :: ms, x :: rs, at_ => if 0 ≤ m then ((list.take m.toNat).drop at_).map (oneRow col) ++ (x.1.set col 1, x.2) :: comeGo col list ms rs (m.toNat + 1) else x :: comeGo col list ms rs at_
  | _, _, at_ => (list.drop at_).map (oneRow col)
def idsOf2 (rs : List RowG) (list : List ByteArray) : List (List Int) := idsAll [rs.map (·.2), list]
def matchG (rs : List RowG) (list : List ByteArray) : List Int := matchOf ((idsOf2 rs list).getD 0 []) ((idsOf2 rs list).getD 1 [])
def comeF (col : Nat) (list : List ByteArray) (rs : List RowG) : List RowG := comeGo col list (matchG rs list) rs 0
theorem ids2_len (rs : List RowG) (list : List ByteArray) : ((idsOf2 rs list).getD 0 []).length = rs.length ∧ ((idsOf2 rs list).getD 1 []).length = list.length := by
  constructor
  · show (idsOne [] (rs.map (·.2))).2.length = _
    rw [idsOne_length, List.length_map]
  · show (idsOne _ list).2.length = _
    rw [idsOne_length]
theorem matchG_len (rs : List RowG) (list : List ByteArray) : (matchG rs list).length = rs.length := by
  rw [matchG, matchOf, matchFrom_length, (ids2_len rs list).1]
theorem matchG_up (rs : List RowG) (list : List ByteArray) : Up list.length 0 (matchG rs list) := by
  have := match_up ((idsOf2 rs list).getD 0 []) ((idsOf2 rs list).getD 1 [])
  rwa [(ids2_len rs list).2] at this
theorem ids2_list (rs : List RowG) (list : List ByteArray) : idsOf2 rs list = [(idsOf2 rs list).getD 0 [], (idsOf2 rs list).getD 1 []] := rfl
theorem comeGo_nil (col : Nat) (list : List ByteArray) (rs : List RowG) (a : Nat) : comeGo col list [] rs a = (list.drop a).map (oneRow col) := by cases rs <;> rfl
theorem comeGo_no (col : Nat) (list : List ByteArray) (ms : List Int) (x : RowG) (rs : List RowG) (a : Nat) : comeGo col list (-1 :: ms) (x :: rs) a = x :: comeGo col list ms rs a := by
  rw [comeGo, if_neg (by decide)]
theorem comeGo_yes (col : Nat) (list : List ByteArray) (k : Nat) (ms : List Int) (x : RowG) (rs : List RowG) (a : Nat) : comeGo col list ((k : Int) :: ms) (x :: rs) a = ((list.take k).drop a).map (oneRow col) ++ (x.1.set col 1, x.2) :: comeGo col list ms rs (k + 1) := by
  rw [comeGo, if_pos (by omega), Int.toNat_natCast]
theorem comeGo_len (col : Nat) (list : List ByteArray) : ∀ (ms : List Int) (rs : List RowG) (a : Nat), ms.length = rs.length → Up list.length a ms → (comeGo col list ms rs a).length ≤ rs.length + (list.length - a)
  | [], rs, a, h, _ => by
    rw [comeGo_nil]; simp
  | m :: ms, [], a, h, _ => by simp at h
  | m :: ms, y :: rs, a, h, hu => by
    have h' : ms.length = rs.length := by simpa using h
    rcases hu with ⟨rfl, hu⟩ | ⟨k, rfl, h1, h2, hu⟩
    · have := comeGo_len col list ms rs a h' hu
      rw [comeGo_no, List.length_cons, List.length_cons]; omega
    · have := comeGo_len col list ms rs (k + 1) h' hu
      rw [comeGo_yes]
      simp only [List.length_append, List.length_map, List.length_drop, List.length_take, List.length_cons]
      omega
theorem comeF_len (col : Nat) (list : List ByteArray) (rs : List RowG) : (comeF col list rs).length ≤ rs.length + list.length := by
  have := comeGo_len col list _ rs 0 (matchG_len rs list) (matchG_up rs list)
  rw [comeF]; omega
end Go.Proofs.Ytnlekganlliikaa.X
-- part XPairMath
namespace Go.Proofs.Ytnlekganlliikaa.X
set_option linter.unusedVariables false
set_option linter.unusedSimpArgs false
theorem addT_self (t : List ByteArray) (s : ByteArray) : s ∈ addT t s := by
  unfold addT; split
  · rename_i h; exact (place_mem s).2 h
  · simp
theorem addT_sub (t : List ByteArray) (s x : ByteArray) (h : x ∈ t) : x ∈ addT t s := by
  unfold addT; split
  · exact h
  · simp [h]
theorem place_addT {t : List ByteArray} {s x : ByteArray} (h : x ∈ t) : place x (addT t s) = place x t := by
  unfold addT; split
  · rfl
  · exact place_append x _ ((place_mem x).1 h)
theorem place_addT_self (t : List ByteArray) (s : ByteArray) : place s (addT t s) = place s t := by
  unfold addT; split
  · rfl
  · rename_i h; rw [place_new s [] h, place_not h]
theorem place_inj {t : List ByteArray} {s s' : ByteArray} (h : s ∈ t) (e : place s t = place s' t) : s = s' := by
  have h1 := (place_mem s).1 h
  have h2 : place s' t < t.length := by omega
  have e1 := place_get s h1
  have e2 := place_get s' h2
  rw [← e1, ← e2]
  congr 1
/-- A text's number in a table. -/
def num (t : List ByteArray) (s : ByteArray) : Int := (place s t : Int)
theorem num_inj {t : List ByteArray} {s s' : ByteArray} (h : s ∈ t) (e : num t s = num t s') : s = s' := place_inj h (by unfold num at e; omega)
theorem idsOne_spec : ∀ (t l : List ByteArray), (∀ x ∈ t, x ∈ (idsOne t l).1 ∧ place x (idsOne t l).1 = place x t) ∧ (∀ x ∈ l, x ∈ (idsOne t l).1) ∧ (idsOne t l).2 = l.map (num (idsOne t l).1)
  | t, [] => ⟨fun x h => ⟨h, rfl⟩, fun x h => by simp at h, rfl⟩
  | t, s :: l => by
    obtain ⟨h1, h2, h3⟩ := idsOne_spec (addT t s) l
    have hs := h1 s (addT_self t s)
    refine ⟨fun x h => ?_, fun x h => ?_, ?_⟩
    · have := h1 x (addT_sub t s x h)
      exact ⟨this.1, this.2.trans (place_addT h)⟩
    · rcases List.mem_cons.1 h with rfl | h
      · exact hs.1
      · exact h2 x h
    · simp only [idsOne, List.map_cons]
      rw [h3]
      congr 1
      unfold num
      rw [hs.2, place_addT_self]
theorem tabOf_spec : ∀ (t : List ByteArray) (ls : List (List ByteArray)), (∀ x ∈ t, x ∈ tabOf t ls ∧ place x (tabOf t ls) = place x t) ∧ (∀ l ∈ ls, ∀ x ∈ l, x ∈ tabOf t ls) ∧ idsMany t ls = ls.map (fun l => l.map (num (tabOf t ls)))
  | t, [] => ⟨fun x h => ⟨h, rfl⟩, fun x h => by simp at h, rfl⟩
  | t, l :: ls => by
    obtain ⟨h1, h2, h3⟩ := tabOf_spec (idsOne t l).1 ls
    obtain ⟨g1, g2, g3⟩ := idsOne_spec t l
    refine ⟨fun x h => ?_, fun k hk x h => ?_, ?_⟩
    · have := h1 x (g1 x h).1
      exact ⟨this.1, this.2.trans (g1 x h).2⟩
    · rcases List.mem_cons.1 hk with rfl | hk
      · exact (h1 x (g2 x h)).1
      · exact h2 k hk x h
    · simp only [idsMany, tabOf, List.map_cons]
      rw [h3, g3]
      congr 1
      refine List.map_congr_left fun x hx => ?_
      unfold num
      rw [(h1 x (g2 x hx)).2]
/-- The numbers of some files' texts: all by one table. -/
theorem idsAll_map (ls : List (List ByteArray)) : idsAll ls = ls.map (fun l => l.map (num (tabOf [] ls))) := (tabOf_spec [] ls).2.2
theorem tabAll {ls : List (List ByteArray)} {l : List ByteArray} (hl : l ∈ ls) {x : ByteArray} (hx : x ∈ l) : x ∈ tabOf [] ls := (tabOf_spec [] ls).2.1 l hl x hx

theorem lcsL_map {α : Type} (f g : α → Int) (a b : List α) (h : ∀ x ∈ a, ∀ y ∈ b, (f x = f y ↔ g x = g y)) : lcsL (a.map f) (b.map f) = lcsL (a.map g) (b.map g) := by
  match a, b with
  | [], b => simp
  | x :: xs, [] => simp
  | x :: xs, y :: ys =>
    simp only [List.map_cons]
    rw [lcsL_cons, lcsL_cons]
    have h1 := lcsL_map f g xs ys (fun u hu v hv => h u (by simp [hu]) v (by simp [hv]))
    have h2 := lcsL_map f g xs (y :: ys) (fun u hu v hv => h u (by simp [hu]) v hv)
    have h3 := lcsL_map f g (x :: xs) ys (fun u hu v hv => h u hu v (by simp [hv]))
    simp only [List.map_cons] at h2 h3
    rw [h1, h2, h3]
    have := h x (by simp) y (by simp)
    by_cases e : f x = f y
    · rw [if_pos e, if_pos (this.1 e)]
    · rw [if_neg e, if_neg (fun e' => e (this.2 e'))]
  termination_by a.length + b.length
theorem matchFrom_map {α : Type} (f g : α → Int) (a b : List α) (j : Nat) (h : ∀ x ∈ a, ∀ y ∈ b, (f x = f y ↔ g x = g y)) : matchFrom (a.map f) (b.map f) j = matchFrom (a.map g) (b.map g) j := by
  match a, b with
  | [], b => simp [matchFrom_nil]
  | x :: xs, [] => simp [matchFrom_rest]
  | x :: xs, y :: ys =>
    simp only [List.map_cons]
    rw [matchFrom_cons, matchFrom_cons]
    have l2 := lcsL_map f g xs (y :: ys) (fun u hu v hv => h u (by simp [hu]) v hv)
    have l3 := lcsL_map f g (x :: xs) ys (fun u hu v hv => h u hu v (by simp [hv]))
    have h1 := matchFrom_map f g xs ys (j + 1) (fun u hu v hv => h u (by simp [hu]) v (by simp [hv]))
    have h2 := matchFrom_map f g xs (y :: ys) j (fun u hu v hv => h u (by simp [hu]) v hv)
    have h3 := matchFrom_map f g (x :: xs) ys (j + 1) (fun u hu v hv => h u hu v (by simp [hv]))
    simp only [List.map_cons] at h2 h3 l2 l3
    rw [h1, h2, h3, l2, l3]
    have := h x (by simp) y (by simp)
    by_cases e : f x = f y
    · rw [if_pos e, if_pos (this.1 e)]
    · rw [if_neg e, if_neg (fun e' => e (this.2 e'))]
  termination_by a.length + b.length
/-- How two lists of texts are paired. -/
def matchS (a b : List ByteArray) : List Int := matchOf (a.map (num (a ++ b))) (b.map (num (a ++ b)))
def lcsS (a b : List ByteArray) : Nat := lcsL (a.map (num (a ++ b))) (b.map (num (a ++ b)))
theorem num_iff {t : List ByteArray} {x y : ByteArray} (h : x ∈ t) : num t x = num t y ↔ x = y := ⟨fun e => num_inj h e, fun e => by rw [e]⟩
theorem matchS_num {t : List ByteArray} {a b : List ByteArray} (h : ∀ x ∈ a, x ∈ t) : matchOf (a.map (num t)) (b.map (num t)) = matchS a b :=
  matchFrom_map _ _ a b 0 fun x hx y hy => (num_iff (h x hx)).trans (num_iff (by simp [hx])).symm
theorem matchS_length (a b : List ByteArray) : (matchS a b).length = a.length := by rw [matchS, matchOf, matchFrom_length, List.length_map]

/-- Each place is told -1, or a place of the list that holds the same; they rise, from lo on. -/
def Fits (list : List ByteArray) : List Int → List ByteArray → Nat → Prop
  | [], [], lo => lo ≤ list.length
  | m :: ms, s :: ss, lo => (m = -1 ∧ Fits list ms ss lo) ∨ (∃ k : Nat, m = (k : Int) ∧ lo ≤ k ∧ list[k]? = some s ∧ Fits list ms ss (k + 1))
  | _, _, _ => False
theorem Fits.len {list : List ByteArray} : ∀ {ms : List Int} {ss : List ByteArray} {lo : Nat}, Fits list ms ss lo → ms.length = ss.length
  | [], [], lo, h => rfl
  | [], _ :: _, lo, h => h.elim
  | _ :: _, [], lo, h => h.elim
  | m :: ms, s :: ss, lo, h => by
    rcases h with ⟨_, h⟩ | ⟨k, _, _, _, h⟩ <;> simp [Fits.len h]
theorem Fits.le {list : List ByteArray} : ∀ {ms : List Int} {ss : List ByteArray} {lo : Nat}, Fits list ms ss lo → lo ≤ list.length
  | [], [], lo, h => h
  | [], _ :: _, lo, h => h.elim
  | _ :: _, [], lo, h => h.elim
  | m :: ms, s :: ss, lo, h => by
    rcases h with ⟨_, h⟩ | ⟨k, _, h1, _, h⟩
    · exact Fits.le h
    · have := Fits.le h; omega
theorem Fits.up {list : List ByteArray} : ∀ {ms : List Int} {ss : List ByteArray} {lo : Nat}, Fits list ms ss lo → Up list.length lo ms
  | [], [], lo, h => h
  | [], _ :: _, lo, h => h.elim
  | _ :: _, [], lo, h => h.elim
  | m :: ms, s :: ss, lo, h => by
    rcases h with ⟨h1, h⟩ | ⟨k, h1, h2, h3, h⟩
    · exact .inl ⟨h1, h.up⟩
    · exact .inr ⟨k, h1, h2, (List.getElem?_eq_some_iff.1 h3).1, h.up⟩
theorem fits_of_rises {f : ByteArray → Int} {list : List ByteArray} : ∀ {ms : List Int} {a b : List ByteArray} {j n : Nat}, list.drop j = b → j ≤ list.length → ms.length = a.length → (∀ x ∈ a, ∀ y ∈ b, f x = f y → x = y) → Rises (a.map f) (b.map f) j ms n → Fits list ms a j
  | [], [], b, j, n, hb, hj, hl, hf, h => hj
  | [], _ :: _, b, j, n, hb, hj, hl, hf, h => by simp at hl
  | _ :: _, [], b, j, n, hb, hj, hl, hf, h => by simp at hl
  | m :: ms, x :: a, b, j, n, hb, hj, hl, hf, h => by
    have hl' : ms.length = a.length := by simpa using hl
    rcases h with ⟨h1, h2⟩ | ⟨k, n', h1, h2, h3, h4, h5⟩
    · exact .inl ⟨h1, fits_of_rises hb hj hl' (fun u hu => hf u (by simp [hu])) h2⟩
    · simp only [List.map_cons, List.head?_cons, List.getElem?_map, Option.map_eq_some_iff] at h3
      obtain ⟨y, hy, e⟩ := h3
      have hym : y ∈ b := List.mem_of_getElem? hy
      have := hf x (by simp) y hym e.symm
      subst this
      rw [← hb, List.getElem?_drop] at hy
      have hlt := (List.getElem?_eq_some_iff.1 hy).1
      refine .inr ⟨j + k, h1, by omega, hy, fits_of_rises (b := b.drop (k + 1)) (n := n') ?_ (by omega) hl' (fun u hu v hv => hf u (by simp [hu]) v (List.mem_of_mem_drop hv)) ?_⟩
      · rw [← hb, List.drop_drop]; rfl
      · rw [List.map_drop]; exact h5
theorem matchS_fits (a b : List ByteArray) : Fits b (matchS a b) a 0 :=
  fits_of_rises (f := num (a ++ b)) (n := lcsS a b) (List.drop_zero ..) (Nat.zero_le _) (matchS_length a b) (fun x hx y _ e => num_inj (by simp [hx]) e) (matchFrom_rises _ _ 0)
theorem matchFrom_self : ∀ (a : List Int) (j : Nat), matchFrom a a j = (List.range' j a.length).map (fun k : Nat => (k : Int))
  | [], j => by simp [matchFrom_nil]
  | x :: a, j => by rw [matchFrom_cons, if_pos rfl, matchFrom_self a (j + 1)]; simp [List.range'_succ]
theorem matchS_self (a : List ByteArray) : matchS a a = (List.range' 0 a.length).map (fun k : Nat => (k : Int)) := by
  rw [matchS, matchOf, matchFrom_self, List.length_map]
end Go.Proofs.Ytnlekganlliikaa.X
-- part XGapLaw
namespace Go.Proofs.Ytnlekganlliikaa.X
set_option linter.unusedVariables false
set_option linter.unusedSimpArgs false
theorem matchG_S (rs : List RowG) (list : List ByteArray) : matchG rs list = matchS (rs.map (·.2)) list := by
  unfold matchG idsOf2
  rw [idsAll_map]
  exact matchS_num fun x hx => tabAll (ls := [rs.map (·.2), list]) (by simp) hx
theorem comeF_def (col : Nat) (list : List ByteArray) (rs : List RowG) : comeF col list rs = comeGo col list (matchS (rs.map (·.2)) list) rs 0 := by rw [comeF, matchG_S]
/-- The rows of so many columns. -/
def Cols (n : Nat) (rs : List RowG) : Prop := ∀ x ∈ rs, x.1.length = 16 ∧ (∀ c, x.1.getD c 0 = 0 ∨ x.1.getD c 0 = 1) ∧ (∀ c, n ≤ c → x.1.getD c 0 = 0) ∧ (∃ c, c < n ∧ x.1.getD c 0 = 1)
theorem getD_set (l : List Int) (i c : Nat) (v : Int) (h : i < l.length) : (l.set i v).getD c 0 = if c = i then v else l.getD c 0 := by
  simp only [List.getD_eq_getElem?_getD, List.getElem?_set]
  by_cases e : c = i
  · subst e; simp [h]
  · simp [e, Ne.symm e]
theorem noMarks_getD (c : Nat) : noMarks.getD c 0 = 0 := by
  simp only [noMarks, List.getD_eq_getElem?_getD, List.getElem?_replicate]
  split <;> rfl
theorem oneRow_getD {col : Nat} (h : col < 16) (s : ByteArray) (c : Nat) : (oneRow col s).1.getD c 0 = if c = col then 1 else 0 := by
  rw [oneRow, getD_set _ _ _ _ (by simpa [noMarks] using h), noMarks_getD]
theorem oneRow_len (col : Nat) (s : ByteArray) : (oneRow col s).1.length = 16 := by simp [oneRow, noMarks]
theorem comeGo_forall (P : RowG → Prop) (col : Nat) (list : List ByteArray) (h1 : ∀ s ∈ list, P (oneRow col s)) : ∀ (ms : List Int) (rs : List RowG) (a : Nat), ms.length = rs.length → (∀ x ∈ rs, P x ∧ P (x.1.set col 1, x.2)) → ∀ x ∈ comeGo col list ms rs a, P x
  | [], rs, a, hl, h => by
    rw [comeGo_nil]
    intro x hx
    obtain ⟨s, hs, rfl⟩ := List.mem_map.1 hx
    exact h1 s (List.mem_of_mem_drop hs)
  | m :: ms, [], a, hl, h => by simp at hl
  | m :: ms, y :: rs, a, hl, h => by
    have ih := fun a => comeGo_forall P col list h1 ms rs a (by simpa using hl) (fun x hx => h x (List.mem_cons_of_mem _ hx))
    have hy := h y List.mem_cons_self
    intro x hx
    rw [comeGo] at hx
    split at hx
    · rcases List.mem_append.1 hx with hx | hx
      · obtain ⟨s, hs, rfl⟩ := List.mem_map.1 hx
        exact h1 s (List.mem_of_mem_take (List.mem_of_mem_drop hs))
      · rcases List.mem_cons.1 hx with rfl | hx
        · exact hy.2
        · exact ih _ x hx
    · rcases List.mem_cons.1 hx with rfl | hx
      · exact hy.1
      · exact ih _ x hx
theorem comeF_len_m (rs : List RowG) (list : List ByteArray) : (matchS (rs.map (·.2)) list).length = rs.length := by rw [matchS_length, List.length_map]
theorem Cols.come {n : Nat} {rs : List RowG} (h : Cols n rs) (hn : n < 16) (list : List ByteArray) : Cols (n + 1) (comeF n list rs) := by
  rw [comeF_def]
  refine comeGo_forall (fun x => x.1.length = 16 ∧ (∀ c, x.1.getD c 0 = 0 ∨ x.1.getD c 0 = 1) ∧ (∀ c, n + 1 ≤ c → x.1.getD c 0 = 0) ∧ (∃ c, c < n + 1 ∧ x.1.getD c 0 = 1)) n list (fun s hs => ⟨oneRow_len _ _, fun c => ?_, fun c hc => ?_, n, by omega, ?_⟩) _ rs 0 (comeF_len_m rs list) fun x hx => ?_
  · rw [oneRow_getD hn]; split <;> simp
  · rw [oneRow_getD hn, if_neg (by omega)]
  · rw [oneRow_getD hn, if_pos rfl]
  · obtain ⟨h1, h2, h3, c0, h4, h5⟩ := h x hx
    have hnl : n < x.1.length := by omega
    refine ⟨⟨h1, h2, fun c hc => h3 c (by omega), c0, by omega, h5⟩, by simpa using h1, fun c => ?_, fun c hc => ?_, n, by omega, ?_⟩
    · show (x.1.set n 1).getD c 0 = 0 ∨ (x.1.set n 1).getD c 0 = 1
      rw [getD_set _ _ _ _ hnl]; split
      · simp
      · exact h2 c
    · show (x.1.set n 1).getD c 0 = 0
      rw [getD_set _ _ _ _ hnl, if_neg (by omega)]; exact h3 c (by omega)
    · show (x.1.set n 1).getD n 0 = 1
      rw [getD_set _ _ _ _ hnl, if_pos rfl]
/-- The texts that are marked in a column. -/
def colT (c : Nat) (rs : List RowG) : List ByteArray := (rs.filter (fun x => x.1.getD c 0 == 1)).map (·.2)
theorem colT_cons (c : Nat) (y : RowG) (l : List RowG) : colT c (y :: l) = (if y.1.getD c 0 = 1 then [y.2] else []) ++ colT c l := by
  unfold colT; rw [List.filter_cons]
  by_cases e : y.1.getD c 0 = 1
  · rw [if_pos (by rw [e]; rfl), if_pos e]; rfl
  · rw [if_neg (by simpa using e), if_neg e]; rfl
theorem colT_append (c : Nat) (a b : List RowG) : colT c (a ++ b) = colT c a ++ colT c b := by simp [colT]
theorem colT_new {col : Nat} (h : col < 16) (l : List ByteArray) : colT col (l.map (oneRow col)) = l := by
  induction l with
  | nil => rfl
  | cons s l ih =>
    rw [List.map_cons, colT_cons, oneRow_getD h, if_pos rfl, if_pos rfl, ih]; rfl
theorem colT_new_ne {col c : Nat} (h : col < 16) (hc : c ≠ col) (l : List ByteArray) : colT c (l.map (oneRow col)) = [] := by
  induction l with
  | nil => rfl
  | cons s l ih =>
    rw [List.map_cons, colT_cons, oneRow_getD h, if_neg hc, if_neg (by decide), ih]; rfl
theorem drop_take_at {list : List ByteArray} {a k : Nat} {s : ByteArray} (h1 : a ≤ k) (h : list[k]? = some s) : (list.take k).drop a ++ s :: list.drop (k + 1) = list.drop a := by
  obtain ⟨hk, rfl⟩ := List.getElem?_eq_some_iff.1 h
  rw [← List.drop_eq_getElem_cons hk]
  have : list.drop a = (list.take k ++ list.drop k).drop a := by rw [List.take_append_drop]
  rw [this, List.drop_append_of_le_length (by rw [List.length_take]; omega)]
theorem colT_come {col : Nat} (h : col < 16) (list : List ByteArray) : ∀ (ms : List Int) (rs : List RowG) (a : Nat), Fits list ms (rs.map (·.2)) a → (∀ x ∈ rs, x.1.length = 16 ∧ x.1.getD col 0 = 0) → colT col (comeGo col list ms rs a) = list.drop a
  | [], [], a, hf, hr => by rw [comeGo_nil, colT_new h]
  | [], _ :: _, a, hf, hr => hf.elim
  | m :: ms, [], a, hf, hr => hf.elim
  | m :: ms, y :: rs, a, hf, hr => by
    have hr' : ∀ x ∈ rs, x.1.length = 16 ∧ x.1.getD col 0 = 0 := fun x hx => hr x (List.mem_cons_of_mem _ hx)
    have hy := hr y List.mem_cons_self
    rcases hf with ⟨rfl, hf⟩ | ⟨k, rfl, h1, h2, hf⟩
    · have ih := colT_come h list ms rs a hf hr'
      rw [comeGo_no, colT_cons, if_neg (by rw [hy.2]; decide)]
      exact ih
    · have ih := colT_come h list ms rs (k + 1) hf hr'
      rw [comeGo_yes, colT_append, colT_new h, colT_cons, if_pos (by rw [getD_set _ _ _ _ (by omega), if_pos rfl]), ih]
      exact drop_take_at h1 h2
theorem colT_old {col c : Nat} (h : col < 16) (hc : c ≠ col) (list : List ByteArray) : ∀ (ms : List Int) (rs : List RowG) (a : Nat), ms.length = rs.length → (∀ x ∈ rs, x.1.length = 16) → colT c (comeGo col list ms rs a) = colT c rs
  | [], [], a, hf, hr => by rw [comeGo_nil, colT_new_ne h hc]; rfl
  | [], _ :: _, a, hf, hr => by simp at hf
  | m :: ms, [], a, hf, hr => by simp at hf
  | m :: ms, y :: rs, a, hf, hr => by
    have hr' : ∀ x ∈ rs, x.1.length = 16 := fun x hx => hr x (List.mem_cons_of_mem _ hx)
    have hy := hr y List.mem_cons_self
    have ih := fun a => colT_old h hc list ms rs a (by simpa using hf) hr'
    rw [comeGo]
    split
    · have e : (y.1.set col 1).getD c 0 = y.1.getD c 0 := by rw [getD_set _ _ _ _ (by omega), if_neg hc]
      rw [colT_append, colT_new_ne h hc, List.nil_append]
      rw [colT_cons, colT_cons, ih]
      simp only [e]
    · rw [colT_cons, colT_cons, ih]
/-- The rows of lists that come, one by one. -/
def rowsFrom : Nat → List (List ByteArray) → List RowG → List RowG
  | _, [], rs => rs
  | i, l :: ls, rs => rowsFrom (i + 1) ls (comeF i l rs)
theorem rowsFrom_snoc : ∀ (ls : List (List ByteArray)) (i : Nat) (l : List ByteArray) (rs : List RowG), rowsFrom i (ls ++ [l]) rs = comeF (i + ls.length) l (rowsFrom i ls rs)
  | [], i, l, rs => rfl
  | x :: ls, i, l, rs => by
    simp only [List.cons_append, rowsFrom, List.length_cons]
    rw [rowsFrom_snoc ls (i + 1) l _, show i + 1 + ls.length = i + (ls.length + 1) by omega]
def rowsOf (ls : List (List ByteArray)) : List RowG := rowsFrom 0 ls []
theorem rowsOf_snoc (ls : List (List ByteArray)) (l : List ByteArray) : rowsOf (ls ++ [l]) = comeF ls.length l (rowsOf ls) := by
  rw [rowsOf, rowsFrom_snoc, Nat.zero_add]; rfl
theorem snoc_induct {α : Type} {P : List α → Prop} (h0 : P []) (h1 : ∀ l x, P l → P (l ++ [x])) : ∀ l, P l := by
  intro l
  rw [← l.reverse_reverse]
  induction l.reverse with
  | nil => exact h0
  | cons x l ih => rw [List.reverse_cons]; exact h1 _ _ ih
theorem rowsOf_cols : ∀ ls : List (List ByteArray), ls.length ≤ 16 → Cols ls.length (rowsOf ls) := by
  refine snoc_induct (fun _ x hx => by simp [rowsOf, rowsFrom] at hx) fun ls l ih h => ?_
  rw [rowsOf_snoc]
  simp only [List.length_append, List.length_cons, List.length_nil] at h ⊢
  exact (ih (by omega)).come (by omega) l
theorem rowsOf_colT : ∀ ls : List (List ByteArray), ls.length ≤ 16 → ∀ c, c < ls.length → colT c (rowsOf ls) = ls.getD c [] := by
  refine snoc_induct (fun _ c hc => by simp at hc) fun ls l ih h c hc => ?_
  rw [rowsOf_snoc]
  simp only [List.length_append, List.length_cons, List.length_nil] at h hc
  have hC := rowsOf_cols ls (by omega)
  by_cases e : c = ls.length
  · subst e
    rw [comeF_def, colT_come (by omega) l _ _ 0 (matchS_fits _ _) (fun x hx => ⟨(hC x hx).1, (hC x hx).2.2.1 _ (Nat.le_refl _)⟩)]
    simp
  · rw [comeF_def, colT_old (by omega) e l _ _ 0 (comeF_len_m _ _) (fun x hx => (hC x hx).1), ih (by omega) c (by omega)]
    simp only [List.getD_eq_getElem?_getD]
    rw [List.getElem?_append_left (by omega)]
def sumLen (ls : List (List ByteArray)) : Nat := (ls.map List.length).sum
theorem rowsOf_le : ∀ ls : List (List ByteArray), (rowsOf ls).length ≤ sumLen ls := by
  refine snoc_induct (Nat.zero_le _) fun ls l ih => ?_
  rw [rowsOf_snoc]
  have := comeF_len ls.length l (rowsOf ls)
  simp only [sumLen, List.map_append, List.sum_append, List.map_cons, List.map_nil, List.sum_cons, List.sum_nil] at ih ⊢
  omega
/-- A list that is the rows' own texts is marked in each. -/
theorem comeGo_self (col : Nat) (list : List ByteArray) : ∀ (rs : List RowG) (a : Nat), a + rs.length = list.length → comeGo col list ((List.range' a rs.length).map (fun k : Nat => (k : Int))) rs a = rs.map (fun x => (x.1.set col 1, x.2))
  | [], a, h => by simp [comeGo_nil, List.drop_eq_nil_of_le (show list.length ≤ a by simp at h; omega)]
  | y :: rs, a, h => by
    simp only [List.length_cons] at h
    rw [List.length_cons, List.range'_succ, List.map_cons, comeGo_yes, comeGo_self col list rs (a + 1) (by omega), List.drop_eq_nil_of_le (by rw [List.length_take]; omega)]
    rfl
theorem comeF_self (col : Nat) (rs : List RowG) : comeF col (rs.map (·.2)) rs = rs.map (fun x => (x.1.set col 1, x.2)) := by
  rw [comeF_def, matchS_self, List.length_map]
  exact comeGo_self col _ rs 0 (by simp)
end Go.Proofs.Ytnlekganlliikaa.X
-- part XOpen
namespace Go.Proofs.Ytnlekganlliikaa.X
open Go.RowKit Go.Proofs.YtnlekganlliikaaW.PrintWords Go.Deep
set_option linter.unusedVariables false
/-- No part of it is larger than memory. -/
def Light {H : Type} (P : Program) (t : TypeId) (d : DataW H) : Prop := ∀ n ∈ d.weights P t, n ≤ 140737488351232
/-- Whatever reads as data of type t, and is light, has cells of the kind d, and is good. -/
def Opens {α : Type} (P : Program) (t : TypeId) (d : Kd α) (good : α → Prop) : Prop :=
  ∀ {H : Type} (enc : TypeId × Value → H) (w : World) (fuel : Nat) (cs : List Value) (x : DataW H × List MemPlace),
    DataW.trod enc P w 0 (fun _ => true) true fuel t cs = some x → Light P t x.1 → ∃ y, d.K w y cs ∧ good y

theorem opens_string {P : Program} {t : TypeId} (ht : P.underlying t = some .string) : Opens P t Kd.string (fun s => s.size ≤ 140737488351232) := by
  intro H enc w fuel cs x h hl
  obtain ⟨s, rfl, rfl, hs⟩ := DataW.trod_string ht h
  refine ⟨s, rfl, ?_⟩
  have := hl s.data.toList.length (by simp [DataW.weights])
  simpa using this
theorem mem_weightsAll {H : Type} {P : Program} {e : TypeId} {n : Nat} : ∀ {l : List (DataW H)} {d : DataW H}, d ∈ l → n ∈ d.weights P e → n ∈ DataW.weightsAll P e l
  | d0 :: l, d, h, hn => by
    simp only [DataW.weightsAll, List.mem_append]
    rcases List.mem_cons.1 h with rfl | h
    · exact .inl hn
    · exact .inr (mem_weightsAll h hn)

theorem pick_list {α : Type} {Q : Nat → α → Prop} : ∀ n : Nat, (∀ i, i < n → ∃ y, Q i y) → ∃ ys : List α, ys.length = n ∧ ∀ (i : Nat) (y : α), ys[i]? = some y → Q i y
  | 0, _ => ⟨[], rfl, fun i y h => by simp at h⟩
  | n + 1, h => by
    obtain ⟨ys, hl, hq⟩ := pick_list n (fun i hi => h i (by omega))
    obtain ⟨y, hy⟩ := h n (by omega)
    refine ⟨ys ++ [y], by simp [hl], fun i z hz => ?_⟩
    rcases Nat.lt_or_ge i ys.length with hi | hi
    · rw [List.getElem?_append_left hi] at hz
      exact hq i z hz
    · have hi' : i = n := by
        have := (List.getElem?_eq_some_iff.1 hz).1
        simp at this
        omega
      subst hi'
      rw [List.getElem?_append_right hi, hl] at hz
      simp at hz
      exact hz ▸ hy

theorem opens_slice {α : Type} {P : Program} {t e : TypeId} {d : Kd α} {good : α → Prop} (ht : P.underlying t = some (.slice e)) (hc : P.cellsOf e = d.sz) {B : Nat} (hB : P.bytesOf e = B) (hd : Opens P e d good) :
    Opens P t (Kd.slice e d) (fun l => l.length * B ≤ 140737488351232 ∧ ∀ y ∈ l, good y) := by
  intro H enc w fuel cs x h hw
  rcases open_slice ht h with ⟨rfl, _⟩ | ⟨a, len, cap, m, n, D, Pl, rfl, _, hl, hm, hmm, rfl, hx⟩
  · exact ⟨[], ⟨none, 0, rfl, Nat.le_refl _, rfl, by simp, fun h => absurd h (by simp)⟩, by simp, by simp⟩
  · have hle : len ≤ m := by
      rw [hmm]
      simp
      exact hl
    have hD : ∀ i, i < len → Light P e (D i) := fun i hi n hn => hw n (by
      simp only [DataW.weights, ht]
      exact List.mem_cons_of_mem _ (List.mem_append_left _ (mem_weightsAll (List.mem_map.2 ⟨i, List.mem_range.2 hi, rfl⟩) hn)))
    have hS : len * B ≤ 140737488351232 := by
      have z := hw _ (by simp only [DataW.weights, ht]; exact List.mem_cons_self)
      rw [hB] at z
      simp only [List.length_map, List.length_range] at z
      exact Nat.le_trans (Nat.mul_le_mul_right _ (Nat.le_add_right _ _)) z
    obtain ⟨ys, hyl, hyq⟩ := pick_list (Q := fun i y => ∃ c, w.cells? 0 (a.add (i * d.sz)) d.sz = some c ∧ d.K w y c ∧ good y) len (fun i hi => by
      obtain ⟨c, h1, h2⟩ := hx i (by omega)
      obtain ⟨y, h3, h4⟩ := hd enc w n c _ h2 (hD i hi)
      rw [hc] at h1
      exact ⟨y, c, h1, h3, h4⟩)
    refine ⟨ys, ⟨some a, cap, by rw [hyl], by omega, rfl, ?_, fun _ => ⟨a, rfl, fun j p hp => ?_⟩⟩, ?_, fun y hy => ?_⟩
    · unfold maxLen at hm; omega
    · obtain ⟨c, h1, h3, _⟩ := hyq j p hp
      obtain ⟨_, hlen, hcell⟩ := World.cells?_some h1
      refine ⟨c, hlen, h3, fun i u hu => ?_⟩
      have hi : i < d.sz := by rw [← hlen]; exact (List.getElem?_eq_some_iff.1 hu).1
      rw [← Go.Deep.add_add, hcell i hi, hu]
    · rw [hyl]; exact hS
    · obtain ⟨j, hj, rfl⟩ := List.mem_iff_getElem.1 hy
      obtain ⟨_, _, _, hg⟩ := hyq j _ (List.getElem?_eq_getElem hj)
      exact hg

/-- An argument that is a slice: its value, what it reads as. -/
theorem Opens.slice_arg {α : Type} {P : Program} {t e : TypeId} {d : Kd α} {g : List α → Prop} (h : Opens P t (Kd.slice e d) g) {H : Type} {enc : TypeId × Value → H} {w : World} {v : Value} {x : DataW H} {ps : List MemPlace}
    (hv : ∃ a len cap, v = .slice a len cap) (hw : Light P t x) (ht : DataW.Trod enc P w 0 (fun _ => true) true t v x ps) :
    ∃ A c l, v = .slice A l.length c ∧ Kd.C d w A l.length l ∧ l.length ≤ c ∧ g l := by
  obtain ⟨fuel, hf⟩ := ht
  obtain ⟨l, ⟨A, c, hcs, hlc, hC⟩, hg⟩ := h enc w fuel _ _ hf hw
  obtain ⟨a, len, cap, rfl⟩ := hv
  simp [Value.cells] at hcs
  obtain ⟨rfl, rfl, rfl⟩ := hcs
  exact ⟨_, _, l, rfl, hC, hlc, hg⟩
/-- A row's datum is light. -/
theorem light_of {H : Type} {P : Program} {ts : List TypeId} {ds : List (DataW H)} (hsz : (DataW.weightsEach P ts ds).all (· ≤ reachBytes) = true) {j : Nat} {t : TypeId} {d : DataW H} (ht : ts[j]? = some t) (hd : ds[j]? = some d) : Light P t d := by
  intro n hn
  have := List.all_eq_true.1 hsz _ (DataW.weights_mem_each ht hd n hn)
  exact of_decide_eq_true this
end Go.Proofs.Ytnlekganlliikaa.X
-- part XIntern1
namespace Go.Proofs.Ytnlekganlliikaa.X
open Go.RowKit Go.Proofs.YtnlekganlliikaaW.PrintWords Go.Proofs.YtnlekganlliikaaW.PrintLast Go.Proofs.YtnlekganlliikaaW.PrintMore
open Go.Maps
set_option linter.unusedVariables false
set_option linter.unusedSimpArgs false
/-- A text as a map's key. -/
def keyT (s : ByteArray) : Lit := .string s.data.toList
theorem keyT_inj {a b : ByteArray} (h : keyT a = keyT b) : a = b := by
  have h := Lit.string.inj h
  exact ByteArray.ext (Array.toList_inj.1 h)
/-- What a map tells of a table of texts. -/
def Tells (D : DataW Unit) (t : List ByteArray) : Prop :=
  IsMap D ∧ ∀ s : ByteArray, s.size ≤ maxLen → Maps.has D (keyT s) = decide (place s t < t.length) ∧ (place s t < t.length → D.atKey (keyT s) (.lit (.int .i64 0)) = .lit (.int .i64 (place s t)))
/-- A table of texts, at block g. -/
def TableIn (W : World) (B g : Nat) (t : List ByteArray) : Prop :=
  ∃ gm tv D, W.heap[g]? = some (.cells #[.map (some gm), tv, .int .i64 (t.length : Int)] 125 (0, 0)) ∧ B ≤ g ∧ B ≤ gm ∧ W.ownsMap Try.prog 9 (plainElem Try.prog 3) gm t.length D ∧ Aside0 (Tells D t) ∧
    Kd.R Kd.string 9 W B (fun _ => True) tv t
/-- All blocks of cells but those of tables, and of texts, stay. -/
def IdKeeps (W W' : World) : Prop := W.heap.size ≤ W'.heap.size ∧ ∀ (k : Nat) (cells : Array Value) (q : TypeId) (fr : Nat × Nat), W.heap[k]? = some (.cells cells q fr) → q ≠ 125 → q ≠ 9 → W'.heap[k]? = some (.cells cells q fr)
theorem IdKeeps.refl (W : World) : IdKeeps W W := ⟨Nat.le_refl _, fun _ _ _ _ h _ _ => h⟩
theorem IdKeeps.trans {W W1 W2 : World} (h : IdKeeps W W1) (k : IdKeeps W1 W2) : IdKeeps W W2 := ⟨Nat.le_trans h.1 k.1, fun i c q fr hi h1 h2 => k.2 i c q fr (h.2 i c q fr hi h1 h2) h1 h2⟩
theorem IdKeeps.below {W W1 : World} (h : Below W.heap.size W W1) : IdKeeps W W1 := ⟨h.size, fun i c q fr hi _ _ => (h.block i (Array.getElem?_eq_some_iff.1 hi).1).trans hi⟩
theorem wf_len {n : Nat} (h : n ≤ 140737488355328) : (Lit.int .i64 (n : Int)).wf = true := by
  have e1 : IntKind.i64.min = -9223372036854775808 := rfl
  have e2 : IntKind.i64.max = 9223372036854775807 := rfl
  simp [Lit.wf, go_sem]
  omega

theorem intern_New (w : World) : Calls Try.prog 54 #[] w fun e w' => ∃ g, e = .returned (.pointer (some ⟨g, 0, none⟩)) ∧ Aside0 (TableIn w' w.heap.size g []) ∧ Aside0 (Below w.heap.size w w') := by
  have hmm := @run_makeMap Try.prog
  go_enter Try.func54, Try.ntmps54
  go_wp2
  go_ret
  have hm := World.ownsMap_made (H := Unit) w Try.prog 9 (plainElem Try.prog 3)
  obtain ⟨es, cl, hb, hr⟩ := hm
  refine ⟨_, rfl, ⟨⟨w.heap.size, .slice none 0 0, .map [], ?_, ?_, Nat.le_refl _, ⟨es, cl, ?_, hr⟩, ⟨isMap_empty, fun s hs => ⟨rfl, fun h => by simp [place] at h⟩⟩, Kd.R_nil _ _ _ _ _⟩⟩, ⟨((Below.refl _ w).alloc (Nat.le_refl _) _).alloc (by simp) _⟩⟩
  · have := World.alloc_heap_new (w.alloc (.map #[] 0)) (.cells #[.map (some w.heap.size), .slice none 0 0, .int .i64 0] 125)
    simpa using this
  · simp
  · exact (Below.heap_alloc _ _ _ (by simp)).trans hb
theorem Tells.put {D : DataW Unit} {t : List ByteArray} {s : ByteArray} (h : Tells D t) (hs : ¬ place s t < t.length) (hk : WideAt.IsKeyLit (keyT s)) : Tells (D.put (keyT s) (.lit (.int .i64 (t.length : Int)))) (t ++ [s]) := by
  obtain ⟨hm, hf⟩ := h
  refine ⟨hm.put _ _, fun x hx => ?_⟩
  by_cases e : x = s
  · subst e
    have hp := place_new x [] hs
    rw [has_put_same hm hk, atKey_put_same hm hk, hp]
    simp
  · have hne : keyT x ≠ keyT s := fun h => e (keyT_inj h)
    obtain ⟨h1, h2⟩ := hf x hx
    rw [has_put_other hne, atKey_put_other hne, h1]
    by_cases hp : place x t < t.length
    · rw [place_append x [s] hp]
      refine ⟨?_, fun _ => h2 hp⟩
      simp [hp]; omega
    · have : ¬ x ∈ t ++ [s] := by
        rw [List.mem_append, place_mem]
        rintro (h | h)
        · exact hp h
        · exact e (List.mem_singleton.1 h)
      rw [place_mem] at this
      exact ⟨by rw [decide_eq_false hp, decide_eq_false this], fun h => absurd h this⟩

set_option maxRecDepth 100000 in
set_option maxHeartbeats 1600000 in
theorem atomic_Add (g : Nat) (n : Int) (w : World) (hc : w.cell? ⟨g, 2, none⟩ = some (.int .i64 n)) (hf : w.frozen? ⟨g, 2, none⟩ = false) (hn : 0 ≤ n) (hn2 : n < 1000000000000000) :
    Calls Try.prog 78 #[.pointer (some ⟨g, 2, none⟩), .int .i64 1] w fun e w' => e = .returned (.int .i64 (n + 1)) ∧ w' = w.setCell ⟨g, 2, none⟩ (.int .i64 (n + 1)) := by
  have hs : (Op.intArith .add .i64 n 1).run Try.prog w = .ok (.int .i64 (n + 1)) w := by
    have e : IntKind.i64.wrap (n + 1) = n + 1 := IntWalk.i64_in _ ⟨by omega, by omega⟩
    rw [← e]; rfl
  have hx := run_call_add (P := Try.prog) Try.func85 (by kernel_rfl) (by kernel_rfl) (by kernel_rfl) .i64 (by kernel_rfl) hc hf hs
  go_enter Try.func78, Try.ntmps78
  go_wp2
  go_ret
  exact ⟨rfl, rfl⟩

theorem Kd.R_map {W W1 : World} {b e : Nat} {α : Type} {d : Kd α} {ok : Nat → Prop} {v : Value} {xs : List α} (h : Kd.R d e W b ok v xs) (hb : ∀ (k : Nat) (cells : Array Value) (q : TypeId) (fr : Nat × Nat), W.heap[k]? = some (.cells cells q fr) → q ∈ e :: d.E → W1.heap[k]? = W.heap[k]?) : Kd.R d e W1 b ok v xs := by
  refine Kd.R_mono (Kd.R_move (Kd.R_bound h) (fun k hk => ?_)) (fun k hk => hk.1)
  obtain ⟨_, _, _, q, hq, cells, hc⟩ := hk
  exact hb k cells q _ hc hq

set_option maxRecDepth 100000 in
set_option maxHeartbeats 4000000 in
/-- A text's number; the table then. -/
theorem table_Id (g B : Nat) (t : List ByteArray) (s : ByteArray) (w : World) (h : TableIn w B g t) (hs : s.size ≤ maxLen) (ht : t.length ≤ 1000000000) (hB : B ≤ w.heap.size) :
    Calls Try.prog 55 #[.pointer (some ⟨g, 0, none⟩), .string s] w fun e w' => e = .returned (.int .i64 (place s t)) ∧ Aside0 (TableIn w' B g (addT t s)) ∧ Aside0 (Below B w w') ∧ Aside0 (IdKeeps w w') := by
  have H := Aside0.mk h
  obtain ⟨gm, tv, D, hb, hg, hgm, hown, hT, hR⟩ := h
  have hlt := blk_lt hb
  have hkey : keyOf Try.prog 9 (.string s) = some (keyT s)   := WideMaps.keyOf_string_mk Try.underlying9 hs
  have zE : ∀ w : World, (zeroValue 3).run Try.prog w = .ok (.int .i64 0) w := fun w => by kernel_rfl
  have c0 : w.cell? ⟨g, 0, none⟩ = some (.map (some gm)) := cell_blk hb rfl
  obtain ⟨hD, hTf⟩ := hT.out
  obtain ⟨h1, h2⟩ := hTf s hs
  have HD := Aside0.mk hD
  have HB := Aside0.mk hb
  have HOWN := Aside0.mk hown
  have HR := Aside0.mk hR
  clear hD hTf hb hown hR
  by_cases hp : place s t < t.length
  · have h2' := h2 hp
    rw [decide_eq_true hp] at h1
    have H1 := Aside0.mk h1
    have H2 := Aside0.mk h2'
    clear h1 h2 h2'
    go_enter Try.func55, Try.ntmps55
    go_wp2_with (at_lookup; refine wpList_lookup_own_ok_int _ rfl _ _ 120 rfl 9 3 .i64 (string_keyed Try.underlying9) Try.underlying120 Try.underlying3 (zE _) gm t.length D rfl HOWN.out _ _ rfl hkey ?_; intro c hat hwc; rw [H1.out]; rw [H2.out] at hat; obtain rfl : c = (place s t : Int) := by (injection hat with hat; injection hat with _ hat; exact hat.symm))
    go_ret
    rw [addT, if_pos hp]
    exact ⟨rfl, H, ⟨Below.refl _ _⟩, ⟨IdKeeps.refl _⟩⟩
  · rw [decide_eq_false hp] at h1
    have H1 := Aside0.mk h1
    clear h1 h2
    have hpl := place_not hp
    have z0 : D.atKey (keyT s) (.lit (.int .i64 0)) = .lit (.int .i64 0) := atKey_of_not_has H1.out _
    have Z0 := Aside0.mk z0
    clear z0
    have c2 : w.cell? ⟨g, 2, none⟩ = some (.int .i64 (t.length : Int)) := cell_blk HB.out rfl
    have f2 : w.frozen? ⟨g, 2, none⟩ = false := frozen_of_row _ _ _ _ _ HB.out
    rw [hpl]
    go_enter Try.func55, Try.ntmps55
    go_wp2_with (at_lookup; refine wpList_lookup_own_ok_int _ rfl _ _ 120 rfl 9 3 .i64 (string_keyed Try.underlying9) Try.underlying120 Try.underlying3 (zE _) gm t.length D rfl HOWN.out _ _ rfl hkey ?_; intro c hat hwc; rw [H1.out]; rw [Z0.out] at hat; obtain rfl : c = (0 : Int) := by (injection hat with hat; injection hat with _ hat; exact hat.symm))
    refine (atomic_Add g (t.length : Int) _ c2 f2 (by omega) (by omega)).mono ?_
    rintro e w1 ⟨rfl, rfl⟩
    have hne : gm ≠ g := by
      rintro rfl
      obtain ⟨es, cl, hm, _⟩ := HOWN.out
      rw [HB.out] at hm; cases hm
    obtain ⟨w1, hw1⟩ : ∃ w1, w.setCell ⟨g, 2, none⟩ (.int .i64 ((t.length : Int) + 1)) = w1 := ⟨_, rfl⟩
    have HW1 := Aside0.mk hw1
    rw [hw1]
    have hb1 : w1.heap[g]? = some (.cells #[.map (some gm), tv, .int .i64 ((t.length : Int) + 1)] 125 (0, 0)) := by rw [← hw1]; exact heap_set_same HB.out _
    have ho1 : w1.ownsMap Try.prog 9 (plainElem Try.prog 3) gm t.length D := by
      obtain ⟨es, cl, hm, r⟩ := HOWN.out
      exact ⟨es, cl, by rw [← hw1, heap_set_other hne]; exact hm, r⟩
    have hr1 : Kd.R Kd.string 9 w1 B (fun _ => True) tv t := by rw [← hw1]; exact Kd.R_set HR.out HB.out (by decide) _ _
    have hbl1 : Below B w w1 := by rw [← hw1]; exact (Below.refl _ _).setCell (p := ⟨g, 2, none⟩) hg _
    have hk1 : IdKeeps w w1 := ⟨by rw [← hw1]; simp [World.setCell], fun k cells q fr hk h1 h2 => by
      rw [← hw1, heap_set_other]; · exact hk
      · rintro rfl; rw [HB.out] at hk; cases hk; exact h1 rfl⟩
    clear hw1
    have c10 : w1.cell? ⟨g, 0, none⟩ = some (.map (some gm)) := cell_blk hb1 rfl
    have HB1 := Aside0.mk hb1
    have HO1 := Aside0.mk ho1
    have HR1 := Aside0.mk hr1
    have HL1 := Aside0.mk hbl1
    have HK1 := Aside0.mk hk1
    clear hb1 ho1 hr1 hbl1 hk1
    have e1 : wrap64 ((t.length : Int) + 1 - 1) = (t.length : Int) := by unfold wrap64; omega
    have e2 : (t.length : Int) + 1 - 1 = (t.length : Int) := by omega
    clear c0 c2 f2
    go_wp2_with (first | (at_mapUpdate; (refine wpList_mapUpdate_own _ rfl _ _ _ 120 rfl 9 3 (string_keyed Try.underlying9) Try.underlying120 _ gm t.length D rfl HO1.out (by unfold maxLen; omega) _ _ _ rfl rfl hkey (.lit (.int .i64 (t.length : Int))) [] (plainElem_int Try.underlying3 (wf_len (by omega))) ?_; intro w2 hown2 hgrow2; have hb2 := (hgrow2.block g (blk_lt HB1.out) (fun e => hne (Option.some.inj e).symm)).trans HB1.out; have hr2 : Kd.R Kd.string 9 w2 B (fun _ => True) tv t := Kd.R_map HR1.out (fun k cells q fr hk _ => hgrow2.block k (Array.getElem?_eq_some_iff.1 hk).1 (fun e => by obtain ⟨es, cl, hm, _⟩ := HO1.out; rw [Option.some.inj e, hm] at hk; cases hk)); have c21 : w2.cell? ⟨g, 1, none⟩ = some tv := cell_blk hb2 rfl; obtain ⟨Av, cv, hev⟩ := Kd.R_slice hr2; subst hev; have HB2 := Aside0.mk hb2; have HR2 := Aside0.mk hr2; have HO2 := Aside0.mk hown2; have HG2 := Aside0.mk hgrow2; clear hb2 hr2 hown2 hgrow2)) | (at_builtin; (refine Kd.R_append Kd.string (w0 := w2) B rfl (.tmp 35) (.tmp 37) 34 9 (.string ByteArray.empty) 16 rfl Try.underlying34 info9 rfl (by decide) (by decide) _ t s [.string s] (fun _ => True) (fun _ => False) rfl rfl rfl (fun _ h => h.elim) (fun _ _ => trivial) HR2.out (Below.refl _ _) (Nat.le_trans hB (Nat.le_trans HK1.out.1 HG2.out.size)) (by omega) ?_; intro v3 w3 hr3 hbl3 hg3 hat3; have hgn : some g ≠ (Value.slice Av t.length cv).ownBlock := Kd.R_ne HR2.out HB2.out (by decide); have hb3 := (hg3.block g (blk_lt HB2.out) hgn).trans HB2.out; obtain ⟨A3, c3, hev3⟩ := Kd.R_slice hr3; subst hev3; have c31 := cell_blk (j := 1) hb3 rfl; have f31 : w3.frozen? ⟨g, 1, none⟩ = false := frozen_of_row _ _ _ _ _ hb3; have HR3 := Aside0.mk hr3; have HB3 := Aside0.mk hb3; have HL3 := Aside0.mk hbl3; have HG3 : Aside0 (w2.grownBy w3 (Value.slice Av t.length cv).ownBlock) := Aside0.mk hg3; clear hr3 hb3 hbl3 hg3 hat3)))
    go_ret
    have hadd : addT t s = t ++ [s] := by rw [addT, if_neg hp]
    have hlen : (t ++ [s]).length = t.length + 1 := by simp
    rw [hadd]
    have hgm2 : (Value.slice Av t.length cv).ownBlock ≠ some gm := by
      intro e
      obtain ⟨es, cl, hm, _⟩ := HO2.out
      obtain ⟨cells, hc⟩ := Kd.R_typed HR2.out gm e
      rw [hm] at hc; cases hc
    have hB2 : B ≤ w2.heap.size := Nat.le_trans hB (Nat.le_trans HK1.out.1 HG2.out.size)
    have HR3' := HR3.out
    rw [hlen] at HR3'
    refine ⟨rfl, ⟨⟨gm, .slice A3 (t.length + 1) c3, D.put (keyT s) (.lit (.int .i64 (t.length : Int))), ?_, hg, hgm, ?_, ⟨Tells.put hT.out hp trivial⟩, ?_⟩⟩, ⟨?_⟩, ⟨?_⟩⟩
    · rw [heap_set_same HB3.out, hlen]; rfl
    · obtain ⟨es, cl, hm, r⟩ := HO2.out
      refine ⟨es, cl, ?_, by rw [hlen]; exact r⟩
      rw [heap_set_other hne, HG3.out.block gm (by rcases Nat.lt_or_ge gm w2.heap.size with h | h
                                                   · exact h
                                                   · rw [Array.getElem?_eq_none h] at hm; cases hm) (fun e => hgm2 e.symm)]
      exact hm
    · exact Kd.R_set HR3' HB3.out (by decide) _ _
    · exact (((HL1.out.grown HG2.out (Nat.le_trans hB HK1.out.1) (fun j hj => by rw [← Option.some.inj hj]; exact hgm)).trans HL3.out).setCell (p := ⟨g, 1, none⟩) hg _)
    · refine ⟨?_, fun k cells q fr hk h1 h2 => ?_⟩
      · have a1 := HK1.out.1; have a2 := HG2.out.size; have a3 := HG3.out.size
        simp [World.setCell]; omega
      · have k1 := HK1.out.2 k cells q fr hk h1 h2
        have k2 := (HG2.out.block k (Array.getElem?_eq_some_iff.1 k1).1 (fun e => by
          obtain ⟨es, cl, hm, _⟩ := HO1.out
          rw [Option.some.inj e, hm] at k1; cases k1)).trans k1
        have k3 := (HG3.out.block k (Array.getElem?_eq_some_iff.1 k2).1 (fun e => by
          obtain ⟨cells', hc⟩ := Kd.R_typed HR2.out k e.symm
          rw [k2] at hc; cases hc; exact h2 rfl)).trans k2
        rw [heap_set_other]
        · exact k3
        · rintro rfl
          rw [HB3.out] at k3; cases k3; exact h1 rfl
end Go.Proofs.Ytnlekganlliikaa.X
