/-
  Parts of one proof, one behind the other: XGn1, XTn2, XRef03, XRef19, XGapL, XGapTells, XGapSame.
-/
import Derived.Test.YtnlekganlliikaaBGapLast3
import Derived.IntWalk
-- part XGn1
namespace Go.Proofs.Ytnlekganlliikaa.X
open Go.RowKit Go.Proofs.YtnlekganlliikaaW.PrintWords Go.Proofs.YtnlekganlliikaaW.PrintLast Go.Proofs.YtnlekganlliikaaW.PrintMore
attribute [local go_sem] max2_int min2_int max_two min_two max_three min_three max_four min_four   -- for this text's walks alone
set_option linter.unusedVariables false
set_option linter.unusedSimpArgs false
attribute [local go_sem high] eqA37
def sennitlaw19_awake.f  : Option (Bool) := (gap_Coalesce.f (([(([(⟨#[97]⟩ : ByteArray), (⟨#[98]⟩ : ByteArray)] : List ByteArray)), (([(⟨#[98]⟩ : ByteArray), (⟨#[99]⟩ : ByteArray)] : List ByteArray))] : List (List ByteArray)))).bind fun bt110 => (if 17 ≤ 11728124029610 then ((gap_Coalesce.f (List.replicate 17 [])).bind fun bt117 => (if bt110.2 = 0 then (if bt117.2 = 1 then (if (bt110.1.length : Int) = 3 then (if 0 < (bt110.1.length : Int) then (if ((((rd_T37 bt110.1 0).f0).toList) == ([45, 32] : List UInt8) && ((((rd_T37 bt110.1 0).f1).toList) == ([97] : List UInt8))) = true then (if 1 < (bt110.1.length : Int) then (if ((((rd_T37 bt110.1 1).f0).toList) == ([45, 45] : List UInt8) && ((((rd_T37 bt110.1 1).f1).toList) == ([98] : List UInt8))) = true then (if 2 < (bt110.1.length : Int) then (some ((((rd_T37 bt110.1 2).f0).toList) == ([32, 45] : List UInt8) && ((((rd_T37 bt110.1 2).f1).toList) == ([99] : List UInt8)))) else (none)) else (some false)) else (none)) else (some false)) else (none)) else (some false)) else (some false)) else (some false))) else (none))
set_option maxHeartbeats 8000000 in
set_option maxRecDepth 100000 in
theorem sennitlaw19_awake.calls  (r : Bool) (w : World) (h : sennitlaw19_awake.f  = some r) :
    Calls Try.prog 15 #[] w fun e w' => e = .returned (.bool r) ∧ Below w.heap.size w w' := by
  have hu37 := Try.underlying37
  have HB := Aside0.mk (Below.refl w.heap.size w)
  have H : ((gap_Coalesce.f (([(([(⟨#[97]⟩ : ByteArray), (⟨#[98]⟩ : ByteArray)] : List ByteArray)), (([(⟨#[98]⟩ : ByteArray), (⟨#[99]⟩ : ByteArray)] : List ByteArray))] : List (List ByteArray)))).bind fun bt110 => (if 17 ≤ 11728124029610 then ((gap_Coalesce.f (List.replicate 17 [])).bind fun bt117 => (if bt110.2 = 0 then (if bt117.2 = 1 then (if (bt110.1.length : Int) = 3 then (if 0 < (bt110.1.length : Int) then (if ((((rd_T37 bt110.1 0).f0).toList) == ([45, 32] : List UInt8) && ((((rd_T37 bt110.1 0).f1).toList) == ([97] : List UInt8))) = true then (if 1 < (bt110.1.length : Int) then (if ((((rd_T37 bt110.1 1).f0).toList) == ([45, 45] : List UInt8) && ((((rd_T37 bt110.1 1).f1).toList) == ([98] : List UInt8))) = true then (if 2 < (bt110.1.length : Int) then (some ((((rd_T37 bt110.1 2).f0).toList) == ([32, 45] : List UInt8) && ((((rd_T37 bt110.1 2).f1).toList) == ([99] : List UInt8)))) else (none)) else (some false)) else (none)) else (some false)) else (none)) else (some false)) else (some false)) else (some false))) else (none))) = some r := h
  clear h
  obtain ⟨y101, hy101⟩ : ∃ y_ : List ByteArray, y_ = (([(⟨#[97]⟩ : ByteArray), (⟨#[98]⟩ : ByteArray)] : List ByteArray)) := ⟨_, rfl⟩
  replace H : ((gap_Coalesce.f (([y101, (([(⟨#[98]⟩ : ByteArray), (⟨#[99]⟩ : ByteArray)] : List ByteArray))] : List (List ByteArray)))).bind fun bt110 => (if 17 ≤ 11728124029610 then ((gap_Coalesce.f (List.replicate 17 [])).bind fun bt117 => (if bt110.2 = 0 then (if bt117.2 = 1 then (if (bt110.1.length : Int) = 3 then (if 0 < (bt110.1.length : Int) then (if ((((rd_T37 bt110.1 0).f0).toList) == ([45, 32] : List UInt8) && ((((rd_T37 bt110.1 0).f1).toList) == ([97] : List UInt8))) = true then (if 1 < (bt110.1.length : Int) then (if ((((rd_T37 bt110.1 1).f0).toList) == ([45, 45] : List UInt8) && ((((rd_T37 bt110.1 1).f1).toList) == ([98] : List UInt8))) = true then (if 2 < (bt110.1.length : Int) then (some ((((rd_T37 bt110.1 2).f0).toList) == ([32, 45] : List UInt8) && ((((rd_T37 bt110.1 2).f1).toList) == ([99] : List UInt8)))) else (none)) else (some false)) else (none)) else (some false)) else (none)) else (some false)) else (some false)) else (some false))) else (none))) = some r := by first | (rw [hy101]; with_reducible exact H) | (have H2_ := (Option.bind_some _ _).symm.trans H; rw [hy101]; with_reducible exact H2_) | (have H2_ := (Option.bind_some _ _).symm.trans H; with_reducible exact H2_) | with_reducible exact H | (rw [hy101]; exact H) | exact H
  have Ny101 := Aside0.mk hy101
  clear hy101
  obtain ⟨y104, hy104⟩ : ∃ y_ : List ByteArray, y_ = (([(⟨#[98]⟩ : ByteArray), (⟨#[99]⟩ : ByteArray)] : List ByteArray)) := ⟨_, rfl⟩
  replace H : ((gap_Coalesce.f (([y101, y104] : List (List ByteArray)))).bind fun bt110 => (if 17 ≤ 11728124029610 then ((gap_Coalesce.f (List.replicate 17 [])).bind fun bt117 => (if bt110.2 = 0 then (if bt117.2 = 1 then (if (bt110.1.length : Int) = 3 then (if 0 < (bt110.1.length : Int) then (if ((((rd_T37 bt110.1 0).f0).toList) == ([45, 32] : List UInt8) && ((((rd_T37 bt110.1 0).f1).toList) == ([97] : List UInt8))) = true then (if 1 < (bt110.1.length : Int) then (if ((((rd_T37 bt110.1 1).f0).toList) == ([45, 45] : List UInt8) && ((((rd_T37 bt110.1 1).f1).toList) == ([98] : List UInt8))) = true then (if 2 < (bt110.1.length : Int) then (some ((((rd_T37 bt110.1 2).f0).toList) == ([32, 45] : List UInt8) && ((((rd_T37 bt110.1 2).f1).toList) == ([99] : List UInt8)))) else (none)) else (some false)) else (none)) else (some false)) else (none)) else (some false)) else (some false)) else (some false))) else (none))) = some r := by first | (rw [hy104]; with_reducible exact H) | (have H2_ := (Option.bind_some _ _).symm.trans H; rw [hy104]; with_reducible exact H2_) | (have H2_ := (Option.bind_some _ _).symm.trans H; with_reducible exact H2_) | with_reducible exact H | (rw [hy104]; exact H) | exact H
  have Ny104 := Aside0.mk hy104
  clear hy104
  obtain ⟨y107, hy107⟩ : ∃ y_ : List (List ByteArray), y_ = (([y101, y104] : List (List ByteArray))) := ⟨_, rfl⟩
  replace H : ((gap_Coalesce.f y107).bind fun bt110 => (if 17 ≤ 11728124029610 then ((gap_Coalesce.f (List.replicate 17 [])).bind fun bt117 => (if bt110.2 = 0 then (if bt117.2 = 1 then (if (bt110.1.length : Int) = 3 then (if 0 < (bt110.1.length : Int) then (if ((((rd_T37 bt110.1 0).f0).toList) == ([45, 32] : List UInt8) && ((((rd_T37 bt110.1 0).f1).toList) == ([97] : List UInt8))) = true then (if 1 < (bt110.1.length : Int) then (if ((((rd_T37 bt110.1 1).f0).toList) == ([45, 45] : List UInt8) && ((((rd_T37 bt110.1 1).f1).toList) == ([98] : List UInt8))) = true then (if 2 < (bt110.1.length : Int) then (some ((((rd_T37 bt110.1 2).f0).toList) == ([32, 45] : List UInt8) && ((((rd_T37 bt110.1 2).f1).toList) == ([99] : List UInt8)))) else (none)) else (some false)) else (none)) else (some false)) else (none)) else (some false)) else (some false)) else (some false))) else (none))) = some r := by first | (rw [hy107]; with_reducible exact H) | (have H2_ := (Option.bind_some _ _).symm.trans H; rw [hy107]; with_reducible exact H2_) | (have H2_ := (Option.bind_some _ _).symm.trans H; with_reducible exact H2_) | with_reducible exact H | (rw [hy107]; exact H) | exact H
  have Ny107 := Aside0.mk hy107
  clear hy107
  replace H := Option.bind_eq_some_iff.mp H
  obtain ⟨⟨t110, t111⟩, A10, H⟩ := H
  replace H : (if 17 ≤ 11728124029610 then ((gap_Coalesce.f (List.replicate 17 [])).bind fun bt117 => (if t111 = 0 then (if bt117.2 = 1 then (if (t110.length : Int) = 3 then (if 0 < (t110.length : Int) then (if ((((rd_T37 t110 0).f0).toList) == ([45, 32] : List UInt8) && ((((rd_T37 t110 0).f1).toList) == ([97] : List UInt8))) = true then (if 1 < (t110.length : Int) then (if ((((rd_T37 t110 1).f0).toList) == ([45, 45] : List UInt8) && ((((rd_T37 t110 1).f1).toList) == ([98] : List UInt8))) = true then (if 2 < (t110.length : Int) then (some ((((rd_T37 t110 2).f0).toList) == ([32, 45] : List UInt8) && ((((rd_T37 t110 2).f1).toList) == ([99] : List UInt8)))) else (none)) else (some false)) else (none)) else (some false)) else (none)) else (some false)) else (some false)) else (some false))) else (none)) = some r := H
  have A1 := Aside0.mk A10
  clear A10
  by_cases c2 : 17 ≤ 11728124029610
  · rw [if_pos c2] at H
    have c2b0 := eq_true c2
    have c2b1 : decide (17 ≤ 11728124029610) = true := decide_eq_true c2
    clear c2
    obtain ⟨y114, hy114⟩ : ∃ y_ : List (List ByteArray), y_ = (List.replicate 17 []) := ⟨_, rfl⟩
    replace H : ((gap_Coalesce.f y114).bind fun bt117 => (if t111 = 0 then (if bt117.2 = 1 then (if (t110.length : Int) = 3 then (if 0 < (t110.length : Int) then (if ((((rd_T37 t110 0).f0).toList) == ([45, 32] : List UInt8) && ((((rd_T37 t110 0).f1).toList) == ([97] : List UInt8))) = true then (if 1 < (t110.length : Int) then (if ((((rd_T37 t110 1).f0).toList) == ([45, 45] : List UInt8) && ((((rd_T37 t110 1).f1).toList) == ([98] : List UInt8))) = true then (if 2 < (t110.length : Int) then (some ((((rd_T37 t110 2).f0).toList) == ([32, 45] : List UInt8) && ((((rd_T37 t110 2).f1).toList) == ([99] : List UInt8)))) else (none)) else (some false)) else (none)) else (some false)) else (none)) else (some false)) else (some false)) else (some false))) = some r := by first | (rw [hy114]; with_reducible exact H) | (have H2_ := (Option.bind_some _ _).symm.trans H; rw [hy114]; with_reducible exact H2_) | (have H2_ := (Option.bind_some _ _).symm.trans H; with_reducible exact H2_) | with_reducible exact H | (rw [hy114]; exact H) | exact H
    have Ny114 := Aside0.mk hy114
    clear hy114
    replace H := Option.bind_eq_some_iff.mp H
    obtain ⟨⟨t117, t118⟩, A30, H⟩ := H
    replace H : (if t111 = 0 then (if t118 = 1 then (if (t110.length : Int) = 3 then (if 0 < (t110.length : Int) then (if ((((rd_T37 t110 0).f0).toList) == ([45, 32] : List UInt8) && ((((rd_T37 t110 0).f1).toList) == ([97] : List UInt8))) = true then (if 1 < (t110.length : Int) then (if ((((rd_T37 t110 1).f0).toList) == ([45, 45] : List UInt8) && ((((rd_T37 t110 1).f1).toList) == ([98] : List UInt8))) = true then (if 2 < (t110.length : Int) then (some ((((rd_T37 t110 2).f0).toList) == ([32, 45] : List UInt8) && ((((rd_T37 t110 2).f1).toList) == ([99] : List UInt8)))) else (none)) else (some false)) else (none)) else (some false)) else (none)) else (some false)) else (some false)) else (some false)) = some r := H
    have A3 := Aside0.mk A30
    clear A30
    by_cases c4 : t111 = 0
    · rw [if_pos c4] at H
      have c4b0 : (t111 == 0) = true := beq_iff_eq.mpr c4
      have c4b1 : (t111 != 0) = false := bne_eq_false_iff_eq.mpr c4
      clear c4
      by_cases c5 : t118 = 1
      · rw [if_pos c5] at H
        have c5b0 : (t118 == 1) = true := beq_iff_eq.mpr c5
        have c5b1 : (t118 != 1) = false := bne_eq_false_iff_eq.mpr c5
        clear c5
        by_cases c6 : (t110.length : Int) = 3
        · rw [if_pos c6] at H
          have c6b0 : ((t110.length : Int) == 3) = true := beq_iff_eq.mpr c6
          have c6b1 : ((t110.length : Int) != 3) = false := bne_eq_false_iff_eq.mpr c6
          clear c6
          by_cases c7 : 0 < (t110.length : Int)
          · rw [if_pos c7] at H
            have c7b0 : decide (0 < (t110.length : Int)) = true := decide_eq_true c7
            have c7b1 : decide (0 < t110.length) = true := decide_eq_true (by omega)
            clear c7
            by_cases c8 : ((((rd_T37 t110 0).f0).toList) == ([45, 32] : List UInt8) && ((((rd_T37 t110 0).f1).toList) == ([97] : List UInt8))) = true
            · rw [if_pos c8] at H
              have c8b0 : ((((rd_T37 t110 0).f0).toList) == ([45, 32] : List UInt8) && ((((rd_T37 t110 0).f1).toList) == ([97] : List UInt8))) = true := c8
              (try (have c8b1 : decide ((((rd_T37 t110 0).f0).toList) = ([45, 32] : List UInt8) && ((((rd_T37 t110 0).f1).toList) == ([97] : List UInt8))) = true := by simpa using c8))
              (try (have c8b2 : ((((rd_T37 t110 0).f0).toList) == ([45, 32] : List UInt8) && ((((rd_T37 t110 0).f1).toList) == ([97] : List UInt8))) = true := by simpa using c8))
              clear c8
              by_cases c9 : 1 < (t110.length : Int)
              · rw [if_pos c9] at H
                have c9b0 : decide (1 < (t110.length : Int)) = true := decide_eq_true c9
                have c9b1 : decide (1 < t110.length) = true := decide_eq_true (by omega)
                clear c9
                by_cases c10 : ((((rd_T37 t110 1).f0).toList) == ([45, 45] : List UInt8) && ((((rd_T37 t110 1).f1).toList) == ([98] : List UInt8))) = true
                · rw [if_pos c10] at H
                  have c10b0 : ((((rd_T37 t110 1).f0).toList) == ([45, 45] : List UInt8) && ((((rd_T37 t110 1).f1).toList) == ([98] : List UInt8))) = true := c10
                  (try (have c10b1 : decide ((((rd_T37 t110 1).f0).toList) = ([45, 45] : List UInt8) && ((((rd_T37 t110 1).f1).toList) == ([98] : List UInt8))) = true := by simpa using c10))
                  (try (have c10b2 : ((((rd_T37 t110 1).f0).toList) == ([45, 45] : List UInt8) && ((((rd_T37 t110 1).f1).toList) == ([98] : List UInt8))) = true := by simpa using c10))
                  clear c10
                  by_cases c11 : 2 < (t110.length : Int)
                  · rw [if_pos c11] at H
                    have c11b0 : decide (2 < (t110.length : Int)) = true := decide_eq_true c11
                    have c11b1 : decide (2 < t110.length) = true := decide_eq_true (by omega)
                    clear c11
                    obtain rfl := Option.some.inj H
                    go_enter Try.func15, Try.ntmps15
                    go_wp2_with (first | ((with_reducible refine gate_dst (N := 6) rfl ?_); (try (refine gate_guard (by rfl) ?_; dsimp only)); refine Kd.R_lit Kd.string _ 9 ?hg (N := 6) ?hd (xs := ([(⟨#[97]⟩ : ByteArray), (⟨#[98]⟩ : ByteArray)] : List ByteArray)) (inner := [.string (⟨#[97]⟩ : ByteArray), .string (⟨#[98]⟩ : ByteArray)]) (ok := fun _ => True) (okp := fun _ => True) ?hr ?hp (fun _ hk => hk) trivial (Below.refl _ _) (Nat.le_refl _) (by simp) ?_; (case hd => rfl); (case hg => rfl); (case hr => first | (go_simp; done) | (go_simp; rfl)); (case hp => exact (Reps.one (show Kd.M Kd.string _ _ _ (⟨#[97]⟩ : ByteArray) [.string (⟨#[97]⟩ : ByteArray)] from rfl) (Reps.one (show Kd.M Kd.string _ _ _ (⟨#[98]⟩ : ByteArray) [.string (⟨#[98]⟩ : ByteArray)] from rfl) (Reps.none _ _)))); intro v102 w12 ho13 hb hg_ hnew_; clear hg_ hnew_; (first | rw [← Ny101.out] at ho13 | (simp only [Int.reduceToNat] at ho13; rw [← Ny101.out] at ho13)); have n0_ := Aside0.mk (Kd.R_lower ho13 (below_size (by repeat (first | (with_reducible first | exact HB.out | apply below_alloc | apply pw_below_drewN | apply below_drew1) | exact HB.out)))); have n1_ := Aside0.mk (below_step (by repeat (first | (with_reducible first | exact HB.out | apply below_alloc | apply pw_below_drewN | apply below_drew1) | exact HB.out)) hb); clear HB; have HO103 := n0_; have HB := n1_; clear n0_ n1_; clear hb ho13) | ((with_reducible refine gate_dst (N := 7) rfl ?_); (try (refine gate_guard (by rfl) ?_; dsimp only)); refine Kd.R_lit Kd.string _ 9 ?hg (N := 7) ?hd (xs := ([(⟨#[98]⟩ : ByteArray), (⟨#[99]⟩ : ByteArray)] : List ByteArray)) (inner := [.string (⟨#[98]⟩ : ByteArray), .string (⟨#[99]⟩ : ByteArray)]) (ok := fun _ => True) (okp := fun _ => True) ?hr ?hp (fun _ hk => hk) trivial (Below.refl _ _) (Nat.le_refl _) (by simp) ?_; (case hd => rfl); (case hg => rfl); (case hr => first | (go_simp; done) | (go_simp; rfl)); (case hp => exact (Reps.one (show Kd.M Kd.string _ _ _ (⟨#[98]⟩ : ByteArray) [.string (⟨#[98]⟩ : ByteArray)] from rfl) (Reps.one (show Kd.M Kd.string _ _ _ (⟨#[99]⟩ : ByteArray) [.string (⟨#[99]⟩ : ByteArray)] from rfl) (Reps.none _ _)))); intro v105 w14 ho15 hb hg_ hnew_; clear hg_ hnew_; (first | rw [← Ny104.out] at ho15 | (simp only [Int.reduceToNat] at ho15; rw [← Ny104.out] at ho15)); have n0_ := Aside0.mk (Kd.R_elder' (by (with_reducible repeat (first | apply Kd.R_alloc | apply Kd.R_drewN | apply Kd.R_drew)); exact HO103.out) (Kd.R_base ho15) hb); have n1_ := Aside0.mk (Kd.R_lower (Kd.R_new' ho15 (Kd.R_lt (by (with_reducible repeat (first | apply Kd.R_alloc | apply Kd.R_drewN | apply Kd.R_drew)); exact HO103.out))) (below_size (by repeat (first | (with_reducible first | exact HB.out | apply below_alloc | apply pw_below_drewN | apply below_drew1) | exact HB.out)))); have n2_ := Aside0.mk (below_step (by repeat (first | (with_reducible first | exact HB.out | apply below_alloc | apply pw_below_drewN | apply below_drew1) | exact HB.out)) hb); clear HO103; clear HB; have HO103 := n0_; have HO106 := n1_; have HB := n2_; clear n0_ n1_ n2_; clear hb ho15; obtain ⟨Ao16, co16, eo16⟩ := Kd.R_slice HO103.out; subst eo16; obtain ⟨Ao17, co17, eo17⟩ := Kd.R_slice HO106.out; subst eo17) | ((with_reducible refine gate_dst (N := 8) rfl ?_); (try (refine gate_guard (by rfl) ?_; dsimp only)); refine Kd.N_lit (Kd.slice 9 Kd.string) _ 34 ?hg (N' := 8) ?hd (xs := ([y101, y104] : List (List ByteArray))) (inner := [.slice Ao16 y101.length co16, .slice Ao17 y104.length co17]) (ok := (fun _ => True)) (okp := (fun _ => True)) ?hr ?hp (fun _ hk => hk) ((show ∀ k_, w14.heap.size ≤ k_ → (fun _ => True) k_ from fun k_ hk => trivial) _ (Nat.le_refl _)) (Below.refl _ _) (Nat.le_refl _) (by simp) ?_; (case hd => rfl); (case hg => rfl); (case hr => first | (go_simp; done) | (go_simp; rfl)); (case hp => exact (Reps.one (show Kd.FK (Kd.slice 9 Kd.string) _ _ y101 [.slice Ao16 y101.length co16] from (Kd.FK_slice_mk (Kd.R_reads' (Kd.R_mono (ok' := (fun _ => True)) (HO103.out) (fun k_ hk => trivial))).2.1 (Kd.R_F (Kd.R_mono (ok' := (fun _ => True)) (HO103.out) (fun k_ hk => trivial))))) (Reps.one (show Kd.FK (Kd.slice 9 Kd.string) _ _ y104 [.slice Ao17 y104.length co17] from (Kd.FK_slice_mk (Kd.R_reads' (Kd.R_mono (ok' := (fun _ => True)) (HO106.out) (fun k_ hk => trivial))).2.1 (Kd.R_F (Kd.R_mono (ok' := (fun _ => True)) (HO106.out) (fun k_ hk => trivial))))) (Reps.none _ _)))); intro v108 w18 ho19 hb hg_ hnew_; clear hg_ hnew_; (first | rw [← Ny107.out] at ho19 | (simp only [Int.reduceToNat] at ho19; rw [← Ny107.out] at ho19)); have n0_ := Aside0.mk (Kd.N_lower ho19 (below_size (by repeat (first | (with_reducible first | exact HB.out | apply below_alloc | apply pw_below_drewN | apply below_drew1) | exact HB.out)))); have n1_ := Aside0.mk (below_step (by repeat (first | (with_reducible first | exact HB.out | apply below_alloc | apply pw_below_drewN | apply below_drew1) | exact HB.out)) hb); clear HB; clear HO103; clear HO106; have HO109 := n0_; have HB := n1_; clear n0_ n1_; clear hb ho19; obtain ⟨Ao20, co20, eo20⟩ := Kd.N_slice HO109.out; subst eo20) | ((with_reducible refine gate_callee (f := 17) rfl ?_); refine goesL_ (some 9) rfl rfl Try.func17 (by kernel_rfl) rfl #[.slice Ao20 y107.length co20] rfl (by (try simp only [List.map_toArray, List.map_cons, List.map_nil]); first | done | rfl | (simp only [List.length_drop, List.length_take]; rfl)) ?_; (with_reducible refine (gap_Coalesce.calls _ _ y107 t110 t111 _ ?side1 ?side2 A1.out).mono ?_); (case side1 => repeat (first | exact (Kd.N_reads' HO109.out).2.2 | (with_reducible refine Kd.C_alloc ?_ _) | (with_reducible refine Kd.C_drewN ?_ _) | (with_reducible refine Kd.C_drew ?_))); (case side2 => exact (Kd.N_reads' HO109.out).2.1); rintro e w21 ⟨v112, rfl, ho0, hb⟩; refine ⟨_, rfl, ?_⟩; have n0_ := Aside0.mk (Kd.N_elder' (by (with_reducible repeat (first | apply Kd.N_alloc | apply Kd.N_drewN | apply Kd.N_drew)); exact HO109.out) (Kd.R_base ho0) hb); have n1_ := Aside0.mk (Kd.R_lower ho0 (below_size (by repeat (first | (with_reducible first | exact HB.out | apply below_alloc | apply pw_below_drewN | apply below_drew1) | exact HB.out)))); have n2_ := Aside0.mk (below_step (by repeat (first | (with_reducible first | exact HB.out | apply below_alloc | apply pw_below_drewN | apply below_drew1) | exact HB.out)) hb); clear HO109; clear HB; have HO109 := n0_; have HO113 := n1_; have HB := n2_; clear n0_ n1_ n2_; (try clear hb); (try clear hb2); (try clear hk); (try clear hi); (try clear ho0)) | ((with_reducible refine gate_dst (N := 13) rfl ?_); (try (refine gate_guard (by rfl) ?_; dsimp only)); refine Kd.N_make (Kd.slice 9 Kd.string) _ 34 rfl (N' := 13) rfl 22 _ _ rfl 17 rfl rfl Try.underlying22 (.slice none 0 0) 24 info34 rfl (by decide) (by omega) [] (ok := fun k_ => w21.heap.size ≤ k_) (okp := fun _ => False) (Kd.FK_slice_mk (Nat.le_refl _) (Kd.F_nil _ _ _)) (fun _ hk => hk.elim) (Nat.le_refl _) (by omega) (by omega) (Below.refl _ _) (Nat.le_refl _) ?_; intro v115 w22 ho23 hb hg_ hnew_; clear hg_ hnew_; (first | rw [← Ny114.out] at ho23 | (simp only [Int.reduceToNat] at ho23; rw [← Ny114.out] at ho23)); have n0_ := Aside0.mk (Kd.N_elder' (by (with_reducible repeat (first | apply Kd.N_alloc | apply Kd.N_drewN | apply Kd.N_drew)); exact HO109.out) (Kd.N_base ho23) hb); have n1_ := Aside0.mk (Kd.R_below (by (with_reducible repeat (first | apply Kd.R_alloc | apply Kd.R_drewN | apply Kd.R_drew)); exact HO113.out) hb); have n2_ := Aside0.mk (Kd.N_lower (Kd.N_mono (ok' := fun k_ => some k_ ≠ (.slice Ao20 y107.length co20 : Value).ownBlock ∧ some k_ ≠ (v112 : Value).ownBlock) ho23 (fun k_ hk_ => ⟨(Kd.fresh' (Kd.N_lt (by (with_reducible repeat (first | apply Kd.N_alloc | apply Kd.N_drewN | apply Kd.N_drew)); exact HO109.out)) k_ hk_), (Kd.fresh' (Kd.R_lt (by (with_reducible repeat (first | apply Kd.R_alloc | apply Kd.R_drewN | apply Kd.R_drew)); exact HO113.out)) k_ hk_)⟩)) (below_size (by repeat (first | (with_reducible first | exact HB.out | apply below_alloc | apply pw_below_drewN | apply below_drew1) | exact HB.out)))); have n3_ := Aside0.mk (below_step (by repeat (first | (with_reducible first | exact HB.out | apply below_alloc | apply pw_below_drewN | apply below_drew1) | exact HB.out)) hb); clear HO109; clear HO113; clear HB; have HO109 := n0_; have HO113 := n1_; have HO116 := n2_; have HB := n3_; clear n0_ n1_ n2_ n3_; clear hb ho23; obtain ⟨Ao24, co24, eo24⟩ := Kd.N_slice HO116.out; subst eo24) | ((with_reducible refine gate_callee (f := 17) rfl ?_); refine goesL_ (some 14) rfl rfl Try.func17 (by kernel_rfl) rfl #[.slice Ao24 y114.length co24] rfl (by (try simp only [List.map_toArray, List.map_cons, List.map_nil]); first | done | rfl | (simp only [List.length_drop, List.length_take]; rfl)) ?_; (with_reducible refine (gap_Coalesce.calls _ _ y114 t117 t118 _ ?side1 ?side2 A3.out).mono ?_); (case side1 => repeat (first | exact (Kd.N_reads' HO116.out).2.2 | (with_reducible refine Kd.C_alloc ?_ _) | (with_reducible refine Kd.C_drewN ?_ _) | (with_reducible refine Kd.C_drew ?_))); (case side2 => exact (Kd.N_reads' HO116.out).2.1); rintro e w25 ⟨v119, rfl, ho0, hb⟩; refine ⟨_, rfl, ?_⟩; have n0_ := Aside0.mk (Kd.N_elder' (by (with_reducible repeat (first | apply Kd.N_alloc | apply Kd.N_drewN | apply Kd.N_drew)); exact HO109.out) (Kd.R_base ho0) hb); have n1_ := Aside0.mk (Kd.R_elder' (by (with_reducible repeat (first | apply Kd.R_alloc | apply Kd.R_drewN | apply Kd.R_drew)); exact HO113.out) (Kd.R_base ho0) hb); have n2_ := Aside0.mk (Kd.N_elder' (by (with_reducible repeat (first | apply Kd.N_alloc | apply Kd.N_drewN | apply Kd.N_drew)); exact HO116.out) (Kd.R_base ho0) hb); have n3_ := Aside0.mk (Kd.R_lower (Kd.R_new' ho0 (Kd.R_lt (by (with_reducible repeat (first | apply Kd.R_alloc | apply Kd.R_drewN | apply Kd.R_drew)); exact HO113.out))) (below_size (by repeat (first | (with_reducible first | exact HB.out | apply below_alloc | apply pw_below_drewN | apply below_drew1) | exact HB.out)))); have n4_ := Aside0.mk (below_step (by repeat (first | (with_reducible first | exact HB.out | apply below_alloc | apply pw_below_drewN | apply below_drew1) | exact HB.out)) hb); clear HO109; clear HO113; clear HO116; clear HB; have HO109 := n0_; have HO113 := n1_; have HO116 := n2_; have HO120 := n3_; have HB := n4_; clear n0_ n1_ n2_ n3_ n4_; (try clear hb); (try clear hb2); (try clear hk); (try clear hi); (try clear ho0); obtain ⟨Ao26, co26, eo26⟩ := Kd.R_slice HO113.out; subst eo26; have p121 : 0 ≤ (0 : Int) := (by omega); have q121 : 0 < (t110.length : Int) := of_decide_eq_true (by first | (with_reducible assumption) | assumption); obtain ⟨ad121, e121, hx121_0, hx121_1⟩ := at_T37 (Kd.R_reads' HO113.out).2.2 0 p121 q121; cases e121; have qi121 : (0 < t110.length) = True := eq_true (by omega); (try rw [show ((0 : Int)).toNat = 0 from rfl] at hx121_0); (try rw [show 0 * 2 = 0 from rfl] at hx121_0); (try rw [Addr.add_zero'] at hx121_0); (try rw [show ((0 : Int)).toNat = 0 from rfl] at hx121_1); (try rw [show 0 * 2 = 0 from rfl] at hx121_1); (try rw [Addr.add_zero'] at hx121_1); replace p121 := eq_true p121; replace q121 := eq_true q121; have p122 : 0 ≤ (1 : Int) := (by omega); have q122 : 1 < (t110.length : Int) := of_decide_eq_true (by first | (with_reducible assumption) | assumption); obtain ⟨ad122, e122, hx122_0, hx122_1⟩ := at_T37 (Kd.R_reads' HO113.out).2.2 1 p122 q122; obtain rfl : ad121 = ad122 := (by injection e122); (try simp only [show (1 : Int).toNat = 1 from rfl, Nat.reduceMul, Nat.reduceEqDiff, Go.Addr.add, ↓reduceIte] at hx122_0); (try simp only [show (1 : Int).toNat = 1 from rfl, Nat.reduceMul, Nat.reduceEqDiff, Go.Addr.add, ↓reduceIte] at hx122_1); have qi122 : (1 < t110.length) = True := eq_true (by omega); (try rw [show ((1 : Int)).toNat = 1 from rfl] at hx122_0); (try rw [show 1 * 2 = 2 from rfl] at hx122_0); (try rw [show ((1 : Int)).toNat = 1 from rfl] at hx122_1); (try rw [show 1 * 2 = 2 from rfl] at hx122_1); replace p122 := eq_true p122; replace q122 := eq_true q122; have p123 : 0 ≤ (2 : Int) := (by omega); have q123 : 2 < (t110.length : Int) := of_decide_eq_true (by first | (with_reducible assumption) | assumption); obtain ⟨ad123, e123, hx123_0, hx123_1⟩ := at_T37 (Kd.R_reads' HO113.out).2.2 2 p123 q123; obtain rfl : ad121 = ad123 := (by injection e123); (try simp only [show (2 : Int).toNat = 2 from rfl, Nat.reduceMul, Nat.reduceEqDiff, Go.Addr.add, ↓reduceIte] at hx123_0); (try simp only [show (2 : Int).toNat = 2 from rfl, Nat.reduceMul, Nat.reduceEqDiff, Go.Addr.add, ↓reduceIte] at hx123_1); have qi123 : (2 < t110.length) = True := eq_true (by omega); (try rw [show ((2 : Int)).toNat = 2 from rfl] at hx123_0); (try rw [show 2 * 2 = 4 from rfl] at hx123_0); (try rw [show ((2 : Int)).toNat = 2 from rfl] at hx123_1); (try rw [show 2 * 2 = 4 from rfl] at hx123_1); replace p123 := eq_true p123; replace q123 := eq_true q123))
                    go_ret
                    exact ⟨by first | rfl | (simp [errW_none, errW_some] <;> rfl) | (simp [*, errW_none, errW_some] <;> rfl), by repeat (first | (with_reducible first | exact HB.out | apply below_alloc | apply pw_below_drewN | apply below_drew1) | exact HB.out)⟩
                  · rw [if_neg c11] at H
                    exact absurd H (by simp)
                · rw [if_neg c10] at H
                  have c10b0 : ((((rd_T37 t110 1).f0).toList) == ([45, 45] : List UInt8) && ((((rd_T37 t110 1).f1).toList) == ([98] : List UInt8))) = false := by simpa using c10
                  (try (have c10b1 : decide ((((rd_T37 t110 1).f0).toList) = ([45, 45] : List UInt8) && ((((rd_T37 t110 1).f1).toList) == ([98] : List UInt8))) = false := by simpa using c10))
                  (try (have c10b2 : ((((rd_T37 t110 1).f0).toList) == ([45, 45] : List UInt8) && ((((rd_T37 t110 1).f1).toList) == ([98] : List UInt8))) = false := by simpa using c10))
                  (try (have c10b3 : ¬ ((((rd_T37 t110 1).f0).toList) = ([45, 45] : List UInt8) && ((((rd_T37 t110 1).f1).toList) == ([98] : List UInt8))) := by simpa using c10))
                  clear c10
                  obtain rfl := Option.some.inj H
                  go_enter Try.func15, Try.ntmps15
                  go_wp2_with (first | ((with_reducible refine gate_dst (N := 6) rfl ?_); (try (refine gate_guard (by rfl) ?_; dsimp only)); refine Kd.R_lit Kd.string _ 9 ?hg (N := 6) ?hd (xs := ([(⟨#[97]⟩ : ByteArray), (⟨#[98]⟩ : ByteArray)] : List ByteArray)) (inner := [.string (⟨#[97]⟩ : ByteArray), .string (⟨#[98]⟩ : ByteArray)]) (ok := fun _ => True) (okp := fun _ => True) ?hr ?hp (fun _ hk => hk) trivial (Below.refl _ _) (Nat.le_refl _) (by simp) ?_; (case hd => rfl); (case hg => rfl); (case hr => first | (go_simp; done) | (go_simp; rfl)); (case hp => exact (Reps.one (show Kd.M Kd.string _ _ _ (⟨#[97]⟩ : ByteArray) [.string (⟨#[97]⟩ : ByteArray)] from rfl) (Reps.one (show Kd.M Kd.string _ _ _ (⟨#[98]⟩ : ByteArray) [.string (⟨#[98]⟩ : ByteArray)] from rfl) (Reps.none _ _)))); intro v102 w27 ho28 hb hg_ hnew_; clear hg_ hnew_; (first | rw [← Ny101.out] at ho28 | (simp only [Int.reduceToNat] at ho28; rw [← Ny101.out] at ho28)); have n0_ := Aside0.mk (Kd.R_lower ho28 (below_size (by repeat (first | (with_reducible first | exact HB.out | apply below_alloc | apply pw_below_drewN | apply below_drew1) | exact HB.out)))); have n1_ := Aside0.mk (below_step (by repeat (first | (with_reducible first | exact HB.out | apply below_alloc | apply pw_below_drewN | apply below_drew1) | exact HB.out)) hb); clear HB; have HO103 := n0_; have HB := n1_; clear n0_ n1_; clear hb ho28) | ((with_reducible refine gate_dst (N := 7) rfl ?_); (try (refine gate_guard (by rfl) ?_; dsimp only)); refine Kd.R_lit Kd.string _ 9 ?hg (N := 7) ?hd (xs := ([(⟨#[98]⟩ : ByteArray), (⟨#[99]⟩ : ByteArray)] : List ByteArray)) (inner := [.string (⟨#[98]⟩ : ByteArray), .string (⟨#[99]⟩ : ByteArray)]) (ok := fun _ => True) (okp := fun _ => True) ?hr ?hp (fun _ hk => hk) trivial (Below.refl _ _) (Nat.le_refl _) (by simp) ?_; (case hd => rfl); (case hg => rfl); (case hr => first | (go_simp; done) | (go_simp; rfl)); (case hp => exact (Reps.one (show Kd.M Kd.string _ _ _ (⟨#[98]⟩ : ByteArray) [.string (⟨#[98]⟩ : ByteArray)] from rfl) (Reps.one (show Kd.M Kd.string _ _ _ (⟨#[99]⟩ : ByteArray) [.string (⟨#[99]⟩ : ByteArray)] from rfl) (Reps.none _ _)))); intro v105 w29 ho30 hb hg_ hnew_; clear hg_ hnew_; (first | rw [← Ny104.out] at ho30 | (simp only [Int.reduceToNat] at ho30; rw [← Ny104.out] at ho30)); have n0_ := Aside0.mk (Kd.R_elder' (by (with_reducible repeat (first | apply Kd.R_alloc | apply Kd.R_drewN | apply Kd.R_drew)); exact HO103.out) (Kd.R_base ho30) hb); have n1_ := Aside0.mk (Kd.R_lower (Kd.R_new' ho30 (Kd.R_lt (by (with_reducible repeat (first | apply Kd.R_alloc | apply Kd.R_drewN | apply Kd.R_drew)); exact HO103.out))) (below_size (by repeat (first | (with_reducible first | exact HB.out | apply below_alloc | apply pw_below_drewN | apply below_drew1) | exact HB.out)))); have n2_ := Aside0.mk (below_step (by repeat (first | (with_reducible first | exact HB.out | apply below_alloc | apply pw_below_drewN | apply below_drew1) | exact HB.out)) hb); clear HO103; clear HB; have HO103 := n0_; have HO106 := n1_; have HB := n2_; clear n0_ n1_ n2_; clear hb ho30; obtain ⟨Ao31, co31, eo31⟩ := Kd.R_slice HO103.out; subst eo31; obtain ⟨Ao32, co32, eo32⟩ := Kd.R_slice HO106.out; subst eo32) | ((with_reducible refine gate_dst (N := 8) rfl ?_); (try (refine gate_guard (by rfl) ?_; dsimp only)); refine Kd.N_lit (Kd.slice 9 Kd.string) _ 34 ?hg (N' := 8) ?hd (xs := ([y101, y104] : List (List ByteArray))) (inner := [.slice Ao31 y101.length co31, .slice Ao32 y104.length co32]) (ok := (fun _ => True)) (okp := (fun _ => True)) ?hr ?hp (fun _ hk => hk) ((show ∀ k_, w29.heap.size ≤ k_ → (fun _ => True) k_ from fun k_ hk => trivial) _ (Nat.le_refl _)) (Below.refl _ _) (Nat.le_refl _) (by simp) ?_; (case hd => rfl); (case hg => rfl); (case hr => first | (go_simp; done) | (go_simp; rfl)); (case hp => exact (Reps.one (show Kd.FK (Kd.slice 9 Kd.string) _ _ y101 [.slice Ao31 y101.length co31] from (Kd.FK_slice_mk (Kd.R_reads' (Kd.R_mono (ok' := (fun _ => True)) (HO103.out) (fun k_ hk => trivial))).2.1 (Kd.R_F (Kd.R_mono (ok' := (fun _ => True)) (HO103.out) (fun k_ hk => trivial))))) (Reps.one (show Kd.FK (Kd.slice 9 Kd.string) _ _ y104 [.slice Ao32 y104.length co32] from (Kd.FK_slice_mk (Kd.R_reads' (Kd.R_mono (ok' := (fun _ => True)) (HO106.out) (fun k_ hk => trivial))).2.1 (Kd.R_F (Kd.R_mono (ok' := (fun _ => True)) (HO106.out) (fun k_ hk => trivial))))) (Reps.none _ _)))); intro v108 w33 ho34 hb hg_ hnew_; clear hg_ hnew_; (first | rw [← Ny107.out] at ho34 | (simp only [Int.reduceToNat] at ho34; rw [← Ny107.out] at ho34)); have n0_ := Aside0.mk (Kd.N_lower ho34 (below_size (by repeat (first | (with_reducible first | exact HB.out | apply below_alloc | apply pw_below_drewN | apply below_drew1) | exact HB.out)))); have n1_ := Aside0.mk (below_step (by repeat (first | (with_reducible first | exact HB.out | apply below_alloc | apply pw_below_drewN | apply below_drew1) | exact HB.out)) hb); clear HB; clear HO103; clear HO106; have HO109 := n0_; have HB := n1_; clear n0_ n1_; clear hb ho34; obtain ⟨Ao35, co35, eo35⟩ := Kd.N_slice HO109.out; subst eo35) | ((with_reducible refine gate_callee (f := 17) rfl ?_); refine goesL_ (some 9) rfl rfl Try.func17 (by kernel_rfl) rfl #[.slice Ao35 y107.length co35] rfl (by (try simp only [List.map_toArray, List.map_cons, List.map_nil]); first | done | rfl | (simp only [List.length_drop, List.length_take]; rfl)) ?_; (with_reducible refine (gap_Coalesce.calls _ _ y107 t110 t111 _ ?side1 ?side2 A1.out).mono ?_); (case side1 => repeat (first | exact (Kd.N_reads' HO109.out).2.2 | (with_reducible refine Kd.C_alloc ?_ _) | (with_reducible refine Kd.C_drewN ?_ _) | (with_reducible refine Kd.C_drew ?_))); (case side2 => exact (Kd.N_reads' HO109.out).2.1); rintro e w36 ⟨v112, rfl, ho0, hb⟩; refine ⟨_, rfl, ?_⟩; have n0_ := Aside0.mk (Kd.N_elder' (by (with_reducible repeat (first | apply Kd.N_alloc | apply Kd.N_drewN | apply Kd.N_drew)); exact HO109.out) (Kd.R_base ho0) hb); have n1_ := Aside0.mk (Kd.R_lower ho0 (below_size (by repeat (first | (with_reducible first | exact HB.out | apply below_alloc | apply pw_below_drewN | apply below_drew1) | exact HB.out)))); have n2_ := Aside0.mk (below_step (by repeat (first | (with_reducible first | exact HB.out | apply below_alloc | apply pw_below_drewN | apply below_drew1) | exact HB.out)) hb); clear HO109; clear HB; have HO109 := n0_; have HO113 := n1_; have HB := n2_; clear n0_ n1_ n2_; (try clear hb); (try clear hb2); (try clear hk); (try clear hi); (try clear ho0)) | ((with_reducible refine gate_dst (N := 13) rfl ?_); (try (refine gate_guard (by rfl) ?_; dsimp only)); refine Kd.N_make (Kd.slice 9 Kd.string) _ 34 rfl (N' := 13) rfl 22 _ _ rfl 17 rfl rfl Try.underlying22 (.slice none 0 0) 24 info34 rfl (by decide) (by omega) [] (ok := fun k_ => w36.heap.size ≤ k_) (okp := fun _ => False) (Kd.FK_slice_mk (Nat.le_refl _) (Kd.F_nil _ _ _)) (fun _ hk => hk.elim) (Nat.le_refl _) (by omega) (by omega) (Below.refl _ _) (Nat.le_refl _) ?_; intro v115 w37 ho38 hb hg_ hnew_; clear hg_ hnew_; (first | rw [← Ny114.out] at ho38 | (simp only [Int.reduceToNat] at ho38; rw [← Ny114.out] at ho38)); have n0_ := Aside0.mk (Kd.N_elder' (by (with_reducible repeat (first | apply Kd.N_alloc | apply Kd.N_drewN | apply Kd.N_drew)); exact HO109.out) (Kd.N_base ho38) hb); have n1_ := Aside0.mk (Kd.R_below (by (with_reducible repeat (first | apply Kd.R_alloc | apply Kd.R_drewN | apply Kd.R_drew)); exact HO113.out) hb); have n2_ := Aside0.mk (Kd.N_lower (Kd.N_mono (ok' := fun k_ => some k_ ≠ (.slice Ao35 y107.length co35 : Value).ownBlock ∧ some k_ ≠ (v112 : Value).ownBlock) ho38 (fun k_ hk_ => ⟨(Kd.fresh' (Kd.N_lt (by (with_reducible repeat (first | apply Kd.N_alloc | apply Kd.N_drewN | apply Kd.N_drew)); exact HO109.out)) k_ hk_), (Kd.fresh' (Kd.R_lt (by (with_reducible repeat (first | apply Kd.R_alloc | apply Kd.R_drewN | apply Kd.R_drew)); exact HO113.out)) k_ hk_)⟩)) (below_size (by repeat (first | (with_reducible first | exact HB.out | apply below_alloc | apply pw_below_drewN | apply below_drew1) | exact HB.out)))); have n3_ := Aside0.mk (below_step (by repeat (first | (with_reducible first | exact HB.out | apply below_alloc | apply pw_below_drewN | apply below_drew1) | exact HB.out)) hb); clear HO109; clear HO113; clear HB; have HO109 := n0_; have HO113 := n1_; have HO116 := n2_; have HB := n3_; clear n0_ n1_ n2_ n3_; clear hb ho38; obtain ⟨Ao39, co39, eo39⟩ := Kd.N_slice HO116.out; subst eo39) | ((with_reducible refine gate_callee (f := 17) rfl ?_); refine goesL_ (some 14) rfl rfl Try.func17 (by kernel_rfl) rfl #[.slice Ao39 y114.length co39] rfl (by (try simp only [List.map_toArray, List.map_cons, List.map_nil]); first | done | rfl | (simp only [List.length_drop, List.length_take]; rfl)) ?_; (with_reducible refine (gap_Coalesce.calls _ _ y114 t117 t118 _ ?side1 ?side2 A3.out).mono ?_); (case side1 => repeat (first | exact (Kd.N_reads' HO116.out).2.2 | (with_reducible refine Kd.C_alloc ?_ _) | (with_reducible refine Kd.C_drewN ?_ _) | (with_reducible refine Kd.C_drew ?_))); (case side2 => exact (Kd.N_reads' HO116.out).2.1); rintro e w40 ⟨v119, rfl, ho0, hb⟩; refine ⟨_, rfl, ?_⟩; have n0_ := Aside0.mk (Kd.N_elder' (by (with_reducible repeat (first | apply Kd.N_alloc | apply Kd.N_drewN | apply Kd.N_drew)); exact HO109.out) (Kd.R_base ho0) hb); have n1_ := Aside0.mk (Kd.R_elder' (by (with_reducible repeat (first | apply Kd.R_alloc | apply Kd.R_drewN | apply Kd.R_drew)); exact HO113.out) (Kd.R_base ho0) hb); have n2_ := Aside0.mk (Kd.N_elder' (by (with_reducible repeat (first | apply Kd.N_alloc | apply Kd.N_drewN | apply Kd.N_drew)); exact HO116.out) (Kd.R_base ho0) hb); have n3_ := Aside0.mk (Kd.R_lower (Kd.R_new' ho0 (Kd.R_lt (by (with_reducible repeat (first | apply Kd.R_alloc | apply Kd.R_drewN | apply Kd.R_drew)); exact HO113.out))) (below_size (by repeat (first | (with_reducible first | exact HB.out | apply below_alloc | apply pw_below_drewN | apply below_drew1) | exact HB.out)))); have n4_ := Aside0.mk (below_step (by repeat (first | (with_reducible first | exact HB.out | apply below_alloc | apply pw_below_drewN | apply below_drew1) | exact HB.out)) hb); clear HO109; clear HO113; clear HO116; clear HB; have HO109 := n0_; have HO113 := n1_; have HO116 := n2_; have HO120 := n3_; have HB := n4_; clear n0_ n1_ n2_ n3_ n4_; (try clear hb); (try clear hb2); (try clear hk); (try clear hi); (try clear ho0); obtain ⟨Ao41, co41, eo41⟩ := Kd.R_slice HO113.out; subst eo41; have p121 : 0 ≤ (0 : Int) := (by omega); have q121 : 0 < (t110.length : Int) := of_decide_eq_true (by first | (with_reducible assumption) | assumption); obtain ⟨ad121, e121, hx121_0, hx121_1⟩ := at_T37 (Kd.R_reads' HO113.out).2.2 0 p121 q121; cases e121; have qi121 : (0 < t110.length) = True := eq_true (by omega); (try rw [show ((0 : Int)).toNat = 0 from rfl] at hx121_0); (try rw [show 0 * 2 = 0 from rfl] at hx121_0); (try rw [Addr.add_zero'] at hx121_0); (try rw [show ((0 : Int)).toNat = 0 from rfl] at hx121_1); (try rw [show 0 * 2 = 0 from rfl] at hx121_1); (try rw [Addr.add_zero'] at hx121_1); replace p121 := eq_true p121; replace q121 := eq_true q121; have p122 : 0 ≤ (1 : Int) := (by omega); have q122 : 1 < (t110.length : Int) := of_decide_eq_true (by first | (with_reducible assumption) | assumption); obtain ⟨ad122, e122, hx122_0, hx122_1⟩ := at_T37 (Kd.R_reads' HO113.out).2.2 1 p122 q122; obtain rfl : ad121 = ad122 := (by injection e122); (try simp only [show (1 : Int).toNat = 1 from rfl, Nat.reduceMul, Nat.reduceEqDiff, Go.Addr.add, ↓reduceIte] at hx122_0); (try simp only [show (1 : Int).toNat = 1 from rfl, Nat.reduceMul, Nat.reduceEqDiff, Go.Addr.add, ↓reduceIte] at hx122_1); have qi122 : (1 < t110.length) = True := eq_true (by omega); (try rw [show ((1 : Int)).toNat = 1 from rfl] at hx122_0); (try rw [show 1 * 2 = 2 from rfl] at hx122_0); (try rw [show ((1 : Int)).toNat = 1 from rfl] at hx122_1); (try rw [show 1 * 2 = 2 from rfl] at hx122_1); replace p122 := eq_true p122; replace q122 := eq_true q122))
                  go_ret
                  exact ⟨by first | rfl | (simp [errW_none, errW_some] <;> rfl) | (simp [*, errW_none, errW_some] <;> rfl), by repeat (first | (with_reducible first | exact HB.out | apply below_alloc | apply pw_below_drewN | apply below_drew1) | exact HB.out)⟩
              · rw [if_neg c9] at H
                exact absurd H (by simp)
            · rw [if_neg c8] at H
              have c8b0 : ((((rd_T37 t110 0).f0).toList) == ([45, 32] : List UInt8) && ((((rd_T37 t110 0).f1).toList) == ([97] : List UInt8))) = false := by simpa using c8
              (try (have c8b1 : decide ((((rd_T37 t110 0).f0).toList) = ([45, 32] : List UInt8) && ((((rd_T37 t110 0).f1).toList) == ([97] : List UInt8))) = false := by simpa using c8))
              (try (have c8b2 : ((((rd_T37 t110 0).f0).toList) == ([45, 32] : List UInt8) && ((((rd_T37 t110 0).f1).toList) == ([97] : List UInt8))) = false := by simpa using c8))
              (try (have c8b3 : ¬ ((((rd_T37 t110 0).f0).toList) = ([45, 32] : List UInt8) && ((((rd_T37 t110 0).f1).toList) == ([97] : List UInt8))) := by simpa using c8))
              clear c8
              obtain rfl := Option.some.inj H
              go_enter Try.func15, Try.ntmps15
              go_wp2_with (first | ((with_reducible refine gate_dst (N := 6) rfl ?_); (try (refine gate_guard (by rfl) ?_; dsimp only)); refine Kd.R_lit Kd.string _ 9 ?hg (N := 6) ?hd (xs := ([(⟨#[97]⟩ : ByteArray), (⟨#[98]⟩ : ByteArray)] : List ByteArray)) (inner := [.string (⟨#[97]⟩ : ByteArray), .string (⟨#[98]⟩ : ByteArray)]) (ok := fun _ => True) (okp := fun _ => True) ?hr ?hp (fun _ hk => hk) trivial (Below.refl _ _) (Nat.le_refl _) (by simp) ?_; (case hd => rfl); (case hg => rfl); (case hr => first | (go_simp; done) | (go_simp; rfl)); (case hp => exact (Reps.one (show Kd.M Kd.string _ _ _ (⟨#[97]⟩ : ByteArray) [.string (⟨#[97]⟩ : ByteArray)] from rfl) (Reps.one (show Kd.M Kd.string _ _ _ (⟨#[98]⟩ : ByteArray) [.string (⟨#[98]⟩ : ByteArray)] from rfl) (Reps.none _ _)))); intro v102 w42 ho43 hb hg_ hnew_; clear hg_ hnew_; (first | rw [← Ny101.out] at ho43 | (simp only [Int.reduceToNat] at ho43; rw [← Ny101.out] at ho43)); have n0_ := Aside0.mk (Kd.R_lower ho43 (below_size (by repeat (first | (with_reducible first | exact HB.out | apply below_alloc | apply pw_below_drewN | apply below_drew1) | exact HB.out)))); have n1_ := Aside0.mk (below_step (by repeat (first | (with_reducible first | exact HB.out | apply below_alloc | apply pw_below_drewN | apply below_drew1) | exact HB.out)) hb); clear HB; have HO103 := n0_; have HB := n1_; clear n0_ n1_; clear hb ho43) | ((with_reducible refine gate_dst (N := 7) rfl ?_); (try (refine gate_guard (by rfl) ?_; dsimp only)); refine Kd.R_lit Kd.string _ 9 ?hg (N := 7) ?hd (xs := ([(⟨#[98]⟩ : ByteArray), (⟨#[99]⟩ : ByteArray)] : List ByteArray)) (inner := [.string (⟨#[98]⟩ : ByteArray), .string (⟨#[99]⟩ : ByteArray)]) (ok := fun _ => True) (okp := fun _ => True) ?hr ?hp (fun _ hk => hk) trivial (Below.refl _ _) (Nat.le_refl _) (by simp) ?_; (case hd => rfl); (case hg => rfl); (case hr => first | (go_simp; done) | (go_simp; rfl)); (case hp => exact (Reps.one (show Kd.M Kd.string _ _ _ (⟨#[98]⟩ : ByteArray) [.string (⟨#[98]⟩ : ByteArray)] from rfl) (Reps.one (show Kd.M Kd.string _ _ _ (⟨#[99]⟩ : ByteArray) [.string (⟨#[99]⟩ : ByteArray)] from rfl) (Reps.none _ _)))); intro v105 w44 ho45 hb hg_ hnew_; clear hg_ hnew_; (first | rw [← Ny104.out] at ho45 | (simp only [Int.reduceToNat] at ho45; rw [← Ny104.out] at ho45)); have n0_ := Aside0.mk (Kd.R_elder' (by (with_reducible repeat (first | apply Kd.R_alloc | apply Kd.R_drewN | apply Kd.R_drew)); exact HO103.out) (Kd.R_base ho45) hb); have n1_ := Aside0.mk (Kd.R_lower (Kd.R_new' ho45 (Kd.R_lt (by (with_reducible repeat (first | apply Kd.R_alloc | apply Kd.R_drewN | apply Kd.R_drew)); exact HO103.out))) (below_size (by repeat (first | (with_reducible first | exact HB.out | apply below_alloc | apply pw_below_drewN | apply below_drew1) | exact HB.out)))); have n2_ := Aside0.mk (below_step (by repeat (first | (with_reducible first | exact HB.out | apply below_alloc | apply pw_below_drewN | apply below_drew1) | exact HB.out)) hb); clear HO103; clear HB; have HO103 := n0_; have HO106 := n1_; have HB := n2_; clear n0_ n1_ n2_; clear hb ho45; obtain ⟨Ao46, co46, eo46⟩ := Kd.R_slice HO103.out; subst eo46; obtain ⟨Ao47, co47, eo47⟩ := Kd.R_slice HO106.out; subst eo47) | ((with_reducible refine gate_dst (N := 8) rfl ?_); (try (refine gate_guard (by rfl) ?_; dsimp only)); refine Kd.N_lit (Kd.slice 9 Kd.string) _ 34 ?hg (N' := 8) ?hd (xs := ([y101, y104] : List (List ByteArray))) (inner := [.slice Ao46 y101.length co46, .slice Ao47 y104.length co47]) (ok := (fun _ => True)) (okp := (fun _ => True)) ?hr ?hp (fun _ hk => hk) ((show ∀ k_, w44.heap.size ≤ k_ → (fun _ => True) k_ from fun k_ hk => trivial) _ (Nat.le_refl _)) (Below.refl _ _) (Nat.le_refl _) (by simp) ?_; (case hd => rfl); (case hg => rfl); (case hr => first | (go_simp; done) | (go_simp; rfl)); (case hp => exact (Reps.one (show Kd.FK (Kd.slice 9 Kd.string) _ _ y101 [.slice Ao46 y101.length co46] from (Kd.FK_slice_mk (Kd.R_reads' (Kd.R_mono (ok' := (fun _ => True)) (HO103.out) (fun k_ hk => trivial))).2.1 (Kd.R_F (Kd.R_mono (ok' := (fun _ => True)) (HO103.out) (fun k_ hk => trivial))))) (Reps.one (show Kd.FK (Kd.slice 9 Kd.string) _ _ y104 [.slice Ao47 y104.length co47] from (Kd.FK_slice_mk (Kd.R_reads' (Kd.R_mono (ok' := (fun _ => True)) (HO106.out) (fun k_ hk => trivial))).2.1 (Kd.R_F (Kd.R_mono (ok' := (fun _ => True)) (HO106.out) (fun k_ hk => trivial))))) (Reps.none _ _)))); intro v108 w48 ho49 hb hg_ hnew_; clear hg_ hnew_; (first | rw [← Ny107.out] at ho49 | (simp only [Int.reduceToNat] at ho49; rw [← Ny107.out] at ho49)); have n0_ := Aside0.mk (Kd.N_lower ho49 (below_size (by repeat (first | (with_reducible first | exact HB.out | apply below_alloc | apply pw_below_drewN | apply below_drew1) | exact HB.out)))); have n1_ := Aside0.mk (below_step (by repeat (first | (with_reducible first | exact HB.out | apply below_alloc | apply pw_below_drewN | apply below_drew1) | exact HB.out)) hb); clear HB; clear HO103; clear HO106; have HO109 := n0_; have HB := n1_; clear n0_ n1_; clear hb ho49; obtain ⟨Ao50, co50, eo50⟩ := Kd.N_slice HO109.out; subst eo50) | ((with_reducible refine gate_callee (f := 17) rfl ?_); refine goesL_ (some 9) rfl rfl Try.func17 (by kernel_rfl) rfl #[.slice Ao50 y107.length co50] rfl (by (try simp only [List.map_toArray, List.map_cons, List.map_nil]); first | done | rfl | (simp only [List.length_drop, List.length_take]; rfl)) ?_; (with_reducible refine (gap_Coalesce.calls _ _ y107 t110 t111 _ ?side1 ?side2 A1.out).mono ?_); (case side1 => repeat (first | exact (Kd.N_reads' HO109.out).2.2 | (with_reducible refine Kd.C_alloc ?_ _) | (with_reducible refine Kd.C_drewN ?_ _) | (with_reducible refine Kd.C_drew ?_))); (case side2 => exact (Kd.N_reads' HO109.out).2.1); rintro e w51 ⟨v112, rfl, ho0, hb⟩; refine ⟨_, rfl, ?_⟩; have n0_ := Aside0.mk (Kd.N_elder' (by (with_reducible repeat (first | apply Kd.N_alloc | apply Kd.N_drewN | apply Kd.N_drew)); exact HO109.out) (Kd.R_base ho0) hb); have n1_ := Aside0.mk (Kd.R_lower ho0 (below_size (by repeat (first | (with_reducible first | exact HB.out | apply below_alloc | apply pw_below_drewN | apply below_drew1) | exact HB.out)))); have n2_ := Aside0.mk (below_step (by repeat (first | (with_reducible first | exact HB.out | apply below_alloc | apply pw_below_drewN | apply below_drew1) | exact HB.out)) hb); clear HO109; clear HB; have HO109 := n0_; have HO113 := n1_; have HB := n2_; clear n0_ n1_ n2_; (try clear hb); (try clear hb2); (try clear hk); (try clear hi); (try clear ho0)) | ((with_reducible refine gate_dst (N := 13) rfl ?_); (try (refine gate_guard (by rfl) ?_; dsimp only)); refine Kd.N_make (Kd.slice 9 Kd.string) _ 34 rfl (N' := 13) rfl 22 _ _ rfl 17 rfl rfl Try.underlying22 (.slice none 0 0) 24 info34 rfl (by decide) (by omega) [] (ok := fun k_ => w51.heap.size ≤ k_) (okp := fun _ => False) (Kd.FK_slice_mk (Nat.le_refl _) (Kd.F_nil _ _ _)) (fun _ hk => hk.elim) (Nat.le_refl _) (by omega) (by omega) (Below.refl _ _) (Nat.le_refl _) ?_; intro v115 w52 ho53 hb hg_ hnew_; clear hg_ hnew_; (first | rw [← Ny114.out] at ho53 | (simp only [Int.reduceToNat] at ho53; rw [← Ny114.out] at ho53)); have n0_ := Aside0.mk (Kd.N_elder' (by (with_reducible repeat (first | apply Kd.N_alloc | apply Kd.N_drewN | apply Kd.N_drew)); exact HO109.out) (Kd.N_base ho53) hb); have n1_ := Aside0.mk (Kd.R_below (by (with_reducible repeat (first | apply Kd.R_alloc | apply Kd.R_drewN | apply Kd.R_drew)); exact HO113.out) hb); have n2_ := Aside0.mk (Kd.N_lower (Kd.N_mono (ok' := fun k_ => some k_ ≠ (.slice Ao50 y107.length co50 : Value).ownBlock ∧ some k_ ≠ (v112 : Value).ownBlock) ho53 (fun k_ hk_ => ⟨(Kd.fresh' (Kd.N_lt (by (with_reducible repeat (first | apply Kd.N_alloc | apply Kd.N_drewN | apply Kd.N_drew)); exact HO109.out)) k_ hk_), (Kd.fresh' (Kd.R_lt (by (with_reducible repeat (first | apply Kd.R_alloc | apply Kd.R_drewN | apply Kd.R_drew)); exact HO113.out)) k_ hk_)⟩)) (below_size (by repeat (first | (with_reducible first | exact HB.out | apply below_alloc | apply pw_below_drewN | apply below_drew1) | exact HB.out)))); have n3_ := Aside0.mk (below_step (by repeat (first | (with_reducible first | exact HB.out | apply below_alloc | apply pw_below_drewN | apply below_drew1) | exact HB.out)) hb); clear HO109; clear HO113; clear HB; have HO109 := n0_; have HO113 := n1_; have HO116 := n2_; have HB := n3_; clear n0_ n1_ n2_ n3_; clear hb ho53; obtain ⟨Ao54, co54, eo54⟩ := Kd.N_slice HO116.out; subst eo54) | ((with_reducible refine gate_callee (f := 17) rfl ?_); refine goesL_ (some 14) rfl rfl Try.func17 (by kernel_rfl) rfl #[.slice Ao54 y114.length co54] rfl (by (try simp only [List.map_toArray, List.map_cons, List.map_nil]); first | done | rfl | (simp only [List.length_drop, List.length_take]; rfl)) ?_; (with_reducible refine (gap_Coalesce.calls _ _ y114 t117 t118 _ ?side1 ?side2 A3.out).mono ?_); (case side1 => repeat (first | exact (Kd.N_reads' HO116.out).2.2 | (with_reducible refine Kd.C_alloc ?_ _) | (with_reducible refine Kd.C_drewN ?_ _) | (with_reducible refine Kd.C_drew ?_))); (case side2 => exact (Kd.N_reads' HO116.out).2.1); rintro e w55 ⟨v119, rfl, ho0, hb⟩; refine ⟨_, rfl, ?_⟩; have n0_ := Aside0.mk (Kd.N_elder' (by (with_reducible repeat (first | apply Kd.N_alloc | apply Kd.N_drewN | apply Kd.N_drew)); exact HO109.out) (Kd.R_base ho0) hb); have n1_ := Aside0.mk (Kd.R_elder' (by (with_reducible repeat (first | apply Kd.R_alloc | apply Kd.R_drewN | apply Kd.R_drew)); exact HO113.out) (Kd.R_base ho0) hb); have n2_ := Aside0.mk (Kd.N_elder' (by (with_reducible repeat (first | apply Kd.N_alloc | apply Kd.N_drewN | apply Kd.N_drew)); exact HO116.out) (Kd.R_base ho0) hb); have n3_ := Aside0.mk (Kd.R_lower (Kd.R_new' ho0 (Kd.R_lt (by (with_reducible repeat (first | apply Kd.R_alloc | apply Kd.R_drewN | apply Kd.R_drew)); exact HO113.out))) (below_size (by repeat (first | (with_reducible first | exact HB.out | apply below_alloc | apply pw_below_drewN | apply below_drew1) | exact HB.out)))); have n4_ := Aside0.mk (below_step (by repeat (first | (with_reducible first | exact HB.out | apply below_alloc | apply pw_below_drewN | apply below_drew1) | exact HB.out)) hb); clear HO109; clear HO113; clear HO116; clear HB; have HO109 := n0_; have HO113 := n1_; have HO116 := n2_; have HO120 := n3_; have HB := n4_; clear n0_ n1_ n2_ n3_ n4_; (try clear hb); (try clear hb2); (try clear hk); (try clear hi); (try clear ho0); obtain ⟨Ao56, co56, eo56⟩ := Kd.R_slice HO113.out; subst eo56; have p121 : 0 ≤ (0 : Int) := (by omega); have q121 : 0 < (t110.length : Int) := of_decide_eq_true (by first | (with_reducible assumption) | assumption); obtain ⟨ad121, e121, hx121_0, hx121_1⟩ := at_T37 (Kd.R_reads' HO113.out).2.2 0 p121 q121; cases e121; have qi121 : (0 < t110.length) = True := eq_true (by omega); (try rw [show ((0 : Int)).toNat = 0 from rfl] at hx121_0); (try rw [show 0 * 2 = 0 from rfl] at hx121_0); (try rw [Addr.add_zero'] at hx121_0); (try rw [show ((0 : Int)).toNat = 0 from rfl] at hx121_1); (try rw [show 0 * 2 = 0 from rfl] at hx121_1); (try rw [Addr.add_zero'] at hx121_1); replace p121 := eq_true p121; replace q121 := eq_true q121))
              go_ret
              exact ⟨by first | rfl | (simp [errW_none, errW_some] <;> rfl) | (simp [*, errW_none, errW_some] <;> rfl), by repeat (first | (with_reducible first | exact HB.out | apply below_alloc | apply pw_below_drewN | apply below_drew1) | exact HB.out)⟩
          · rw [if_neg c7] at H
            exact absurd H (by simp)
        · rw [if_neg c6] at H
          have c6b0 : ((t110.length : Int) == 3) = false := beq_eq_false_iff_ne.mpr c6
          have c6b1 : ((t110.length : Int) != 3) = true := bne_iff_ne.mpr c6
          obtain rfl := Option.some.inj H
          go_enter Try.func15, Try.ntmps15
          go_wp2_with (first | ((with_reducible refine gate_dst (N := 6) rfl ?_); (try (refine gate_guard (by rfl) ?_; dsimp only)); refine Kd.R_lit Kd.string _ 9 ?hg (N := 6) ?hd (xs := ([(⟨#[97]⟩ : ByteArray), (⟨#[98]⟩ : ByteArray)] : List ByteArray)) (inner := [.string (⟨#[97]⟩ : ByteArray), .string (⟨#[98]⟩ : ByteArray)]) (ok := fun _ => True) (okp := fun _ => True) ?hr ?hp (fun _ hk => hk) trivial (Below.refl _ _) (Nat.le_refl _) (by simp) ?_; (case hd => rfl); (case hg => rfl); (case hr => first | (go_simp; done) | (go_simp; rfl)); (case hp => exact (Reps.one (show Kd.M Kd.string _ _ _ (⟨#[97]⟩ : ByteArray) [.string (⟨#[97]⟩ : ByteArray)] from rfl) (Reps.one (show Kd.M Kd.string _ _ _ (⟨#[98]⟩ : ByteArray) [.string (⟨#[98]⟩ : ByteArray)] from rfl) (Reps.none _ _)))); intro v102 w57 ho58 hb hg_ hnew_; clear hg_ hnew_; (first | rw [← Ny101.out] at ho58 | (simp only [Int.reduceToNat] at ho58; rw [← Ny101.out] at ho58)); have n0_ := Aside0.mk (Kd.R_lower ho58 (below_size (by repeat (first | (with_reducible first | exact HB.out | apply below_alloc | apply pw_below_drewN | apply below_drew1) | exact HB.out)))); have n1_ := Aside0.mk (below_step (by repeat (first | (with_reducible first | exact HB.out | apply below_alloc | apply pw_below_drewN | apply below_drew1) | exact HB.out)) hb); clear HB; have HO103 := n0_; have HB := n1_; clear n0_ n1_; clear hb ho58) | ((with_reducible refine gate_dst (N := 7) rfl ?_); (try (refine gate_guard (by rfl) ?_; dsimp only)); refine Kd.R_lit Kd.string _ 9 ?hg (N := 7) ?hd (xs := ([(⟨#[98]⟩ : ByteArray), (⟨#[99]⟩ : ByteArray)] : List ByteArray)) (inner := [.string (⟨#[98]⟩ : ByteArray), .string (⟨#[99]⟩ : ByteArray)]) (ok := fun _ => True) (okp := fun _ => True) ?hr ?hp (fun _ hk => hk) trivial (Below.refl _ _) (Nat.le_refl _) (by simp) ?_; (case hd => rfl); (case hg => rfl); (case hr => first | (go_simp; done) | (go_simp; rfl)); (case hp => exact (Reps.one (show Kd.M Kd.string _ _ _ (⟨#[98]⟩ : ByteArray) [.string (⟨#[98]⟩ : ByteArray)] from rfl) (Reps.one (show Kd.M Kd.string _ _ _ (⟨#[99]⟩ : ByteArray) [.string (⟨#[99]⟩ : ByteArray)] from rfl) (Reps.none _ _)))); intro v105 w59 ho60 hb hg_ hnew_; clear hg_ hnew_; (first | rw [← Ny104.out] at ho60 | (simp only [Int.reduceToNat] at ho60; rw [← Ny104.out] at ho60)); have n0_ := Aside0.mk (Kd.R_elder' (by (with_reducible repeat (first | apply Kd.R_alloc | apply Kd.R_drewN | apply Kd.R_drew)); exact HO103.out) (Kd.R_base ho60) hb); have n1_ := Aside0.mk (Kd.R_lower (Kd.R_new' ho60 (Kd.R_lt (by (with_reducible repeat (first | apply Kd.R_alloc | apply Kd.R_drewN | apply Kd.R_drew)); exact HO103.out))) (below_size (by repeat (first | (with_reducible first | exact HB.out | apply below_alloc | apply pw_below_drewN | apply below_drew1) | exact HB.out)))); have n2_ := Aside0.mk (below_step (by repeat (first | (with_reducible first | exact HB.out | apply below_alloc | apply pw_below_drewN | apply below_drew1) | exact HB.out)) hb); clear HO103; clear HB; have HO103 := n0_; have HO106 := n1_; have HB := n2_; clear n0_ n1_ n2_; clear hb ho60; obtain ⟨Ao61, co61, eo61⟩ := Kd.R_slice HO103.out; subst eo61; obtain ⟨Ao62, co62, eo62⟩ := Kd.R_slice HO106.out; subst eo62) | ((with_reducible refine gate_dst (N := 8) rfl ?_); (try (refine gate_guard (by rfl) ?_; dsimp only)); refine Kd.N_lit (Kd.slice 9 Kd.string) _ 34 ?hg (N' := 8) ?hd (xs := ([y101, y104] : List (List ByteArray))) (inner := [.slice Ao61 y101.length co61, .slice Ao62 y104.length co62]) (ok := (fun _ => True)) (okp := (fun _ => True)) ?hr ?hp (fun _ hk => hk) ((show ∀ k_, w59.heap.size ≤ k_ → (fun _ => True) k_ from fun k_ hk => trivial) _ (Nat.le_refl _)) (Below.refl _ _) (Nat.le_refl _) (by simp) ?_; (case hd => rfl); (case hg => rfl); (case hr => first | (go_simp; done) | (go_simp; rfl)); (case hp => exact (Reps.one (show Kd.FK (Kd.slice 9 Kd.string) _ _ y101 [.slice Ao61 y101.length co61] from (Kd.FK_slice_mk (Kd.R_reads' (Kd.R_mono (ok' := (fun _ => True)) (HO103.out) (fun k_ hk => trivial))).2.1 (Kd.R_F (Kd.R_mono (ok' := (fun _ => True)) (HO103.out) (fun k_ hk => trivial))))) (Reps.one (show Kd.FK (Kd.slice 9 Kd.string) _ _ y104 [.slice Ao62 y104.length co62] from (Kd.FK_slice_mk (Kd.R_reads' (Kd.R_mono (ok' := (fun _ => True)) (HO106.out) (fun k_ hk => trivial))).2.1 (Kd.R_F (Kd.R_mono (ok' := (fun _ => True)) (HO106.out) (fun k_ hk => trivial))))) (Reps.none _ _)))); intro v108 w63 ho64 hb hg_ hnew_; clear hg_ hnew_; (first | rw [← Ny107.out] at ho64 | (simp only [Int.reduceToNat] at ho64; rw [← Ny107.out] at ho64)); have n0_ := Aside0.mk (Kd.N_lower ho64 (below_size (by repeat (first | (with_reducible first | exact HB.out | apply below_alloc | apply pw_below_drewN | apply below_drew1) | exact HB.out)))); have n1_ := Aside0.mk (below_step (by repeat (first | (with_reducible first | exact HB.out | apply below_alloc | apply pw_below_drewN | apply below_drew1) | exact HB.out)) hb); clear HB; clear HO103; clear HO106; have HO109 := n0_; have HB := n1_; clear n0_ n1_; clear hb ho64; obtain ⟨Ao65, co65, eo65⟩ := Kd.N_slice HO109.out; subst eo65) | ((with_reducible refine gate_callee (f := 17) rfl ?_); refine goesL_ (some 9) rfl rfl Try.func17 (by kernel_rfl) rfl #[.slice Ao65 y107.length co65] rfl (by (try simp only [List.map_toArray, List.map_cons, List.map_nil]); first | done | rfl | (simp only [List.length_drop, List.length_take]; rfl)) ?_; (with_reducible refine (gap_Coalesce.calls _ _ y107 t110 t111 _ ?side1 ?side2 A1.out).mono ?_); (case side1 => repeat (first | exact (Kd.N_reads' HO109.out).2.2 | (with_reducible refine Kd.C_alloc ?_ _) | (with_reducible refine Kd.C_drewN ?_ _) | (with_reducible refine Kd.C_drew ?_))); (case side2 => exact (Kd.N_reads' HO109.out).2.1); rintro e w66 ⟨v112, rfl, ho0, hb⟩; refine ⟨_, rfl, ?_⟩; have n0_ := Aside0.mk (Kd.N_elder' (by (with_reducible repeat (first | apply Kd.N_alloc | apply Kd.N_drewN | apply Kd.N_drew)); exact HO109.out) (Kd.R_base ho0) hb); have n1_ := Aside0.mk (Kd.R_lower ho0 (below_size (by repeat (first | (with_reducible first | exact HB.out | apply below_alloc | apply pw_below_drewN | apply below_drew1) | exact HB.out)))); have n2_ := Aside0.mk (below_step (by repeat (first | (with_reducible first | exact HB.out | apply below_alloc | apply pw_below_drewN | apply below_drew1) | exact HB.out)) hb); clear HO109; clear HB; have HO109 := n0_; have HO113 := n1_; have HB := n2_; clear n0_ n1_ n2_; (try clear hb); (try clear hb2); (try clear hk); (try clear hi); (try clear ho0)) | ((with_reducible refine gate_dst (N := 13) rfl ?_); (try (refine gate_guard (by rfl) ?_; dsimp only)); refine Kd.N_make (Kd.slice 9 Kd.string) _ 34 rfl (N' := 13) rfl 22 _ _ rfl 17 rfl rfl Try.underlying22 (.slice none 0 0) 24 info34 rfl (by decide) (by omega) [] (ok := fun k_ => w66.heap.size ≤ k_) (okp := fun _ => False) (Kd.FK_slice_mk (Nat.le_refl _) (Kd.F_nil _ _ _)) (fun _ hk => hk.elim) (Nat.le_refl _) (by omega) (by omega) (Below.refl _ _) (Nat.le_refl _) ?_; intro v115 w67 ho68 hb hg_ hnew_; clear hg_ hnew_; (first | rw [← Ny114.out] at ho68 | (simp only [Int.reduceToNat] at ho68; rw [← Ny114.out] at ho68)); have n0_ := Aside0.mk (Kd.N_elder' (by (with_reducible repeat (first | apply Kd.N_alloc | apply Kd.N_drewN | apply Kd.N_drew)); exact HO109.out) (Kd.N_base ho68) hb); have n1_ := Aside0.mk (Kd.R_below (by (with_reducible repeat (first | apply Kd.R_alloc | apply Kd.R_drewN | apply Kd.R_drew)); exact HO113.out) hb); have n2_ := Aside0.mk (Kd.N_lower (Kd.N_mono (ok' := fun k_ => some k_ ≠ (.slice Ao65 y107.length co65 : Value).ownBlock ∧ some k_ ≠ (v112 : Value).ownBlock) ho68 (fun k_ hk_ => ⟨(Kd.fresh' (Kd.N_lt (by (with_reducible repeat (first | apply Kd.N_alloc | apply Kd.N_drewN | apply Kd.N_drew)); exact HO109.out)) k_ hk_), (Kd.fresh' (Kd.R_lt (by (with_reducible repeat (first | apply Kd.R_alloc | apply Kd.R_drewN | apply Kd.R_drew)); exact HO113.out)) k_ hk_)⟩)) (below_size (by repeat (first | (with_reducible first | exact HB.out | apply below_alloc | apply pw_below_drewN | apply below_drew1) | exact HB.out)))); have n3_ := Aside0.mk (below_step (by repeat (first | (with_reducible first | exact HB.out | apply below_alloc | apply pw_below_drewN | apply below_drew1) | exact HB.out)) hb); clear HO109; clear HO113; clear HB; have HO109 := n0_; have HO113 := n1_; have HO116 := n2_; have HB := n3_; clear n0_ n1_ n2_ n3_; clear hb ho68; obtain ⟨Ao69, co69, eo69⟩ := Kd.N_slice HO116.out; subst eo69) | ((with_reducible refine gate_callee (f := 17) rfl ?_); refine goesL_ (some 14) rfl rfl Try.func17 (by kernel_rfl) rfl #[.slice Ao69 y114.length co69] rfl (by (try simp only [List.map_toArray, List.map_cons, List.map_nil]); first | done | rfl | (simp only [List.length_drop, List.length_take]; rfl)) ?_; (with_reducible refine (gap_Coalesce.calls _ _ y114 t117 t118 _ ?side1 ?side2 A3.out).mono ?_); (case side1 => repeat (first | exact (Kd.N_reads' HO116.out).2.2 | (with_reducible refine Kd.C_alloc ?_ _) | (with_reducible refine Kd.C_drewN ?_ _) | (with_reducible refine Kd.C_drew ?_))); (case side2 => exact (Kd.N_reads' HO116.out).2.1); rintro e w70 ⟨v119, rfl, ho0, hb⟩; refine ⟨_, rfl, ?_⟩; have n0_ := Aside0.mk (Kd.N_elder' (by (with_reducible repeat (first | apply Kd.N_alloc | apply Kd.N_drewN | apply Kd.N_drew)); exact HO109.out) (Kd.R_base ho0) hb); have n1_ := Aside0.mk (Kd.R_elder' (by (with_reducible repeat (first | apply Kd.R_alloc | apply Kd.R_drewN | apply Kd.R_drew)); exact HO113.out) (Kd.R_base ho0) hb); have n2_ := Aside0.mk (Kd.N_elder' (by (with_reducible repeat (first | apply Kd.N_alloc | apply Kd.N_drewN | apply Kd.N_drew)); exact HO116.out) (Kd.R_base ho0) hb); have n3_ := Aside0.mk (Kd.R_lower (Kd.R_new' ho0 (Kd.R_lt (by (with_reducible repeat (first | apply Kd.R_alloc | apply Kd.R_drewN | apply Kd.R_drew)); exact HO113.out))) (below_size (by repeat (first | (with_reducible first | exact HB.out | apply below_alloc | apply pw_below_drewN | apply below_drew1) | exact HB.out)))); have n4_ := Aside0.mk (below_step (by repeat (first | (with_reducible first | exact HB.out | apply below_alloc | apply pw_below_drewN | apply below_drew1) | exact HB.out)) hb); clear HO109; clear HO113; clear HO116; clear HB; have HO109 := n0_; have HO113 := n1_; have HO116 := n2_; have HO120 := n3_; have HB := n4_; clear n0_ n1_ n2_ n3_ n4_; (try clear hb); (try clear hb2); (try clear hk); (try clear hi); (try clear ho0); obtain ⟨Ao71, co71, eo71⟩ := Kd.R_slice HO113.out; subst eo71))
          go_ret
          exact ⟨by first | rfl | (simp [errW_none, errW_some] <;> rfl) | (simp [*, errW_none, errW_some] <;> rfl), by repeat (first | (with_reducible first | exact HB.out | apply below_alloc | apply pw_below_drewN | apply below_drew1) | exact HB.out)⟩
      · rw [if_neg c5] at H
        have c5b0 : (t118 == 1) = false := beq_eq_false_iff_ne.mpr c5
        have c5b1 : (t118 != 1) = true := bne_iff_ne.mpr c5
        obtain rfl := Option.some.inj H
        go_enter Try.func15, Try.ntmps15
        go_wp2_with (first | ((with_reducible refine gate_dst (N := 6) rfl ?_); (try (refine gate_guard (by rfl) ?_; dsimp only)); refine Kd.R_lit Kd.string _ 9 ?hg (N := 6) ?hd (xs := ([(⟨#[97]⟩ : ByteArray), (⟨#[98]⟩ : ByteArray)] : List ByteArray)) (inner := [.string (⟨#[97]⟩ : ByteArray), .string (⟨#[98]⟩ : ByteArray)]) (ok := fun _ => True) (okp := fun _ => True) ?hr ?hp (fun _ hk => hk) trivial (Below.refl _ _) (Nat.le_refl _) (by simp) ?_; (case hd => rfl); (case hg => rfl); (case hr => first | (go_simp; done) | (go_simp; rfl)); (case hp => exact (Reps.one (show Kd.M Kd.string _ _ _ (⟨#[97]⟩ : ByteArray) [.string (⟨#[97]⟩ : ByteArray)] from rfl) (Reps.one (show Kd.M Kd.string _ _ _ (⟨#[98]⟩ : ByteArray) [.string (⟨#[98]⟩ : ByteArray)] from rfl) (Reps.none _ _)))); intro v102 w72 ho73 hb hg_ hnew_; clear hg_ hnew_; (first | rw [← Ny101.out] at ho73 | (simp only [Int.reduceToNat] at ho73; rw [← Ny101.out] at ho73)); have n0_ := Aside0.mk (Kd.R_lower ho73 (below_size (by repeat (first | (with_reducible first | exact HB.out | apply below_alloc | apply pw_below_drewN | apply below_drew1) | exact HB.out)))); have n1_ := Aside0.mk (below_step (by repeat (first | (with_reducible first | exact HB.out | apply below_alloc | apply pw_below_drewN | apply below_drew1) | exact HB.out)) hb); clear HB; have HO103 := n0_; have HB := n1_; clear n0_ n1_; clear hb ho73) | ((with_reducible refine gate_dst (N := 7) rfl ?_); (try (refine gate_guard (by rfl) ?_; dsimp only)); refine Kd.R_lit Kd.string _ 9 ?hg (N := 7) ?hd (xs := ([(⟨#[98]⟩ : ByteArray), (⟨#[99]⟩ : ByteArray)] : List ByteArray)) (inner := [.string (⟨#[98]⟩ : ByteArray), .string (⟨#[99]⟩ : ByteArray)]) (ok := fun _ => True) (okp := fun _ => True) ?hr ?hp (fun _ hk => hk) trivial (Below.refl _ _) (Nat.le_refl _) (by simp) ?_; (case hd => rfl); (case hg => rfl); (case hr => first | (go_simp; done) | (go_simp; rfl)); (case hp => exact (Reps.one (show Kd.M Kd.string _ _ _ (⟨#[98]⟩ : ByteArray) [.string (⟨#[98]⟩ : ByteArray)] from rfl) (Reps.one (show Kd.M Kd.string _ _ _ (⟨#[99]⟩ : ByteArray) [.string (⟨#[99]⟩ : ByteArray)] from rfl) (Reps.none _ _)))); intro v105 w74 ho75 hb hg_ hnew_; clear hg_ hnew_; (first | rw [← Ny104.out] at ho75 | (simp only [Int.reduceToNat] at ho75; rw [← Ny104.out] at ho75)); have n0_ := Aside0.mk (Kd.R_elder' (by (with_reducible repeat (first | apply Kd.R_alloc | apply Kd.R_drewN | apply Kd.R_drew)); exact HO103.out) (Kd.R_base ho75) hb); have n1_ := Aside0.mk (Kd.R_lower (Kd.R_new' ho75 (Kd.R_lt (by (with_reducible repeat (first | apply Kd.R_alloc | apply Kd.R_drewN | apply Kd.R_drew)); exact HO103.out))) (below_size (by repeat (first | (with_reducible first | exact HB.out | apply below_alloc | apply pw_below_drewN | apply below_drew1) | exact HB.out)))); have n2_ := Aside0.mk (below_step (by repeat (first | (with_reducible first | exact HB.out | apply below_alloc | apply pw_below_drewN | apply below_drew1) | exact HB.out)) hb); clear HO103; clear HB; have HO103 := n0_; have HO106 := n1_; have HB := n2_; clear n0_ n1_ n2_; clear hb ho75; obtain ⟨Ao76, co76, eo76⟩ := Kd.R_slice HO103.out; subst eo76; obtain ⟨Ao77, co77, eo77⟩ := Kd.R_slice HO106.out; subst eo77) | ((with_reducible refine gate_dst (N := 8) rfl ?_); (try (refine gate_guard (by rfl) ?_; dsimp only)); refine Kd.N_lit (Kd.slice 9 Kd.string) _ 34 ?hg (N' := 8) ?hd (xs := ([y101, y104] : List (List ByteArray))) (inner := [.slice Ao76 y101.length co76, .slice Ao77 y104.length co77]) (ok := (fun _ => True)) (okp := (fun _ => True)) ?hr ?hp (fun _ hk => hk) ((show ∀ k_, w74.heap.size ≤ k_ → (fun _ => True) k_ from fun k_ hk => trivial) _ (Nat.le_refl _)) (Below.refl _ _) (Nat.le_refl _) (by simp) ?_; (case hd => rfl); (case hg => rfl); (case hr => first | (go_simp; done) | (go_simp; rfl)); (case hp => exact (Reps.one (show Kd.FK (Kd.slice 9 Kd.string) _ _ y101 [.slice Ao76 y101.length co76] from (Kd.FK_slice_mk (Kd.R_reads' (Kd.R_mono (ok' := (fun _ => True)) (HO103.out) (fun k_ hk => trivial))).2.1 (Kd.R_F (Kd.R_mono (ok' := (fun _ => True)) (HO103.out) (fun k_ hk => trivial))))) (Reps.one (show Kd.FK (Kd.slice 9 Kd.string) _ _ y104 [.slice Ao77 y104.length co77] from (Kd.FK_slice_mk (Kd.R_reads' (Kd.R_mono (ok' := (fun _ => True)) (HO106.out) (fun k_ hk => trivial))).2.1 (Kd.R_F (Kd.R_mono (ok' := (fun _ => True)) (HO106.out) (fun k_ hk => trivial))))) (Reps.none _ _)))); intro v108 w78 ho79 hb hg_ hnew_; clear hg_ hnew_; (first | rw [← Ny107.out] at ho79 | (simp only [Int.reduceToNat] at ho79; rw [← Ny107.out] at ho79)); have n0_ := Aside0.mk (Kd.N_lower ho79 (below_size (by repeat (first | (with_reducible first | exact HB.out | apply below_alloc | apply pw_below_drewN | apply below_drew1) | exact HB.out)))); have n1_ := Aside0.mk (below_step (by repeat (first | (with_reducible first | exact HB.out | apply below_alloc | apply pw_below_drewN | apply below_drew1) | exact HB.out)) hb); clear HB; clear HO103; clear HO106; have HO109 := n0_; have HB := n1_; clear n0_ n1_; clear hb ho79; obtain ⟨Ao80, co80, eo80⟩ := Kd.N_slice HO109.out; subst eo80) | ((with_reducible refine gate_callee (f := 17) rfl ?_); refine goesL_ (some 9) rfl rfl Try.func17 (by kernel_rfl) rfl #[.slice Ao80 y107.length co80] rfl (by (try simp only [List.map_toArray, List.map_cons, List.map_nil]); first | done | rfl | (simp only [List.length_drop, List.length_take]; rfl)) ?_; (with_reducible refine (gap_Coalesce.calls _ _ y107 t110 t111 _ ?side1 ?side2 A1.out).mono ?_); (case side1 => repeat (first | exact (Kd.N_reads' HO109.out).2.2 | (with_reducible refine Kd.C_alloc ?_ _) | (with_reducible refine Kd.C_drewN ?_ _) | (with_reducible refine Kd.C_drew ?_))); (case side2 => exact (Kd.N_reads' HO109.out).2.1); rintro e w81 ⟨v112, rfl, ho0, hb⟩; refine ⟨_, rfl, ?_⟩; have n0_ := Aside0.mk (Kd.N_elder' (by (with_reducible repeat (first | apply Kd.N_alloc | apply Kd.N_drewN | apply Kd.N_drew)); exact HO109.out) (Kd.R_base ho0) hb); have n1_ := Aside0.mk (Kd.R_lower ho0 (below_size (by repeat (first | (with_reducible first | exact HB.out | apply below_alloc | apply pw_below_drewN | apply below_drew1) | exact HB.out)))); have n2_ := Aside0.mk (below_step (by repeat (first | (with_reducible first | exact HB.out | apply below_alloc | apply pw_below_drewN | apply below_drew1) | exact HB.out)) hb); clear HO109; clear HB; have HO109 := n0_; have HO113 := n1_; have HB := n2_; clear n0_ n1_ n2_; (try clear hb); (try clear hb2); (try clear hk); (try clear hi); (try clear ho0)) | ((with_reducible refine gate_dst (N := 13) rfl ?_); (try (refine gate_guard (by rfl) ?_; dsimp only)); refine Kd.N_make (Kd.slice 9 Kd.string) _ 34 rfl (N' := 13) rfl 22 _ _ rfl 17 rfl rfl Try.underlying22 (.slice none 0 0) 24 info34 rfl (by decide) (by omega) [] (ok := fun k_ => w81.heap.size ≤ k_) (okp := fun _ => False) (Kd.FK_slice_mk (Nat.le_refl _) (Kd.F_nil _ _ _)) (fun _ hk => hk.elim) (Nat.le_refl _) (by omega) (by omega) (Below.refl _ _) (Nat.le_refl _) ?_; intro v115 w82 ho83 hb hg_ hnew_; clear hg_ hnew_; (first | rw [← Ny114.out] at ho83 | (simp only [Int.reduceToNat] at ho83; rw [← Ny114.out] at ho83)); have n0_ := Aside0.mk (Kd.N_elder' (by (with_reducible repeat (first | apply Kd.N_alloc | apply Kd.N_drewN | apply Kd.N_drew)); exact HO109.out) (Kd.N_base ho83) hb); have n1_ := Aside0.mk (Kd.R_below (by (with_reducible repeat (first | apply Kd.R_alloc | apply Kd.R_drewN | apply Kd.R_drew)); exact HO113.out) hb); have n2_ := Aside0.mk (Kd.N_lower (Kd.N_mono (ok' := fun k_ => some k_ ≠ (.slice Ao80 y107.length co80 : Value).ownBlock ∧ some k_ ≠ (v112 : Value).ownBlock) ho83 (fun k_ hk_ => ⟨(Kd.fresh' (Kd.N_lt (by (with_reducible repeat (first | apply Kd.N_alloc | apply Kd.N_drewN | apply Kd.N_drew)); exact HO109.out)) k_ hk_), (Kd.fresh' (Kd.R_lt (by (with_reducible repeat (first | apply Kd.R_alloc | apply Kd.R_drewN | apply Kd.R_drew)); exact HO113.out)) k_ hk_)⟩)) (below_size (by repeat (first | (with_reducible first | exact HB.out | apply below_alloc | apply pw_below_drewN | apply below_drew1) | exact HB.out)))); have n3_ := Aside0.mk (below_step (by repeat (first | (with_reducible first | exact HB.out | apply below_alloc | apply pw_below_drewN | apply below_drew1) | exact HB.out)) hb); clear HO109; clear HO113; clear HB; have HO109 := n0_; have HO113 := n1_; have HO116 := n2_; have HB := n3_; clear n0_ n1_ n2_ n3_; clear hb ho83; obtain ⟨Ao84, co84, eo84⟩ := Kd.N_slice HO116.out; subst eo84) | ((with_reducible refine gate_callee (f := 17) rfl ?_); refine goesL_ (some 14) rfl rfl Try.func17 (by kernel_rfl) rfl #[.slice Ao84 y114.length co84] rfl (by (try simp only [List.map_toArray, List.map_cons, List.map_nil]); first | done | rfl | (simp only [List.length_drop, List.length_take]; rfl)) ?_; (with_reducible refine (gap_Coalesce.calls _ _ y114 t117 t118 _ ?side1 ?side2 A3.out).mono ?_); (case side1 => repeat (first | exact (Kd.N_reads' HO116.out).2.2 | (with_reducible refine Kd.C_alloc ?_ _) | (with_reducible refine Kd.C_drewN ?_ _) | (with_reducible refine Kd.C_drew ?_))); (case side2 => exact (Kd.N_reads' HO116.out).2.1); rintro e w85 ⟨v119, rfl, ho0, hb⟩; refine ⟨_, rfl, ?_⟩; have n0_ := Aside0.mk (Kd.N_elder' (by (with_reducible repeat (first | apply Kd.N_alloc | apply Kd.N_drewN | apply Kd.N_drew)); exact HO109.out) (Kd.R_base ho0) hb); have n1_ := Aside0.mk (Kd.R_elder' (by (with_reducible repeat (first | apply Kd.R_alloc | apply Kd.R_drewN | apply Kd.R_drew)); exact HO113.out) (Kd.R_base ho0) hb); have n2_ := Aside0.mk (Kd.N_elder' (by (with_reducible repeat (first | apply Kd.N_alloc | apply Kd.N_drewN | apply Kd.N_drew)); exact HO116.out) (Kd.R_base ho0) hb); have n3_ := Aside0.mk (Kd.R_lower (Kd.R_new' ho0 (Kd.R_lt (by (with_reducible repeat (first | apply Kd.R_alloc | apply Kd.R_drewN | apply Kd.R_drew)); exact HO113.out))) (below_size (by repeat (first | (with_reducible first | exact HB.out | apply below_alloc | apply pw_below_drewN | apply below_drew1) | exact HB.out)))); have n4_ := Aside0.mk (below_step (by repeat (first | (with_reducible first | exact HB.out | apply below_alloc | apply pw_below_drewN | apply below_drew1) | exact HB.out)) hb); clear HO109; clear HO113; clear HO116; clear HB; have HO109 := n0_; have HO113 := n1_; have HO116 := n2_; have HO120 := n3_; have HB := n4_; clear n0_ n1_ n2_ n3_ n4_; (try clear hb); (try clear hb2); (try clear hk); (try clear hi); (try clear ho0)))
        go_ret
        exact ⟨by first | rfl | (simp [errW_none, errW_some] <;> rfl) | (simp [*, errW_none, errW_some] <;> rfl), by repeat (first | (with_reducible first | exact HB.out | apply below_alloc | apply pw_below_drewN | apply below_drew1) | exact HB.out)⟩
    · rw [if_neg c4] at H
      have c4b0 : (t111 == 0) = false := beq_eq_false_iff_ne.mpr c4
      have c4b1 : (t111 != 0) = true := bne_iff_ne.mpr c4
      obtain rfl := Option.some.inj H
      go_enter Try.func15, Try.ntmps15
      go_wp2_with (first | ((with_reducible refine gate_dst (N := 6) rfl ?_); (try (refine gate_guard (by rfl) ?_; dsimp only)); refine Kd.R_lit Kd.string _ 9 ?hg (N := 6) ?hd (xs := ([(⟨#[97]⟩ : ByteArray), (⟨#[98]⟩ : ByteArray)] : List ByteArray)) (inner := [.string (⟨#[97]⟩ : ByteArray), .string (⟨#[98]⟩ : ByteArray)]) (ok := fun _ => True) (okp := fun _ => True) ?hr ?hp (fun _ hk => hk) trivial (Below.refl _ _) (Nat.le_refl _) (by simp) ?_; (case hd => rfl); (case hg => rfl); (case hr => first | (go_simp; done) | (go_simp; rfl)); (case hp => exact (Reps.one (show Kd.M Kd.string _ _ _ (⟨#[97]⟩ : ByteArray) [.string (⟨#[97]⟩ : ByteArray)] from rfl) (Reps.one (show Kd.M Kd.string _ _ _ (⟨#[98]⟩ : ByteArray) [.string (⟨#[98]⟩ : ByteArray)] from rfl) (Reps.none _ _)))); intro v102 w86 ho87 hb hg_ hnew_; clear hg_ hnew_; (first | rw [← Ny101.out] at ho87 | (simp only [Int.reduceToNat] at ho87; rw [← Ny101.out] at ho87)); have n0_ := Aside0.mk (Kd.R_lower ho87 (below_size (by repeat (first | (with_reducible first | exact HB.out | apply below_alloc | apply pw_below_drewN | apply below_drew1) | exact HB.out)))); have n1_ := Aside0.mk (below_step (by repeat (first | (with_reducible first | exact HB.out | apply below_alloc | apply pw_below_drewN | apply below_drew1) | exact HB.out)) hb); clear HB; have HO103 := n0_; have HB := n1_; clear n0_ n1_; clear hb ho87) | ((with_reducible refine gate_dst (N := 7) rfl ?_); (try (refine gate_guard (by rfl) ?_; dsimp only)); refine Kd.R_lit Kd.string _ 9 ?hg (N := 7) ?hd (xs := ([(⟨#[98]⟩ : ByteArray), (⟨#[99]⟩ : ByteArray)] : List ByteArray)) (inner := [.string (⟨#[98]⟩ : ByteArray), .string (⟨#[99]⟩ : ByteArray)]) (ok := fun _ => True) (okp := fun _ => True) ?hr ?hp (fun _ hk => hk) trivial (Below.refl _ _) (Nat.le_refl _) (by simp) ?_; (case hd => rfl); (case hg => rfl); (case hr => first | (go_simp; done) | (go_simp; rfl)); (case hp => exact (Reps.one (show Kd.M Kd.string _ _ _ (⟨#[98]⟩ : ByteArray) [.string (⟨#[98]⟩ : ByteArray)] from rfl) (Reps.one (show Kd.M Kd.string _ _ _ (⟨#[99]⟩ : ByteArray) [.string (⟨#[99]⟩ : ByteArray)] from rfl) (Reps.none _ _)))); intro v105 w88 ho89 hb hg_ hnew_; clear hg_ hnew_; (first | rw [← Ny104.out] at ho89 | (simp only [Int.reduceToNat] at ho89; rw [← Ny104.out] at ho89)); have n0_ := Aside0.mk (Kd.R_elder' (by (with_reducible repeat (first | apply Kd.R_alloc | apply Kd.R_drewN | apply Kd.R_drew)); exact HO103.out) (Kd.R_base ho89) hb); have n1_ := Aside0.mk (Kd.R_lower (Kd.R_new' ho89 (Kd.R_lt (by (with_reducible repeat (first | apply Kd.R_alloc | apply Kd.R_drewN | apply Kd.R_drew)); exact HO103.out))) (below_size (by repeat (first | (with_reducible first | exact HB.out | apply below_alloc | apply pw_below_drewN | apply below_drew1) | exact HB.out)))); have n2_ := Aside0.mk (below_step (by repeat (first | (with_reducible first | exact HB.out | apply below_alloc | apply pw_below_drewN | apply below_drew1) | exact HB.out)) hb); clear HO103; clear HB; have HO103 := n0_; have HO106 := n1_; have HB := n2_; clear n0_ n1_ n2_; clear hb ho89; obtain ⟨Ao90, co90, eo90⟩ := Kd.R_slice HO103.out; subst eo90; obtain ⟨Ao91, co91, eo91⟩ := Kd.R_slice HO106.out; subst eo91) | ((with_reducible refine gate_dst (N := 8) rfl ?_); (try (refine gate_guard (by rfl) ?_; dsimp only)); refine Kd.N_lit (Kd.slice 9 Kd.string) _ 34 ?hg (N' := 8) ?hd (xs := ([y101, y104] : List (List ByteArray))) (inner := [.slice Ao90 y101.length co90, .slice Ao91 y104.length co91]) (ok := (fun _ => True)) (okp := (fun _ => True)) ?hr ?hp (fun _ hk => hk) ((show ∀ k_, w88.heap.size ≤ k_ → (fun _ => True) k_ from fun k_ hk => trivial) _ (Nat.le_refl _)) (Below.refl _ _) (Nat.le_refl _) (by simp) ?_; (case hd => rfl); (case hg => rfl); (case hr => first | (go_simp; done) | (go_simp; rfl)); (case hp => exact (Reps.one (show Kd.FK (Kd.slice 9 Kd.string) _ _ y101 [.slice Ao90 y101.length co90] from (Kd.FK_slice_mk (Kd.R_reads' (Kd.R_mono (ok' := (fun _ => True)) (HO103.out) (fun k_ hk => trivial))).2.1 (Kd.R_F (Kd.R_mono (ok' := (fun _ => True)) (HO103.out) (fun k_ hk => trivial))))) (Reps.one (show Kd.FK (Kd.slice 9 Kd.string) _ _ y104 [.slice Ao91 y104.length co91] from (Kd.FK_slice_mk (Kd.R_reads' (Kd.R_mono (ok' := (fun _ => True)) (HO106.out) (fun k_ hk => trivial))).2.1 (Kd.R_F (Kd.R_mono (ok' := (fun _ => True)) (HO106.out) (fun k_ hk => trivial))))) (Reps.none _ _)))); intro v108 w92 ho93 hb hg_ hnew_; clear hg_ hnew_; (first | rw [← Ny107.out] at ho93 | (simp only [Int.reduceToNat] at ho93; rw [← Ny107.out] at ho93)); have n0_ := Aside0.mk (Kd.N_lower ho93 (below_size (by repeat (first | (with_reducible first | exact HB.out | apply below_alloc | apply pw_below_drewN | apply below_drew1) | exact HB.out)))); have n1_ := Aside0.mk (below_step (by repeat (first | (with_reducible first | exact HB.out | apply below_alloc | apply pw_below_drewN | apply below_drew1) | exact HB.out)) hb); clear HB; clear HO103; clear HO106; have HO109 := n0_; have HB := n1_; clear n0_ n1_; clear hb ho93; obtain ⟨Ao94, co94, eo94⟩ := Kd.N_slice HO109.out; subst eo94) | ((with_reducible refine gate_callee (f := 17) rfl ?_); refine goesL_ (some 9) rfl rfl Try.func17 (by kernel_rfl) rfl #[.slice Ao94 y107.length co94] rfl (by (try simp only [List.map_toArray, List.map_cons, List.map_nil]); first | done | rfl | (simp only [List.length_drop, List.length_take]; rfl)) ?_; (with_reducible refine (gap_Coalesce.calls _ _ y107 t110 t111 _ ?side1 ?side2 A1.out).mono ?_); (case side1 => repeat (first | exact (Kd.N_reads' HO109.out).2.2 | (with_reducible refine Kd.C_alloc ?_ _) | (with_reducible refine Kd.C_drewN ?_ _) | (with_reducible refine Kd.C_drew ?_))); (case side2 => exact (Kd.N_reads' HO109.out).2.1); rintro e w95 ⟨v112, rfl, ho0, hb⟩; refine ⟨_, rfl, ?_⟩; have n0_ := Aside0.mk (Kd.N_elder' (by (with_reducible repeat (first | apply Kd.N_alloc | apply Kd.N_drewN | apply Kd.N_drew)); exact HO109.out) (Kd.R_base ho0) hb); have n1_ := Aside0.mk (Kd.R_lower ho0 (below_size (by repeat (first | (with_reducible first | exact HB.out | apply below_alloc | apply pw_below_drewN | apply below_drew1) | exact HB.out)))); have n2_ := Aside0.mk (below_step (by repeat (first | (with_reducible first | exact HB.out | apply below_alloc | apply pw_below_drewN | apply below_drew1) | exact HB.out)) hb); clear HO109; clear HB; have HO109 := n0_; have HO113 := n1_; have HB := n2_; clear n0_ n1_ n2_; (try clear hb); (try clear hb2); (try clear hk); (try clear hi); (try clear ho0)) | ((with_reducible refine gate_dst (N := 13) rfl ?_); (try (refine gate_guard (by rfl) ?_; dsimp only)); refine Kd.N_make (Kd.slice 9 Kd.string) _ 34 rfl (N' := 13) rfl 22 _ _ rfl 17 rfl rfl Try.underlying22 (.slice none 0 0) 24 info34 rfl (by decide) (by omega) [] (ok := fun k_ => w95.heap.size ≤ k_) (okp := fun _ => False) (Kd.FK_slice_mk (Nat.le_refl _) (Kd.F_nil _ _ _)) (fun _ hk => hk.elim) (Nat.le_refl _) (by omega) (by omega) (Below.refl _ _) (Nat.le_refl _) ?_; intro v115 w96 ho97 hb hg_ hnew_; clear hg_ hnew_; (first | rw [← Ny114.out] at ho97 | (simp only [Int.reduceToNat] at ho97; rw [← Ny114.out] at ho97)); have n0_ := Aside0.mk (Kd.N_elder' (by (with_reducible repeat (first | apply Kd.N_alloc | apply Kd.N_drewN | apply Kd.N_drew)); exact HO109.out) (Kd.N_base ho97) hb); have n1_ := Aside0.mk (Kd.R_below (by (with_reducible repeat (first | apply Kd.R_alloc | apply Kd.R_drewN | apply Kd.R_drew)); exact HO113.out) hb); have n2_ := Aside0.mk (Kd.N_lower (Kd.N_mono (ok' := fun k_ => some k_ ≠ (.slice Ao94 y107.length co94 : Value).ownBlock ∧ some k_ ≠ (v112 : Value).ownBlock) ho97 (fun k_ hk_ => ⟨(Kd.fresh' (Kd.N_lt (by (with_reducible repeat (first | apply Kd.N_alloc | apply Kd.N_drewN | apply Kd.N_drew)); exact HO109.out)) k_ hk_), (Kd.fresh' (Kd.R_lt (by (with_reducible repeat (first | apply Kd.R_alloc | apply Kd.R_drewN | apply Kd.R_drew)); exact HO113.out)) k_ hk_)⟩)) (below_size (by repeat (first | (with_reducible first | exact HB.out | apply below_alloc | apply pw_below_drewN | apply below_drew1) | exact HB.out)))); have n3_ := Aside0.mk (below_step (by repeat (first | (with_reducible first | exact HB.out | apply below_alloc | apply pw_below_drewN | apply below_drew1) | exact HB.out)) hb); clear HO109; clear HO113; clear HB; have HO109 := n0_; have HO113 := n1_; have HO116 := n2_; have HB := n3_; clear n0_ n1_ n2_ n3_; clear hb ho97; obtain ⟨Ao98, co98, eo98⟩ := Kd.N_slice HO116.out; subst eo98) | ((with_reducible refine gate_callee (f := 17) rfl ?_); refine goesL_ (some 14) rfl rfl Try.func17 (by kernel_rfl) rfl #[.slice Ao98 y114.length co98] rfl (by (try simp only [List.map_toArray, List.map_cons, List.map_nil]); first | done | rfl | (simp only [List.length_drop, List.length_take]; rfl)) ?_; (with_reducible refine (gap_Coalesce.calls _ _ y114 t117 t118 _ ?side1 ?side2 A3.out).mono ?_); (case side1 => repeat (first | exact (Kd.N_reads' HO116.out).2.2 | (with_reducible refine Kd.C_alloc ?_ _) | (with_reducible refine Kd.C_drewN ?_ _) | (with_reducible refine Kd.C_drew ?_))); (case side2 => exact (Kd.N_reads' HO116.out).2.1); rintro e w99 ⟨v119, rfl, ho0, hb⟩; refine ⟨_, rfl, ?_⟩; have n0_ := Aside0.mk (Kd.N_elder' (by (with_reducible repeat (first | apply Kd.N_alloc | apply Kd.N_drewN | apply Kd.N_drew)); exact HO109.out) (Kd.R_base ho0) hb); have n1_ := Aside0.mk (Kd.R_elder' (by (with_reducible repeat (first | apply Kd.R_alloc | apply Kd.R_drewN | apply Kd.R_drew)); exact HO113.out) (Kd.R_base ho0) hb); have n2_ := Aside0.mk (Kd.N_elder' (by (with_reducible repeat (first | apply Kd.N_alloc | apply Kd.N_drewN | apply Kd.N_drew)); exact HO116.out) (Kd.R_base ho0) hb); have n3_ := Aside0.mk (Kd.R_lower (Kd.R_new' ho0 (Kd.R_lt (by (with_reducible repeat (first | apply Kd.R_alloc | apply Kd.R_drewN | apply Kd.R_drew)); exact HO113.out))) (below_size (by repeat (first | (with_reducible first | exact HB.out | apply below_alloc | apply pw_below_drewN | apply below_drew1) | exact HB.out)))); have n4_ := Aside0.mk (below_step (by repeat (first | (with_reducible first | exact HB.out | apply below_alloc | apply pw_below_drewN | apply below_drew1) | exact HB.out)) hb); clear HO109; clear HO113; clear HO116; clear HB; have HO109 := n0_; have HO113 := n1_; have HO116 := n2_; have HO120 := n3_; have HB := n4_; clear n0_ n1_ n2_ n3_ n4_; (try clear hb); (try clear hb2); (try clear hk); (try clear hi); (try clear ho0)))
      go_ret
      exact ⟨by first | rfl | (simp [errW_none, errW_some] <;> rfl) | (simp [*, errW_none, errW_some] <;> rfl), by repeat (first | (with_reducible first | exact HB.out | apply below_alloc | apply pw_below_drewN | apply below_drew1) | exact HB.out)⟩
  · rw [if_neg c2] at H
    exact absurd H (by simp)

end Go.Proofs.Ytnlekganlliikaa.X
-- part XTn2
namespace Go.Proofs.Ytnlekganlliikaa.X
open Go.RowKit Go.Proofs.YtnlekganlliikaaW.PrintWords Go.Proofs.YtnlekganlliikaaW.PrintLast Go.Proofs.YtnlekganlliikaaW.PrintMore
attribute [local go_sem] max2_int min2_int max_two min_two max_three min_three max_four min_four   -- for this text's walks alone
set_option linter.unusedVariables false
set_option linter.unusedSimpArgs false
mutual
def sennitlaw19_GapLast.j0 : Nat → List (List ByteArray) → Bool → Bool → Option (Bool)
  | 0, _, _, _ => none
  | k + 1, x0, x3, x19 => if x19 = true then (some x3) else ((sennitref19_Coalesce.f k x0).bind fun bt140 => (sennitlaw19_GapLast.l0 k x0 x3 bt140.1 ([] : List ByteArray) 0))
def sennitlaw19_GapLast.l0 : Nat → List (List ByteArray) → Bool → List (S37) → List ByteArray → Int → Option (Bool)
  | 0, _, _, _, _, _ => none
  | k + 1, x0, x3, x4, x6, x7 => if x7 < (x4.length : Int) then (if 0 ≤ x7 then (if x6.length < 8796093022208 then (sennitlaw19_GapLast.l0 k x0 x3 x4 (x6 ++ [(rd_T37 x4 x7).f1]) (wrap64 (x7 + 1))) else (none)) else (none)) else ((some (([] : List (List ByteArray)) : List (List ByteArray))).bind fun y148 => (if y148.length + x0.length < 5864062014805 then ((some (y148 ++ x0 : List (List ByteArray))).bind fun y151 => (if y151.length < 5864062014805 then ((gap_Coalesce.f (y151 ++ [x6])).bind fun bt157 => (sennitlaw19_GapLast.l1 k x3 x4 bt157.1 bt157.2 0)) else (none))) else (none)))
def sennitlaw19_GapLast.l1 : Nat → Bool → List (S37) → List (S37) → Int → Int → Option (Bool)
  | 0, _, _, _, _, _ => none
  | k + 1, x3, x4, x8, x9, x10 => if x10 < (x4.length : Int) then (sennitlaw19_GapLast.j3 k x3 x4 x8 x9 x10 (decide (x10 < (x8.length : Int)))) else (sennitlaw19_GapLast.j3 k x3 x4 x8 x9 x10 false)
def sennitlaw19_GapLast.j3 : Nat → Bool → List (S37) → List (S37) → Int → Int → Bool → Option (Bool)
  | 0, _, _, _, _, _, _ => none
  | k + 1, x3, x4, x8, x9, x10, x59 => if x59 = true then (if 0 ≤ x10 then (if x10 < (x8.length : Int) then (if x10 < (x4.length : Int) then (if ((rd_T37 x4 x10).f0).size + 1 ≤ 9223372036854775807 then (if ((rd_T37 x8 x10).f0).toList = (((rd_T37 x4 x10).f0) ++ (⟨#[45]⟩ : ByteArray)).toList then (if ((rd_T37 x8 x10).f1).toList = ((rd_T37 x4 x10).f1).toList then (sennitlaw19_GapLast.l1 k x3 x4 x8 x9 (wrap64 (x10 + 1))) else (some false)) else (some false)) else (none)) else (none)) else (none)) else (none)) else (if x3 = true then (if x9 = 0 then (some ((x8.length : Int) == (x4.length : Int))) else (some false)) else (some false))
end
def sennitlaw19_GapLast.f (k : Nat) (l0 : List (List ByteArray)) : Option (Bool) := (sennitlaw19_awake.f).bind fun t138 => ((sennitref06_Few.f k ([] : List ByteArray) l0).bind fun t139 => (if t139 = true then (sennitlaw19_GapLast.j0 k l0 t138 (decide ((l0.length : Int) > 5))) else (sennitlaw19_GapLast.j0 k l0 t138 true)))
set_option maxHeartbeats 8000000 in
set_option maxRecDepth 100000 in
theorem sennitlaw19_GapLast.calls (k : Nat) (P0_ : Nat → Prop) (A0 : Option Addr) (c0 : Nat) (l0 : List (List ByteArray)) (r : Bool) (w : World) (hs0 : Kd.V (Kd.slice 9 Kd.string) 34 w w.heap.size (fun k_ => P0_ k_) (.slice A0 l0.length c0) l0) (h : sennitlaw19_GapLast.f k l0 = some r) :
    Calls Try.prog 7 #[.slice A0 l0.length c0] w fun e w' => e = .returned (.bool r) ∧ Below w.heap.size w w' := by
  have HO0 := Aside0.mk (show Kd.V (Kd.slice 9 Kd.string) 34 w w.heap.size (fun k_ => (P0_ k_ ∨ w.heap.size ≤ k_)) (.slice A0 l0.length c0) l0 from Kd.V_mono hs0 (fun k_ hk => .inl hk))
  have HB := Aside0.mk (Below.refl w.heap.size w)
  have H : ((sennitlaw19_awake.f).bind fun t138 => ((sennitref06_Few.f k ([] : List ByteArray) l0).bind fun t139 => (if t139 = true then (sennitlaw19_GapLast.j0 k l0 t138 (decide ((l0.length : Int) > 5))) else (sennitlaw19_GapLast.j0 k l0 t138 true)))) = some r := h
  clear h
  replace H := Option.bind_eq_some_iff.mp H
  obtain ⟨t138, A20, H⟩ := H
  replace H : ((sennitref06_Few.f k ([] : List ByteArray) l0).bind fun t139 => (if t139 = true then (sennitlaw19_GapLast.j0 k l0 t138 (decide ((l0.length : Int) > 5))) else (sennitlaw19_GapLast.j0 k l0 t138 true))) = some r := H
  have A2 := Aside0.mk A20
  clear A20
  have HC3 := Aside0.mk H
  clear H
  go_enter Try.func7, Try.ntmps7
  go_upto_region 2 with (first | (go_at_call 15; (with_reducible refine (sennitlaw19_awake.calls  t138 _ A2.out).mono ?_); rintro e w4 ⟨rfl, hb⟩; have n0_ := Aside0.mk (Kd.V_below (by (with_reducible repeat (first | apply Kd.V_alloc | apply Kd.V_drewN | apply Kd.V_drew)); exact HO0.out) hb); have n1_ := Aside0.mk (below_step (by repeat (first | (with_reducible first | exact HB.out | apply below_alloc | apply pw_below_drewN | apply below_drew1) | exact HB.out)) hb); clear HO0; clear HB; have HO0 := n0_; have HB := n1_; clear n0_ n1_; (try clear hb); (try clear hb2); (try clear hk); (try clear hi)))
  repeat (go_quiet (first | (go_at_call 15; (with_reducible refine (sennitlaw19_awake.calls  t138 _ A2.out).mono ?_); rintro e w4 ⟨rfl, hb⟩; have n0_ := Aside0.mk (Kd.V_below (by (with_reducible repeat (first | apply Kd.V_alloc | apply Kd.V_drewN | apply Kd.V_drew)); exact HO0.out) hb); have n1_ := Aside0.mk (below_step (by repeat (first | (with_reducible first | exact HB.out | apply below_alloc | apply pw_below_drewN | apply below_drew1) | exact HB.out)) hb); clear HO0; clear HB; have HO0 := n0_; have HB := n1_; clear n0_ n1_; (try clear hb); (try clear hb2); (try clear hk); (try clear hi))); go_upto_region 2 with (first | (go_at_call 15; (with_reducible refine (sennitlaw19_awake.calls  t138 _ A2.out).mono ?_); rintro e w4 ⟨rfl, hb⟩; have n0_ := Aside0.mk (Kd.V_below (by (with_reducible repeat (first | apply Kd.V_alloc | apply Kd.V_drewN | apply Kd.V_drew)); exact HO0.out) hb); have n1_ := Aside0.mk (below_step (by repeat (first | (with_reducible first | exact HB.out | apply below_alloc | apply pw_below_drewN | apply below_drew1) | exact HB.out)) hb); clear HO0; clear HB; have HO0 := n0_; have HB := n1_; clear n0_ n1_; (try clear hb); (try clear hb2); (try clear hk); (try clear hi))))
  (try simp only [Act.put, List.setIfInBounds_toArray, List.set_cons_zero, List.set_cons_succ])
  go_cut [19] (fun v19 wc => ∃ (kq : Nat) (x19_2 : Bool), v19 = .bool x19_2 ∧ Aside0 (sennitlaw19_GapLast.j0 kq l0 t138 x19_2 = some r) ∧ Aside0 (kq ≤ k) ∧ Aside0 (Kd.V (Kd.slice 9 Kd.string) 34 wc w.heap.size (fun k_ => (P0_ k_ ∨ w.heap.size ≤ k_)) (.slice A0 l0.length c0) l0) ∧ Aside0 (Below w.heap.size w wc))
  case first =>
    have H := HC3.out
    clear HC3
    replace H := Option.bind_eq_some_iff.mp H
    obtain ⟨t139, A50, H⟩ := H
    replace H : (if t139 = true then (sennitlaw19_GapLast.j0 k l0 t138 (decide ((l0.length : Int) > 5))) else (sennitlaw19_GapLast.j0 k l0 t138 true)) = some r := H
    have A5 := Aside0.mk A50
    clear A50
    by_cases c6 : t139 = true
    · subst c6
      have H1 : (sennitlaw19_GapLast.j0 k l0 t138 (decide ((l0.length : Int) > 5))) = some r := by rw [if_pos rfl] at H; exact H
      clear H
      have H := H1
      clear H1
      have H' := Aside0.mk H
      clear H
      go_wp2_with (first | (go_at_call 16; (refine (sennitref06_Few.calls k _ _ ([] : List ByteArray) _ _ l0 true _ ?side1 ?side2 ?side3 ?side4 A5.out).mono ?_); (case side1 => exact Kd.C_nil _ _); (case side2 => exact Nat.le_refl _); (case side3 => repeat (first | exact (Kd.V_reads' HO0.out).2.2 | (with_reducible refine Kd.C_alloc ?_ _) | (with_reducible refine Kd.C_drewN ?_ _) | (with_reducible refine Kd.C_drew ?_))); (case side4 => exact (Kd.V_reads' HO0.out).2.1); rintro e w' ⟨rfl, ⟨nd, rfl⟩⟩; (try first | exact ⟨rfl, _, World.drewN_drewN _ _ _⟩ | exact ⟨rfl, _, Eq.trans (World.drewN_drewN _ _ _) (congrArg (World.drewN _) (Nat.add_assoc _ _ _))⟩)))
      repeat (go_quiet (first | (go_at_call 16; (refine (sennitref06_Few.calls k _ _ ([] : List ByteArray) _ _ l0 true _ ?side1 ?side2 ?side3 ?side4 A5.out).mono ?_); (case side1 => exact Kd.C_nil _ _); (case side2 => exact Nat.le_refl _); (case side3 => repeat (first | exact (Kd.V_reads' HO0.out).2.2 | (with_reducible refine Kd.C_alloc ?_ _) | (with_reducible refine Kd.C_drewN ?_ _) | (with_reducible refine Kd.C_drew ?_))); (case side4 => exact (Kd.V_reads' HO0.out).2.1); rintro e w' ⟨rfl, ⟨nd, rfl⟩⟩; (try first | exact ⟨rfl, _, World.drewN_drewN _ _ _⟩ | exact ⟨rfl, _, Eq.trans (World.drewN_drewN _ _ _) (congrArg (World.drewN _) (Nat.add_assoc _ _ _))⟩))); try go_wp2_with (first | (go_at_call 16; (refine (sennitref06_Few.calls k _ _ ([] : List ByteArray) _ _ l0 true _ ?side1 ?side2 ?side3 ?side4 A5.out).mono ?_); (case side1 => exact Kd.C_nil _ _); (case side2 => exact Nat.le_refl _); (case side3 => repeat (first | exact (Kd.V_reads' HO0.out).2.2 | (with_reducible refine Kd.C_alloc ?_ _) | (with_reducible refine Kd.C_drewN ?_ _) | (with_reducible refine Kd.C_drew ?_))); (case side4 => exact (Kd.V_reads' HO0.out).2.1); rintro e w' ⟨rfl, ⟨nd, rfl⟩⟩; (try first | exact ⟨rfl, _, World.drewN_drewN _ _ _⟩ | exact ⟨rfl, _, Eq.trans (World.drewN_drewN _ _ _) (congrArg (World.drewN _) (Nat.add_assoc _ _ _))⟩))))
      go_meet
      case rel => exact ⟨_, (decide ((l0.length : Int) > 5)), (by first | rfl | (simp; done) | (simp [*]; done)), H', ⟨by first | omega | exact Nat.le_refl _⟩, ⟨by (with_reducible repeat (first | apply Kd.V_alloc | apply Kd.V_drewN | apply Kd.V_drew)); exact HO0.out⟩, ⟨by repeat (first | (with_reducible first | exact HB.out | apply below_alloc | apply pw_below_drewN | apply below_drew1) | exact HB.out)⟩⟩
    · replace c6 := Bool.eq_false_iff.mpr c6
      subst c6
      have H1 : (sennitlaw19_GapLast.j0 k l0 t138 true) = some r := by rw [if_neg (show ¬ (false = true) by decide)] at H; exact H
      clear H
      have H := H1
      clear H1
      have H' := Aside0.mk H
      clear H
      go_wp2_with (first | (go_at_call 16; (refine (sennitref06_Few.calls k _ _ ([] : List ByteArray) _ _ l0 false _ ?side1 ?side2 ?side3 ?side4 A5.out).mono ?_); (case side1 => exact Kd.C_nil _ _); (case side2 => exact Nat.le_refl _); (case side3 => repeat (first | exact (Kd.V_reads' HO0.out).2.2 | (with_reducible refine Kd.C_alloc ?_ _) | (with_reducible refine Kd.C_drewN ?_ _) | (with_reducible refine Kd.C_drew ?_))); (case side4 => exact (Kd.V_reads' HO0.out).2.1); rintro e w' ⟨rfl, ⟨nd, rfl⟩⟩; (try first | exact ⟨rfl, _, World.drewN_drewN _ _ _⟩ | exact ⟨rfl, _, Eq.trans (World.drewN_drewN _ _ _) (congrArg (World.drewN _) (Nat.add_assoc _ _ _))⟩)))
      repeat (go_quiet (first | (go_at_call 16; (refine (sennitref06_Few.calls k _ _ ([] : List ByteArray) _ _ l0 false _ ?side1 ?side2 ?side3 ?side4 A5.out).mono ?_); (case side1 => exact Kd.C_nil _ _); (case side2 => exact Nat.le_refl _); (case side3 => repeat (first | exact (Kd.V_reads' HO0.out).2.2 | (with_reducible refine Kd.C_alloc ?_ _) | (with_reducible refine Kd.C_drewN ?_ _) | (with_reducible refine Kd.C_drew ?_))); (case side4 => exact (Kd.V_reads' HO0.out).2.1); rintro e w' ⟨rfl, ⟨nd, rfl⟩⟩; (try first | exact ⟨rfl, _, World.drewN_drewN _ _ _⟩ | exact ⟨rfl, _, Eq.trans (World.drewN_drewN _ _ _) (congrArg (World.drewN _) (Nat.add_assoc _ _ _))⟩))); try go_wp2_with (first | (go_at_call 16; (refine (sennitref06_Few.calls k _ _ ([] : List ByteArray) _ _ l0 false _ ?side1 ?side2 ?side3 ?side4 A5.out).mono ?_); (case side1 => exact Kd.C_nil _ _); (case side2 => exact Nat.le_refl _); (case side3 => repeat (first | exact (Kd.V_reads' HO0.out).2.2 | (with_reducible refine Kd.C_alloc ?_ _) | (with_reducible refine Kd.C_drewN ?_ _) | (with_reducible refine Kd.C_drew ?_))); (case side4 => exact (Kd.V_reads' HO0.out).2.1); rintro e w' ⟨rfl, ⟨nd, rfl⟩⟩; (try first | exact ⟨rfl, _, World.drewN_drewN _ _ _⟩ | exact ⟨rfl, _, Eq.trans (World.drewN_drewN _ _ _) (congrArg (World.drewN _) (Nat.add_assoc _ _ _))⟩))))
      go_meet
      case rel => exact ⟨_, (true), (by first | rfl | (simp; done) | (simp [*]; done)), H', ⟨by first | omega | exact Nat.le_refl _⟩, ⟨by (with_reducible repeat (first | apply Kd.V_alloc | apply Kd.V_drewN | apply Kd.V_drew)); exact HO0.out⟩, ⟨by repeat (first | (with_reducible first | exact HB.out | apply below_alloc | apply pw_below_drewN | apply below_drew1) | exact HB.out)⟩⟩
  case rest =>
    clear HC3
    try clear p2
    try clear c6
    obtain ⟨kq, x19_2, rfl, HA, HJ2, HO_0, HB⟩ := hcut
    cases kq with
    | zero => exact absurd HA.out (by simp [sennitlaw19_GapLast.j0])
    | succ kj2 =>
      have H := HA.out
      clear HA
      simp only [sennitlaw19_GapLast.j0] at H
      by_cases c7 : x19_2 = true
      · subst c7
        have H1 : (some t138) = some r := by rw [if_pos rfl] at H; exact H
        clear H
        have H := H1
        clear H1
        obtain rfl := Option.some.inj H
        go_wp2
        repeat (go_quiet (fail); try go_wp2)
        go_ret
        exact ⟨by first | rfl | (simp [errW_none, errW_some] <;> rfl) | (simp [*, errW_none, errW_some] <;> rfl), by repeat (first | (with_reducible first | exact HB.out | apply below_alloc | apply pw_below_drewN | apply below_drew1) | exact HB.out)⟩
      · replace c7 := Bool.eq_false_iff.mpr c7
        subst c7
        have H1 : ((sennitref19_Coalesce.f kj2 l0).bind fun bt140 => (sennitlaw19_GapLast.l0 kj2 l0 t138 bt140.1 ([] : List ByteArray) 0)) = some r := by rw [if_neg (show ¬ (false = true) by decide)] at H; exact H
        clear H
        have H := H1
        clear H1
        replace H := Option.bind_eq_some_iff.mp H
        obtain ⟨⟨t140, t141⟩, A80, H⟩ := H
        replace H : (sennitlaw19_GapLast.l0 kj2 l0 t138 t140 ([] : List ByteArray) 0) = some r := H
        have A8 := Aside0.mk A80
        clear A80
        have H' := Aside0.mk H
        clear H
        go_wp2_with (first | (go_at_call 18; (with_reducible refine (sennitref19_Coalesce.calls kj2 _ _ l0 t140 t141 _ ?side1 ?side2 A8.out).mono ?_); (case side1 => repeat (first | exact (Kd.V_reads' HO_0.out).2.2 | (with_reducible refine Kd.C_alloc ?_ _) | (with_reducible refine Kd.C_drewN ?_ _) | (with_reducible refine Kd.C_drew ?_))); (case side2 => exact (Kd.V_reads' HO_0.out).2.1); rintro e w9 ⟨v142, rfl, ho0, hb⟩; have n0_ := Aside0.mk (Kd.V_elder' (by (with_reducible repeat (first | apply Kd.V_alloc | apply Kd.V_drewN | apply Kd.V_drew)); exact HO_0.out) (Kd.R_base ho0) hb); have n1_ := Aside0.mk (Kd.R_lower (Kd.R_newM (M := fun k_ => (w.heap.size ≤ k_)) ho0 (below_size (by repeat (first | (with_reducible first | exact HB.out | apply below_alloc | apply pw_below_drewN | apply below_drew1) | exact HB.out))) (fun k_ h_ => h_)) (below_size (by repeat (first | (with_reducible first | exact HB.out | apply below_alloc | apply pw_below_drewN | apply below_drew1) | exact HB.out)))); have n2_ := Aside0.mk (below_step (by repeat (first | (with_reducible first | exact HB.out | apply below_alloc | apply pw_below_drewN | apply below_drew1) | exact HB.out)) hb); clear HO_0; clear HB; have HO_0 := n0_; have HO143 := n1_; have HB := n2_; clear n0_ n1_ n2_; (try clear hb); (try clear hb2); (try clear hk); (try clear hi); (try clear ho0)))
        repeat (go_quiet (first | (go_at_call 18; (with_reducible refine (sennitref19_Coalesce.calls kj2 _ _ l0 t140 t141 _ ?side1 ?side2 A8.out).mono ?_); (case side1 => repeat (first | exact (Kd.V_reads' HO_0.out).2.2 | (with_reducible refine Kd.C_alloc ?_ _) | (with_reducible refine Kd.C_drewN ?_ _) | (with_reducible refine Kd.C_drew ?_))); (case side2 => exact (Kd.V_reads' HO_0.out).2.1); rintro e w9 ⟨v142, rfl, ho0, hb⟩; have n0_ := Aside0.mk (Kd.V_elder' (by (with_reducible repeat (first | apply Kd.V_alloc | apply Kd.V_drewN | apply Kd.V_drew)); exact HO_0.out) (Kd.R_base ho0) hb); have n1_ := Aside0.mk (Kd.R_lower (Kd.R_newM (M := fun k_ => (w.heap.size ≤ k_)) ho0 (below_size (by repeat (first | (with_reducible first | exact HB.out | apply below_alloc | apply pw_below_drewN | apply below_drew1) | exact HB.out))) (fun k_ h_ => h_)) (below_size (by repeat (first | (with_reducible first | exact HB.out | apply below_alloc | apply pw_below_drewN | apply below_drew1) | exact HB.out)))); have n2_ := Aside0.mk (below_step (by repeat (first | (with_reducible first | exact HB.out | apply below_alloc | apply pw_below_drewN | apply below_drew1) | exact HB.out)) hb); clear HO_0; clear HB; have HO_0 := n0_; have HO143 := n1_; have HB := n2_; clear n0_ n1_ n2_; (try clear hb); (try clear hb2); (try clear hk); (try clear hi); (try clear ho0))); try go_wp2_with (first | (go_at_call 18; (with_reducible refine (sennitref19_Coalesce.calls kj2 _ _ l0 t140 t141 _ ?side1 ?side2 A8.out).mono ?_); (case side1 => repeat (first | exact (Kd.V_reads' HO_0.out).2.2 | (with_reducible refine Kd.C_alloc ?_ _) | (with_reducible refine Kd.C_drewN ?_ _) | (with_reducible refine Kd.C_drew ?_))); (case side2 => exact (Kd.V_reads' HO_0.out).2.1); rintro e w9 ⟨v142, rfl, ho0, hb⟩; have n0_ := Aside0.mk (Kd.V_elder' (by (with_reducible repeat (first | apply Kd.V_alloc | apply Kd.V_drewN | apply Kd.V_drew)); exact HO_0.out) (Kd.R_base ho0) hb); have n1_ := Aside0.mk (Kd.R_lower (Kd.R_newM (M := fun k_ => (w.heap.size ≤ k_)) ho0 (below_size (by repeat (first | (with_reducible first | exact HB.out | apply below_alloc | apply pw_below_drewN | apply below_drew1) | exact HB.out))) (fun k_ h_ => h_)) (below_size (by repeat (first | (with_reducible first | exact HB.out | apply below_alloc | apply pw_below_drewN | apply below_drew1) | exact HB.out)))); have n2_ := Aside0.mk (below_step (by repeat (first | (with_reducible first | exact HB.out | apply below_alloc | apply pw_below_drewN | apply below_drew1) | exact HB.out)) hb); clear HO_0; clear HB; have HO_0 := n0_; have HO143 := n1_; have HB := n2_; clear n0_ n1_ n2_; (try clear hb); (try clear hb2); (try clear hk); (try clear hi); (try clear ho0))))
        go_loopg [6, 7] kj2 (fun kq v6 v7 w' => ∃ (x6_2 : List ByteArray) (x7_2 : Int), v7 = .int .i64 x7_2 ∧ Aside0 (sennitlaw19_GapLast.l0 kq l0 t138 t140 x6_2 x7_2 = some r) ∧ Aside0 (kq ≤ kj2) ∧ Aside0 (Kd.V (Kd.slice 9 Kd.string) 34 w' w.heap.size (fun k_ => (P0_ k_ ∨ w.heap.size ≤ k_) ∧ some k_ ≠ (v142 : Value).ownBlock ∧ some k_ ≠ (v6 : Value).ownBlock) (.slice A0 l0.length c0) l0) ∧ Aside0 (Kd.R k37 37 w' w.heap.size (fun k_ => (w.heap.size ≤ k_)) v142 t140) ∧ Aside0 (Kd.R Kd.string 9 w' w.heap.size (fun k_ => (w.heap.size ≤ k_)) v6 x6_2) ∧ Aside0 (Below w.heap.size w w'))
        case atStart => exact ⟨(([] : List ByteArray)), (0), (by first | rfl | (simp; done) | (simp [*]; done)), H', ⟨Nat.le_refl _⟩, ⟨by (with_reducible repeat (first | apply Kd.V_alloc | apply Kd.V_drewN | apply Kd.V_drew)); exact Kd.V_mono HO_0.out (fun _ hk => ⟨hk.1, ⟨hk.2, (by simp [Value.ownBlock])⟩⟩)⟩, ⟨by (with_reducible repeat (first | apply Kd.R_alloc | apply Kd.R_drewN | apply Kd.R_drew)); exact Kd.R_mono HO143.out (fun _ hk => hk.1)⟩, ⟨by first | exact Kd.R_nil _ _ _ _ _ | exact Kd.N_nil _ _ _ _ _ | exact Kd.V_nil _ _ _ _ _ | exact Kd.Q_nil _ _ _ _ _ | exact Kd.S_nil _ _ _ _ _⟩, ⟨by repeat (first | (with_reducible first | exact HB.out | apply below_alloc | apply pw_below_drewN | apply below_drew1) | exact HB.out)⟩⟩
        case round =>
          clear H'
          try clear p2
          try clear c6
          try clear c7
          try clear p2
          obtain ⟨x6_2, x7_2, rfl, HA, HK2, HO_0, HO_4, HO_6, HB⟩ := hrel
          cases gk with
          | zero => exact absurd HA.out (by simp [sennitlaw19_GapLast.l0])
          | succ k2 =>
            have H := HA.out
            clear HA
            simp only [sennitlaw19_GapLast.l0] at H
            by_cases c10 : x7_2 < (t140.length : Int)
            · rw [if_pos c10] at H
              have c10b0 : decide (x7_2 < (t140.length : Int)) = true := decide_eq_true c10
              clear c10
              by_cases c11 : 0 ≤ x7_2
              · rw [if_pos c11] at H
                have c11b0 : decide (0 ≤ x7_2) = true := decide_eq_true c11
                clear c11
                by_cases c12 : x6_2.length < 8796093022208
                · rw [if_pos c12] at H
                  have LMc12 := Aside0.mk c12
                  clear c12
                  obtain ⟨y145, hy145⟩ : ∃ y_ : List ByteArray, y_ = (x6_2 ++ [(rd_T37 t140 x7_2).f1]) := ⟨_, rfl⟩
                  replace H : (sennitlaw19_GapLast.l0 k2 l0 t138 t140 y145 (wrap64 (x7_2 + 1))) = some r := by first | (rw [hy145]; with_reducible exact H) | (have H2_ := (Option.bind_some _ _).symm.trans H; rw [hy145]; with_reducible exact H2_) | (have H2_ := (Option.bind_some _ _).symm.trans H; with_reducible exact H2_) | with_reducible exact H | (rw [hy145]; exact H) | exact H
                  have Ny145 := Aside0.mk hy145
                  clear hy145
                  have H' := Aside0.mk H
                  clear H
                  obtain ⟨Ao13, co13, eo13⟩ := Kd.R_slice HO_4.out
                  subst eo13
                  have p144 : 0 ≤ (x7_2 : Int) := of_decide_eq_true (by first | (with_reducible assumption) | assumption)
                  have q144 : x7_2 < (t140.length : Int) := of_decide_eq_true (by first | (with_reducible assumption) | assumption)
                  obtain ⟨ad144, e144, hx144_0, hx144_1⟩ := at_T37 (Kd.R_reads' HO_4.out).2.2 x7_2 p144 q144
                  cases e144
                  replace p144 := eq_true p144
                  replace q144 := eq_true q144
                  go_wp2_with (first | ((with_reducible refine gate_builtin (b := .append) (xs := #[.tmp 32, .tmp 38]) rfl ?_); (try (refine gate_guard (by rfl) ?_; dsimp only)); at_builtin; refine Kd.R_append Kd.string (w0 := w) w.heap.size rfl (.tmp 32) (.tmp 38) 34 9 (.string ⟨#[]⟩) 16 rfl Try.underlying34 info9 rfl (by decide) (by omega) u6 x6_2 ((rd_T37 t140 x7_2).f1) [.string ((rd_T37 t140 x7_2).f1)] (fun k_ => (w.heap.size ≤ k_)) (fun _ => False) rfl rfl ?aP (fun _ hk => hk.elim) ?aF ?aO ?aB ?aS ?aL ?_; (case aP => exact rfl); (case aB => exact (by repeat (first | (with_reducible first | exact HB.out | apply below_alloc | apply pw_below_drewN | apply below_drew1) | exact HB.out))); (case aF => exact (fun k_ hk => (Nat.le_trans (below_size (by repeat (first | (with_reducible first | exact HB.out | apply below_alloc | apply pw_below_drewN | apply below_drew1) | exact HB.out))) hk))); (case aO => exact (by (with_reducible repeat (first | apply Kd.R_alloc | apply Kd.R_drewN | apply Kd.R_drew)); exact HO_6.out)); (case aS => exact (below_size (by repeat (first | (with_reducible first | exact HB.out | apply below_alloc | apply pw_below_drewN | apply below_drew1) | exact HB.out)))); (case aL => have := LMc12.out; omega); intro v146 w14 ho hb hg hat; rw [← Ny145.out] at ho; have n0_ := Aside0.mk (Kd.V_afterv (ok := (fun k_ => (P0_ k_ ∨ w.heap.size ≤ k_) ∧ some k_ ≠ (.slice (some ad144) t140.length co13 : Value).ownBlock)) (by (with_reducible repeat (first | apply Kd.V_alloc | apply Kd.V_drewN | apply Kd.V_drew)); exact Kd.V_mono HO_0.out (fun _ hk => ⟨⟨hk.1, hk.2.1⟩, hk.2.2⟩)) hg hat); have n1_ := Aside0.mk (Kd.R_over' (by (with_reducible repeat (first | apply Kd.R_alloc | apply Kd.R_drewN | apply Kd.R_drew)); exact HO_4.out) (Kd.R_typed (by (with_reducible repeat (first | apply Kd.R_alloc | apply Kd.R_drewN | apply Kd.R_drew)); exact HO_6.out)) (by decide) hg); have n2_ := Aside0.mk (hb); have n3_ := Aside0.mk (ho); clear HO_0; clear HO_4; clear HB; clear HO_6; have HO_0 := n0_; have HO_4 := n1_; have HB := n2_; have HO147 := n3_; clear n0_ n1_ n2_ n3_; clear ho hb hg hat))
                  repeat (go_quiet (first | ((with_reducible refine gate_builtin (b := .append) (xs := #[.tmp 32, .tmp 38]) rfl ?_); (try (refine gate_guard (by rfl) ?_; dsimp only)); at_builtin; refine Kd.R_append Kd.string (w0 := w) w.heap.size rfl (.tmp 32) (.tmp 38) 34 9 (.string ⟨#[]⟩) 16 rfl Try.underlying34 info9 rfl (by decide) (by omega) u6 x6_2 ((rd_T37 t140 x7_2).f1) [.string ((rd_T37 t140 x7_2).f1)] (fun k_ => (w.heap.size ≤ k_)) (fun _ => False) rfl rfl ?aP (fun _ hk => hk.elim) ?aF ?aO ?aB ?aS ?aL ?_; (case aP => exact rfl); (case aB => exact (by repeat (first | (with_reducible first | exact HB.out | apply below_alloc | apply pw_below_drewN | apply below_drew1) | exact HB.out))); (case aF => exact (fun k_ hk => (Nat.le_trans (below_size (by repeat (first | (with_reducible first | exact HB.out | apply below_alloc | apply pw_below_drewN | apply below_drew1) | exact HB.out))) hk))); (case aO => exact (by (with_reducible repeat (first | apply Kd.R_alloc | apply Kd.R_drewN | apply Kd.R_drew)); exact HO_6.out)); (case aS => exact (below_size (by repeat (first | (with_reducible first | exact HB.out | apply below_alloc | apply pw_below_drewN | apply below_drew1) | exact HB.out)))); (case aL => have := LMc12.out; omega); intro v146 w14 ho hb hg hat; rw [← Ny145.out] at ho; have n0_ := Aside0.mk (Kd.V_afterv (ok := (fun k_ => (P0_ k_ ∨ w.heap.size ≤ k_) ∧ some k_ ≠ (.slice (some ad144) t140.length co13 : Value).ownBlock)) (by (with_reducible repeat (first | apply Kd.V_alloc | apply Kd.V_drewN | apply Kd.V_drew)); exact Kd.V_mono HO_0.out (fun _ hk => ⟨⟨hk.1, hk.2.1⟩, hk.2.2⟩)) hg hat); have n1_ := Aside0.mk (Kd.R_over' (by (with_reducible repeat (first | apply Kd.R_alloc | apply Kd.R_drewN | apply Kd.R_drew)); exact HO_4.out) (Kd.R_typed (by (with_reducible repeat (first | apply Kd.R_alloc | apply Kd.R_drewN | apply Kd.R_drew)); exact HO_6.out)) (by decide) hg); have n2_ := Aside0.mk (hb); have n3_ := Aside0.mk (ho); clear HO_0; clear HO_4; clear HB; clear HO_6; have HO_0 := n0_; have HO_4 := n1_; have HB := n2_; have HO147 := n3_; clear n0_ n1_ n2_ n3_; clear ho hb hg hat)); try go_wp2_with (first | ((with_reducible refine gate_builtin (b := .append) (xs := #[.tmp 32, .tmp 38]) rfl ?_); (try (refine gate_guard (by rfl) ?_; dsimp only)); at_builtin; refine Kd.R_append Kd.string (w0 := w) w.heap.size rfl (.tmp 32) (.tmp 38) 34 9 (.string ⟨#[]⟩) 16 rfl Try.underlying34 info9 rfl (by decide) (by omega) u6 x6_2 ((rd_T37 t140 x7_2).f1) [.string ((rd_T37 t140 x7_2).f1)] (fun k_ => (w.heap.size ≤ k_)) (fun _ => False) rfl rfl ?aP (fun _ hk => hk.elim) ?aF ?aO ?aB ?aS ?aL ?_; (case aP => exact rfl); (case aB => exact (by repeat (first | (with_reducible first | exact HB.out | apply below_alloc | apply pw_below_drewN | apply below_drew1) | exact HB.out))); (case aF => exact (fun k_ hk => (Nat.le_trans (below_size (by repeat (first | (with_reducible first | exact HB.out | apply below_alloc | apply pw_below_drewN | apply below_drew1) | exact HB.out))) hk))); (case aO => exact (by (with_reducible repeat (first | apply Kd.R_alloc | apply Kd.R_drewN | apply Kd.R_drew)); exact HO_6.out)); (case aS => exact (below_size (by repeat (first | (with_reducible first | exact HB.out | apply below_alloc | apply pw_below_drewN | apply below_drew1) | exact HB.out)))); (case aL => have := LMc12.out; omega); intro v146 w14 ho hb hg hat; rw [← Ny145.out] at ho; have n0_ := Aside0.mk (Kd.V_afterv (ok := (fun k_ => (P0_ k_ ∨ w.heap.size ≤ k_) ∧ some k_ ≠ (.slice (some ad144) t140.length co13 : Value).ownBlock)) (by (with_reducible repeat (first | apply Kd.V_alloc | apply Kd.V_drewN | apply Kd.V_drew)); exact Kd.V_mono HO_0.out (fun _ hk => ⟨⟨hk.1, hk.2.1⟩, hk.2.2⟩)) hg hat); have n1_ := Aside0.mk (Kd.R_over' (by (with_reducible repeat (first | apply Kd.R_alloc | apply Kd.R_drewN | apply Kd.R_drew)); exact HO_4.out) (Kd.R_typed (by (with_reducible repeat (first | apply Kd.R_alloc | apply Kd.R_drewN | apply Kd.R_drew)); exact HO_6.out)) (by decide) hg); have n2_ := Aside0.mk (hb); have n3_ := Aside0.mk (ho); clear HO_0; clear HO_4; clear HB; clear HO_6; have HO_0 := n0_; have HO_4 := n1_; have HB := n2_; have HO147 := n3_; clear n0_ n1_ n2_ n3_; clear ho hb hg hat)))
                  go_roundg k2
                  case measure => have := HJ2.out; have := HK2.out; omega
                  case rel => exact ⟨(y145), (wrap64 (x7_2 + 1)), (by first | rfl | (simp; done) | (simp [*]; done)), H', ⟨by have := HJ2.out; have := HK2.out; omega⟩, ⟨by (with_reducible repeat (first | apply Kd.V_alloc | apply Kd.V_drewN | apply Kd.V_drew)); exact Kd.V_mono HO_0.out (fun _ hk => ⟨hk.1.1, ⟨hk.1.2, hk.2⟩⟩)⟩, ⟨by (with_reducible repeat (first | apply Kd.R_alloc | apply Kd.R_drewN | apply Kd.R_drew)); exact HO_4.out⟩, ⟨by (with_reducible repeat (first | apply Kd.R_alloc | apply Kd.R_drewN | apply Kd.R_drew)); exact HO147.out⟩, ⟨by repeat (first | (with_reducible first | exact HB.out | apply below_alloc | apply pw_below_drewN | apply below_drew1) | exact HB.out)⟩⟩
                · rw [if_neg c12] at H
                  exact absurd H (by simp)
              · rw [if_neg c11] at H
                exact absurd H (by simp)
            · rw [if_neg c10] at H
              have c10b0 : decide (x7_2 < (t140.length : Int)) = false := decide_eq_false c10
              clear c10
              obtain ⟨y148, hy148⟩ : ∃ y_ : List (List ByteArray), y_ = (([] : List (List ByteArray))) := ⟨_, rfl⟩
              replace H : (if y148.length + l0.length < 5864062014805 then ((some (y148 ++ l0 : List (List ByteArray))).bind fun y151 => (if y151.length < 5864062014805 then ((gap_Coalesce.f (y151 ++ [x6_2])).bind fun bt157 => (sennitlaw19_GapLast.l1 k2 t138 t140 bt157.1 bt157.2 0)) else (none))) else (none)) = some r := by first | (rw [hy148]; with_reducible exact H) | (have H2_ := (Option.bind_some _ _).symm.trans H; rw [hy148]; with_reducible exact H2_) | (have H2_ := (Option.bind_some _ _).symm.trans H; with_reducible exact H2_) | with_reducible exact H | (rw [hy148]; exact H) | exact H
              have Ny148 := Aside0.mk hy148
              clear hy148
              by_cases c15 : y148.length + l0.length < 5864062014805
              · rw [if_pos c15] at H
                have LMc15 := Aside0.mk c15
                clear c15
                obtain ⟨y151, hy151⟩ : ∃ y_ : List (List ByteArray), y_ = (y148 ++ l0) := ⟨_, rfl⟩
                replace H : (if y151.length < 5864062014805 then ((gap_Coalesce.f (y151 ++ [x6_2])).bind fun bt157 => (sennitlaw19_GapLast.l1 k2 t138 t140 bt157.1 bt157.2 0)) else (none)) = some r := by first | (rw [hy151]; with_reducible exact H) | (have H2_ := (Option.bind_some _ _).symm.trans H; rw [hy151]; with_reducible exact H2_) | (have H2_ := (Option.bind_some _ _).symm.trans H; with_reducible exact H2_) | with_reducible exact H | (rw [hy151]; exact H) | exact H
                have Ny151 := Aside0.mk hy151
                clear hy151
                by_cases c16 : y151.length < 5864062014805
                · rw [if_pos c16] at H
                  have LMc16 := Aside0.mk c16
                  clear c16
                  obtain ⟨y154, hy154⟩ : ∃ y_ : List (List ByteArray), y_ = (y151 ++ [x6_2]) := ⟨_, rfl⟩
                  replace H : ((gap_Coalesce.f y154).bind fun bt157 => (sennitlaw19_GapLast.l1 k2 t138 t140 bt157.1 bt157.2 0)) = some r := by first | (rw [hy154]; with_reducible exact H) | (have H2_ := (Option.bind_some _ _).symm.trans H; rw [hy154]; with_reducible exact H2_) | (have H2_ := (Option.bind_some _ _).symm.trans H; with_reducible exact H2_) | with_reducible exact H | (rw [hy154]; exact H) | exact H
                  have Ny154 := Aside0.mk hy154
                  clear hy154
                  replace H := Option.bind_eq_some_iff.mp H
                  obtain ⟨⟨t157, t158⟩, A170, H⟩ := H
                  replace H : (sennitlaw19_GapLast.l1 k2 t138 t140 t157 t158 0) = some r := H
                  have A17 := Aside0.mk A170
                  clear A170
                  have H' := Aside0.mk H
                  clear H
                  obtain ⟨Ao18, co18, eo18⟩ := Kd.R_slice HO_4.out
                  subst eo18
                  go_wp2_with (first | ((with_reducible refine gate_dst (N := 41) rfl ?_); (try (refine gate_guard (by rfl) ?_; dsimp only)); refine Kd.N_lit (Kd.slice 9 Kd.string) _ 34 ?hg (N' := 41) ?hd (xs := ([] : List (List ByteArray))) (inner := []) (ok := (fun k_ => (P0_ k_ ∨ w.heap.size ≤ k_) ∧ some k_ ≠ (.slice Ao18 t140.length co18 : Value).ownBlock ∧ some k_ ≠ (u6 : Value).ownBlock)) (okp := (fun k_ => (P0_ k_ ∨ w.heap.size ≤ k_) ∧ some k_ ≠ (.slice Ao18 t140.length co18 : Value).ownBlock ∧ some k_ ≠ (u6 : Value).ownBlock)) ?hr ?hp (fun _ hk => hk) ((show ∀ k_, wr.heap.size ≤ k_ → (fun k_ => (P0_ k_ ∨ w.heap.size ≤ k_) ∧ some k_ ≠ (.slice Ao18 t140.length co18 : Value).ownBlock ∧ some k_ ≠ (u6 : Value).ownBlock) k_ from fun k_ hk => ⟨(.inr (Nat.le_trans (below_size (by repeat (first | (with_reducible first | exact HB.out | apply below_alloc | apply pw_below_drewN | apply below_drew1) | exact HB.out))) hk)), Kd.fresh' (Kd.R_lt (by (with_reducible repeat (first | apply Kd.R_alloc | apply Kd.R_drewN | apply Kd.R_drew)); exact HO_4.out)) k_ hk, Kd.fresh' (Kd.R_lt (by (with_reducible repeat (first | apply Kd.R_alloc | apply Kd.R_drewN | apply Kd.R_drew)); exact HO_6.out)) k_ hk⟩) _ (Nat.le_refl _)) (Below.refl _ _) (Nat.le_refl _) (by simp) ?_; (case hd => rfl); (case hg => rfl); (case hr => first | (go_simp; done) | (go_simp; rfl)); (case hp => exact (Reps.none _ _)); intro v149 w19 ho20 hb hg_ hnew_; clear hg_ hnew_; (first | rw [← Ny148.out] at ho20 | (simp only [Int.reduceToNat] at ho20; rw [← Ny148.out] at ho20)); have n0_ := Aside0.mk (Kd.V_elder' (by (with_reducible repeat (first | apply Kd.V_alloc | apply Kd.V_drewN | apply Kd.V_drew)); exact HO_0.out) (Kd.N_base ho20) hb); have n1_ := Aside0.mk (Kd.R_below (by (with_reducible repeat (first | apply Kd.R_alloc | apply Kd.R_drewN | apply Kd.R_drew)); exact HO_4.out) hb); have n2_ := Aside0.mk (Kd.R_below (by (with_reducible repeat (first | apply Kd.R_alloc | apply Kd.R_drewN | apply Kd.R_drew)); exact HO_6.out) hb); have n3_ := Aside0.mk (Kd.N_lower ho20 (below_size (by repeat (first | (with_reducible first | exact HB.out | apply below_alloc | apply pw_below_drewN | apply below_drew1) | exact HB.out)))); have n4_ := Aside0.mk (below_step (by repeat (first | (with_reducible first | exact HB.out | apply below_alloc | apply pw_below_drewN | apply below_drew1) | exact HB.out)) hb); clear HO_0; clear HO_4; clear HO_6; clear HB; have HO_0 := n0_; have HO_4 := n1_; have HO_6 := n2_; have HO150 := n3_; have HB := n4_; clear n0_ n1_ n2_ n3_ n4_; clear hb ho20) | ((with_reducible refine gate_builtin (b := .append) (xs := #[.tmp 41, .tmp 42]) rfl ?_); (try (refine gate_guard (by rfl) ?_; dsimp only)); at_builtin; refine Kd.N_append_rows (Kd.slice 9 Kd.string) (w0 := w) w.heap.size rfl (.tmp 41) (.tmp 42) 22 34 (.slice none 0 0) 24 rfl Try.underlying22 info34 rfl (by decide) (by omega) v149 y148 l0 _ _ _ (fun k_ => (P0_ k_ ∨ w.heap.size ≤ k_) ∧ some k_ ≠ (.slice Ao18 t140.length co18 : Value).ownBlock ∧ some k_ ≠ (u6 : Value).ownBlock) (fun k_ => ((fun k_ => (P0_ k_ ∨ w.heap.size ≤ k_) ∧ some k_ ≠ (.slice Ao18 t140.length co18 : Value).ownBlock ∧ some k_ ≠ (u6 : Value).ownBlock)) k_ ∧ some k_ ≠ (v149 : Value).ownBlock) rfl rfl ?aO ?aR (fun _ hk => hk) ?aF ?aB ?aS ?aL ?_; (case aR => exact (by skip; exact Kd.V_F (Kd.V_mono (ok' := (fun k_ => ((fun k_ => (P0_ k_ ∨ w.heap.size ≤ k_) ∧ some k_ ≠ (.slice Ao18 t140.length co18 : Value).ownBlock ∧ some k_ ≠ (u6 : Value).ownBlock)) k_ ∧ some k_ ≠ (v149 : Value).ownBlock)) (HO_0.out) (fun k_ hk => ⟨⟨hk.1.1, ⟨hk.1.2.1, hk.1.2.2⟩⟩, hk.2⟩)))); (case aB => exact (by repeat (first | (with_reducible first | exact HB.out | apply below_alloc | apply pw_below_drewN | apply below_drew1) | exact HB.out))); (case aF => exact (fun k_ hk => ⟨(.inr (Nat.le_trans (below_size (by repeat (first | (with_reducible first | exact HB.out | apply below_alloc | apply pw_below_drewN | apply below_drew1) | exact HB.out))) hk)), Kd.fresh' (Kd.R_lt (by (with_reducible repeat (first | apply Kd.R_alloc | apply Kd.R_drewN | apply Kd.R_drew)); exact HO_4.out)) k_ hk, Kd.fresh' (Kd.R_lt (by (with_reducible repeat (first | apply Kd.R_alloc | apply Kd.R_drewN | apply Kd.R_drew)); exact HO_6.out)) k_ hk⟩)); (case aO => exact (by (with_reducible repeat (first | apply Kd.N_alloc | apply Kd.N_drewN | apply Kd.N_drew)); exact HO150.out)); (case aS => exact (below_size (by repeat (first | (with_reducible first | exact HB.out | apply below_alloc | apply pw_below_drewN | apply below_drew1) | exact HB.out)))); (case aL => have := LMc15.out; omega); intro v152 w21 ho hb hg hat; rw [← Ny151.out] at ho; have n0_ := Aside0.mk (Kd.V_afterv (ok := (fun k_ => (P0_ k_ ∨ w.heap.size ≤ k_) ∧ some k_ ≠ (.slice Ao18 t140.length co18 : Value).ownBlock ∧ some k_ ≠ (u6 : Value).ownBlock)) (by (with_reducible repeat (first | apply Kd.V_alloc | apply Kd.V_drewN | apply Kd.V_drew)); exact HO_0.out) hg hat); have n1_ := Aside0.mk (Kd.R_over' (by (with_reducible repeat (first | apply Kd.R_alloc | apply Kd.R_drewN | apply Kd.R_drew)); exact HO_4.out) (Kd.N_typed (by (with_reducible repeat (first | apply Kd.N_alloc | apply Kd.N_drewN | apply Kd.N_drew)); exact HO150.out)) (by decide) hg); have n2_ := Aside0.mk (Kd.R_over' (by (with_reducible repeat (first | apply Kd.R_alloc | apply Kd.R_drewN | apply Kd.R_drew)); exact HO_6.out) (Kd.N_typed (by (with_reducible repeat (first | apply Kd.N_alloc | apply Kd.N_drewN | apply Kd.N_drew)); exact HO150.out)) (by decide) hg); have n3_ := Aside0.mk (hb); have n4_ := Aside0.mk (ho); clear HO_0; clear HO_4; clear HO_6; clear HB; clear HO150; have HO_0 := n0_; have HO_4 := n1_; have HO_6 := n2_; have HB := n3_; have HO153 := n4_; clear n0_ n1_ n2_ n3_ n4_; clear ho hb hg hat; obtain ⟨Ao23, co23, eo23⟩ := Kd.R_slice HO_6.out; subst eo23) | ((with_reducible refine gate_builtin (b := .append) (xs := #[.tmp 43, .tmp 45]) rfl ?_); (try (refine gate_guard (by rfl) ?_; dsimp only)); at_builtin; refine Kd.N_append (Kd.slice 9 Kd.string) (w0 := w) w.heap.size rfl (.tmp 43) (.tmp 45) 22 34 (.slice none 0 0) 24 rfl Try.underlying22 info34 rfl (by decide) (by omega) v152 y151 x6_2 [.slice Ao23 x6_2.length co23] (fun k_ => (P0_ k_ ∨ w.heap.size ≤ k_) ∧ some k_ ≠ (.slice Ao18 t140.length co18 : Value).ownBlock) (fun k_ => ((fun k_ => (P0_ k_ ∨ w.heap.size ≤ k_) ∧ some k_ ≠ (.slice Ao18 t140.length co18 : Value).ownBlock)) k_ ∧ some k_ ≠ (v152 : Value).ownBlock) rfl rfl ?aP (fun _ hk => hk) ?aF ?aO ?aB ?aS ?aL ?_; (case aP => exact (Kd.FK_slice_mk (Kd.R_reads' (Kd.R_mono (ok' := (fun k_ => ((fun k_ => (P0_ k_ ∨ w.heap.size ≤ k_) ∧ some k_ ≠ (.slice Ao18 t140.length co18 : Value).ownBlock)) k_ ∧ some k_ ≠ (v152 : Value).ownBlock)) (Kd.R_apart' (Kd.R_apart' (HO_6.out) (Kd.R_typed HO_4.out) (by decide)) (Kd.N_typed HO153.out) (by decide)) (fun k_ hk => ⟨⟨(.inr (hk.1.1)), hk.1.2⟩, hk.2⟩))).2.1 (Kd.R_F (Kd.R_mono (ok' := (fun k_ => ((fun k_ => (P0_ k_ ∨ w.heap.size ≤ k_) ∧ some k_ ≠ (.slice Ao18 t140.length co18 : Value).ownBlock)) k_ ∧ some k_ ≠ (v152 : Value).ownBlock)) (Kd.R_apart' (Kd.R_apart' (HO_6.out) (Kd.R_typed HO_4.out) (by decide)) (Kd.N_typed HO153.out) (by decide)) (fun k_ hk => ⟨⟨(.inr (hk.1.1)), hk.1.2⟩, hk.2⟩))))); (case aB => exact (by repeat (first | (with_reducible first | exact HB.out | apply below_alloc | apply pw_below_drewN | apply below_drew1) | exact HB.out))); (case aF => exact (fun k_ hk => ⟨(.inr (Nat.le_trans (below_size (by repeat (first | (with_reducible first | exact HB.out | apply below_alloc | apply pw_below_drewN | apply below_drew1) | exact HB.out))) hk)), Kd.fresh' (Kd.R_lt (by (with_reducible repeat (first | apply Kd.R_alloc | apply Kd.R_drewN | apply Kd.R_drew)); exact HO_4.out)) k_ hk⟩)); (case aO => exact (by (with_reducible repeat (first | apply Kd.N_alloc | apply Kd.N_drewN | apply Kd.N_drew)); exact Kd.N_mono HO153.out (fun _ hk => ⟨hk.1, hk.2.1⟩))); (case aS => exact (below_size (by repeat (first | (with_reducible first | exact HB.out | apply below_alloc | apply pw_below_drewN | apply below_drew1) | exact HB.out)))); (case aL => have := LMc16.out; omega); intro v155 w22 ho hb hg hat; rw [← Ny154.out] at ho; have n0_ := Aside0.mk (Kd.V_afterv (ok := (fun k_ => (P0_ k_ ∨ w.heap.size ≤ k_) ∧ some k_ ≠ (.slice Ao18 t140.length co18 : Value).ownBlock ∧ some k_ ≠ (.slice Ao23 x6_2.length co23 : Value).ownBlock)) (by (with_reducible repeat (first | apply Kd.V_alloc | apply Kd.V_drewN | apply Kd.V_drew)); exact HO_0.out) hg hat); have n1_ := Aside0.mk (Kd.R_over' (by (with_reducible repeat (first | apply Kd.R_alloc | apply Kd.R_drewN | apply Kd.R_drew)); exact HO_4.out) (Kd.N_typed (by (with_reducible repeat (first | apply Kd.N_alloc | apply Kd.N_drewN | apply Kd.N_drew)); exact HO153.out)) (by decide) hg); have n2_ := Aside0.mk (hb); have n3_ := Aside0.mk (ho); clear HO_0; clear HO_4; clear HB; clear HO153; clear HO_6; have HO_0 := n0_; have HO_4 := n1_; have HB := n2_; have HO156 := n3_; clear n0_ n1_ n2_ n3_; clear ho hb hg hat; obtain ⟨Ao24, co24, eo24⟩ := Kd.N_slice HO156.out; subst eo24) | (go_at_call 17; (with_reducible refine (gap_Coalesce.calls _ _ y154 t157 t158 _ ?side1 ?side2 A17.out).mono ?_); (case side1 => repeat (first | exact (Kd.N_reads' HO156.out).2.2 | (with_reducible refine Kd.C_alloc ?_ _) | (with_reducible refine Kd.C_drewN ?_ _) | (with_reducible refine Kd.C_drew ?_))); (case side2 => exact (Kd.N_reads' HO156.out).2.1); rintro e w25 ⟨v159, rfl, ho0, hb⟩; have n0_ := Aside0.mk (Kd.V_elder' (by (with_reducible repeat (first | apply Kd.V_alloc | apply Kd.V_drewN | apply Kd.V_drew)); exact HO_0.out) (Kd.R_base ho0) hb); have n1_ := Aside0.mk (Kd.R_elder' (by (with_reducible repeat (first | apply Kd.R_alloc | apply Kd.R_drewN | apply Kd.R_drew)); exact HO_4.out) (Kd.R_base ho0) hb); have n2_ := Aside0.mk (Kd.N_elder' (by (with_reducible repeat (first | apply Kd.N_alloc | apply Kd.N_drewN | apply Kd.N_drew)); exact HO156.out) (Kd.R_base ho0) hb); have n3_ := Aside0.mk (Kd.R_lower (Kd.R_new' (Kd.R_newM (M := fun k_ => (w.heap.size ≤ k_)) ho0 (below_size (by repeat (first | (with_reducible first | exact HB.out | apply below_alloc | apply pw_below_drewN | apply below_drew1) | exact HB.out))) (fun k_ h_ => h_)) (Kd.R_lt (by (with_reducible repeat (first | apply Kd.R_alloc | apply Kd.R_drewN | apply Kd.R_drew)); exact HO_4.out))) (below_size (by repeat (first | (with_reducible first | exact HB.out | apply below_alloc | apply pw_below_drewN | apply below_drew1) | exact HB.out)))); have n4_ := Aside0.mk (below_step (by repeat (first | (with_reducible first | exact HB.out | apply below_alloc | apply pw_below_drewN | apply below_drew1) | exact HB.out)) hb); clear HO_0; clear HO_4; clear HO156; clear HB; have HO_0 := n0_; have HO_4 := n1_; have HO156 := n2_; have HO160 := n3_; have HB := n4_; clear n0_ n1_ n2_ n3_ n4_; (try clear hb); (try clear hb2); (try clear hk); (try clear hi); (try clear ho0)))
                  repeat (go_quiet (first | ((with_reducible refine gate_dst (N := 41) rfl ?_); (try (refine gate_guard (by rfl) ?_; dsimp only)); refine Kd.N_lit (Kd.slice 9 Kd.string) _ 34 ?hg (N' := 41) ?hd (xs := ([] : List (List ByteArray))) (inner := []) (ok := (fun k_ => (P0_ k_ ∨ w.heap.size ≤ k_) ∧ some k_ ≠ (.slice Ao18 t140.length co18 : Value).ownBlock ∧ some k_ ≠ (u6 : Value).ownBlock)) (okp := (fun k_ => (P0_ k_ ∨ w.heap.size ≤ k_) ∧ some k_ ≠ (.slice Ao18 t140.length co18 : Value).ownBlock ∧ some k_ ≠ (u6 : Value).ownBlock)) ?hr ?hp (fun _ hk => hk) ((show ∀ k_, wr.heap.size ≤ k_ → (fun k_ => (P0_ k_ ∨ w.heap.size ≤ k_) ∧ some k_ ≠ (.slice Ao18 t140.length co18 : Value).ownBlock ∧ some k_ ≠ (u6 : Value).ownBlock) k_ from fun k_ hk => ⟨(.inr (Nat.le_trans (below_size (by repeat (first | (with_reducible first | exact HB.out | apply below_alloc | apply pw_below_drewN | apply below_drew1) | exact HB.out))) hk)), Kd.fresh' (Kd.R_lt (by (with_reducible repeat (first | apply Kd.R_alloc | apply Kd.R_drewN | apply Kd.R_drew)); exact HO_4.out)) k_ hk, Kd.fresh' (Kd.R_lt (by (with_reducible repeat (first | apply Kd.R_alloc | apply Kd.R_drewN | apply Kd.R_drew)); exact HO_6.out)) k_ hk⟩) _ (Nat.le_refl _)) (Below.refl _ _) (Nat.le_refl _) (by simp) ?_; (case hd => rfl); (case hg => rfl); (case hr => first | (go_simp; done) | (go_simp; rfl)); (case hp => exact (Reps.none _ _)); intro v149 w19 ho20 hb hg_ hnew_; clear hg_ hnew_; (first | rw [← Ny148.out] at ho20 | (simp only [Int.reduceToNat] at ho20; rw [← Ny148.out] at ho20)); have n0_ := Aside0.mk (Kd.V_elder' (by (with_reducible repeat (first | apply Kd.V_alloc | apply Kd.V_drewN | apply Kd.V_drew)); exact HO_0.out) (Kd.N_base ho20) hb); have n1_ := Aside0.mk (Kd.R_below (by (with_reducible repeat (first | apply Kd.R_alloc | apply Kd.R_drewN | apply Kd.R_drew)); exact HO_4.out) hb); have n2_ := Aside0.mk (Kd.R_below (by (with_reducible repeat (first | apply Kd.R_alloc | apply Kd.R_drewN | apply Kd.R_drew)); exact HO_6.out) hb); have n3_ := Aside0.mk (Kd.N_lower ho20 (below_size (by repeat (first | (with_reducible first | exact HB.out | apply below_alloc | apply pw_below_drewN | apply below_drew1) | exact HB.out)))); have n4_ := Aside0.mk (below_step (by repeat (first | (with_reducible first | exact HB.out | apply below_alloc | apply pw_below_drewN | apply below_drew1) | exact HB.out)) hb); clear HO_0; clear HO_4; clear HO_6; clear HB; have HO_0 := n0_; have HO_4 := n1_; have HO_6 := n2_; have HO150 := n3_; have HB := n4_; clear n0_ n1_ n2_ n3_ n4_; clear hb ho20) | ((with_reducible refine gate_builtin (b := .append) (xs := #[.tmp 41, .tmp 42]) rfl ?_); (try (refine gate_guard (by rfl) ?_; dsimp only)); at_builtin; refine Kd.N_append_rows (Kd.slice 9 Kd.string) (w0 := w) w.heap.size rfl (.tmp 41) (.tmp 42) 22 34 (.slice none 0 0) 24 rfl Try.underlying22 info34 rfl (by decide) (by omega) v149 y148 l0 _ _ _ (fun k_ => (P0_ k_ ∨ w.heap.size ≤ k_) ∧ some k_ ≠ (.slice Ao18 t140.length co18 : Value).ownBlock ∧ some k_ ≠ (u6 : Value).ownBlock) (fun k_ => ((fun k_ => (P0_ k_ ∨ w.heap.size ≤ k_) ∧ some k_ ≠ (.slice Ao18 t140.length co18 : Value).ownBlock ∧ some k_ ≠ (u6 : Value).ownBlock)) k_ ∧ some k_ ≠ (v149 : Value).ownBlock) rfl rfl ?aO ?aR (fun _ hk => hk) ?aF ?aB ?aS ?aL ?_; (case aR => exact (by skip; exact Kd.V_F (Kd.V_mono (ok' := (fun k_ => ((fun k_ => (P0_ k_ ∨ w.heap.size ≤ k_) ∧ some k_ ≠ (.slice Ao18 t140.length co18 : Value).ownBlock ∧ some k_ ≠ (u6 : Value).ownBlock)) k_ ∧ some k_ ≠ (v149 : Value).ownBlock)) (HO_0.out) (fun k_ hk => ⟨⟨hk.1.1, ⟨hk.1.2.1, hk.1.2.2⟩⟩, hk.2⟩)))); (case aB => exact (by repeat (first | (with_reducible first | exact HB.out | apply below_alloc | apply pw_below_drewN | apply below_drew1) | exact HB.out))); (case aF => exact (fun k_ hk => ⟨(.inr (Nat.le_trans (below_size (by repeat (first | (with_reducible first | exact HB.out | apply below_alloc | apply pw_below_drewN | apply below_drew1) | exact HB.out))) hk)), Kd.fresh' (Kd.R_lt (by (with_reducible repeat (first | apply Kd.R_alloc | apply Kd.R_drewN | apply Kd.R_drew)); exact HO_4.out)) k_ hk, Kd.fresh' (Kd.R_lt (by (with_reducible repeat (first | apply Kd.R_alloc | apply Kd.R_drewN | apply Kd.R_drew)); exact HO_6.out)) k_ hk⟩)); (case aO => exact (by (with_reducible repeat (first | apply Kd.N_alloc | apply Kd.N_drewN | apply Kd.N_drew)); exact HO150.out)); (case aS => exact (below_size (by repeat (first | (with_reducible first | exact HB.out | apply below_alloc | apply pw_below_drewN | apply below_drew1) | exact HB.out)))); (case aL => have := LMc15.out; omega); intro v152 w21 ho hb hg hat; rw [← Ny151.out] at ho; have n0_ := Aside0.mk (Kd.V_afterv (ok := (fun k_ => (P0_ k_ ∨ w.heap.size ≤ k_) ∧ some k_ ≠ (.slice Ao18 t140.length co18 : Value).ownBlock ∧ some k_ ≠ (u6 : Value).ownBlock)) (by (with_reducible repeat (first | apply Kd.V_alloc | apply Kd.V_drewN | apply Kd.V_drew)); exact HO_0.out) hg hat); have n1_ := Aside0.mk (Kd.R_over' (by (with_reducible repeat (first | apply Kd.R_alloc | apply Kd.R_drewN | apply Kd.R_drew)); exact HO_4.out) (Kd.N_typed (by (with_reducible repeat (first | apply Kd.N_alloc | apply Kd.N_drewN | apply Kd.N_drew)); exact HO150.out)) (by decide) hg); have n2_ := Aside0.mk (Kd.R_over' (by (with_reducible repeat (first | apply Kd.R_alloc | apply Kd.R_drewN | apply Kd.R_drew)); exact HO_6.out) (Kd.N_typed (by (with_reducible repeat (first | apply Kd.N_alloc | apply Kd.N_drewN | apply Kd.N_drew)); exact HO150.out)) (by decide) hg); have n3_ := Aside0.mk (hb); have n4_ := Aside0.mk (ho); clear HO_0; clear HO_4; clear HO_6; clear HB; clear HO150; have HO_0 := n0_; have HO_4 := n1_; have HO_6 := n2_; have HB := n3_; have HO153 := n4_; clear n0_ n1_ n2_ n3_ n4_; clear ho hb hg hat; obtain ⟨Ao23, co23, eo23⟩ := Kd.R_slice HO_6.out; subst eo23) | ((with_reducible refine gate_builtin (b := .append) (xs := #[.tmp 43, .tmp 45]) rfl ?_); (try (refine gate_guard (by rfl) ?_; dsimp only)); at_builtin; refine Kd.N_append (Kd.slice 9 Kd.string) (w0 := w) w.heap.size rfl (.tmp 43) (.tmp 45) 22 34 (.slice none 0 0) 24 rfl Try.underlying22 info34 rfl (by decide) (by omega) v152 y151 x6_2 [.slice Ao23 x6_2.length co23] (fun k_ => (P0_ k_ ∨ w.heap.size ≤ k_) ∧ some k_ ≠ (.slice Ao18 t140.length co18 : Value).ownBlock) (fun k_ => ((fun k_ => (P0_ k_ ∨ w.heap.size ≤ k_) ∧ some k_ ≠ (.slice Ao18 t140.length co18 : Value).ownBlock)) k_ ∧ some k_ ≠ (v152 : Value).ownBlock) rfl rfl ?aP (fun _ hk => hk) ?aF ?aO ?aB ?aS ?aL ?_; (case aP => exact (Kd.FK_slice_mk (Kd.R_reads' (Kd.R_mono (ok' := (fun k_ => ((fun k_ => (P0_ k_ ∨ w.heap.size ≤ k_) ∧ some k_ ≠ (.slice Ao18 t140.length co18 : Value).ownBlock)) k_ ∧ some k_ ≠ (v152 : Value).ownBlock)) (Kd.R_apart' (Kd.R_apart' (HO_6.out) (Kd.R_typed HO_4.out) (by decide)) (Kd.N_typed HO153.out) (by decide)) (fun k_ hk => ⟨⟨(.inr (hk.1.1)), hk.1.2⟩, hk.2⟩))).2.1 (Kd.R_F (Kd.R_mono (ok' := (fun k_ => ((fun k_ => (P0_ k_ ∨ w.heap.size ≤ k_) ∧ some k_ ≠ (.slice Ao18 t140.length co18 : Value).ownBlock)) k_ ∧ some k_ ≠ (v152 : Value).ownBlock)) (Kd.R_apart' (Kd.R_apart' (HO_6.out) (Kd.R_typed HO_4.out) (by decide)) (Kd.N_typed HO153.out) (by decide)) (fun k_ hk => ⟨⟨(.inr (hk.1.1)), hk.1.2⟩, hk.2⟩))))); (case aB => exact (by repeat (first | (with_reducible first | exact HB.out | apply below_alloc | apply pw_below_drewN | apply below_drew1) | exact HB.out))); (case aF => exact (fun k_ hk => ⟨(.inr (Nat.le_trans (below_size (by repeat (first | (with_reducible first | exact HB.out | apply below_alloc | apply pw_below_drewN | apply below_drew1) | exact HB.out))) hk)), Kd.fresh' (Kd.R_lt (by (with_reducible repeat (first | apply Kd.R_alloc | apply Kd.R_drewN | apply Kd.R_drew)); exact HO_4.out)) k_ hk⟩)); (case aO => exact (by (with_reducible repeat (first | apply Kd.N_alloc | apply Kd.N_drewN | apply Kd.N_drew)); exact Kd.N_mono HO153.out (fun _ hk => ⟨hk.1, hk.2.1⟩))); (case aS => exact (below_size (by repeat (first | (with_reducible first | exact HB.out | apply below_alloc | apply pw_below_drewN | apply below_drew1) | exact HB.out)))); (case aL => have := LMc16.out; omega); intro v155 w22 ho hb hg hat; rw [← Ny154.out] at ho; have n0_ := Aside0.mk (Kd.V_afterv (ok := (fun k_ => (P0_ k_ ∨ w.heap.size ≤ k_) ∧ some k_ ≠ (.slice Ao18 t140.length co18 : Value).ownBlock ∧ some k_ ≠ (.slice Ao23 x6_2.length co23 : Value).ownBlock)) (by (with_reducible repeat (first | apply Kd.V_alloc | apply Kd.V_drewN | apply Kd.V_drew)); exact HO_0.out) hg hat); have n1_ := Aside0.mk (Kd.R_over' (by (with_reducible repeat (first | apply Kd.R_alloc | apply Kd.R_drewN | apply Kd.R_drew)); exact HO_4.out) (Kd.N_typed (by (with_reducible repeat (first | apply Kd.N_alloc | apply Kd.N_drewN | apply Kd.N_drew)); exact HO153.out)) (by decide) hg); have n2_ := Aside0.mk (hb); have n3_ := Aside0.mk (ho); clear HO_0; clear HO_4; clear HB; clear HO153; clear HO_6; have HO_0 := n0_; have HO_4 := n1_; have HB := n2_; have HO156 := n3_; clear n0_ n1_ n2_ n3_; clear ho hb hg hat; obtain ⟨Ao24, co24, eo24⟩ := Kd.N_slice HO156.out; subst eo24) | (go_at_call 17; (with_reducible refine (gap_Coalesce.calls _ _ y154 t157 t158 _ ?side1 ?side2 A17.out).mono ?_); (case side1 => repeat (first | exact (Kd.N_reads' HO156.out).2.2 | (with_reducible refine Kd.C_alloc ?_ _) | (with_reducible refine Kd.C_drewN ?_ _) | (with_reducible refine Kd.C_drew ?_))); (case side2 => exact (Kd.N_reads' HO156.out).2.1); rintro e w25 ⟨v159, rfl, ho0, hb⟩; have n0_ := Aside0.mk (Kd.V_elder' (by (with_reducible repeat (first | apply Kd.V_alloc | apply Kd.V_drewN | apply Kd.V_drew)); exact HO_0.out) (Kd.R_base ho0) hb); have n1_ := Aside0.mk (Kd.R_elder' (by (with_reducible repeat (first | apply Kd.R_alloc | apply Kd.R_drewN | apply Kd.R_drew)); exact HO_4.out) (Kd.R_base ho0) hb); have n2_ := Aside0.mk (Kd.N_elder' (by (with_reducible repeat (first | apply Kd.N_alloc | apply Kd.N_drewN | apply Kd.N_drew)); exact HO156.out) (Kd.R_base ho0) hb); have n3_ := Aside0.mk (Kd.R_lower (Kd.R_new' (Kd.R_newM (M := fun k_ => (w.heap.size ≤ k_)) ho0 (below_size (by repeat (first | (with_reducible first | exact HB.out | apply below_alloc | apply pw_below_drewN | apply below_drew1) | exact HB.out))) (fun k_ h_ => h_)) (Kd.R_lt (by (with_reducible repeat (first | apply Kd.R_alloc | apply Kd.R_drewN | apply Kd.R_drew)); exact HO_4.out))) (below_size (by repeat (first | (with_reducible first | exact HB.out | apply below_alloc | apply pw_below_drewN | apply below_drew1) | exact HB.out)))); have n4_ := Aside0.mk (below_step (by repeat (first | (with_reducible first | exact HB.out | apply below_alloc | apply pw_below_drewN | apply below_drew1) | exact HB.out)) hb); clear HO_0; clear HO_4; clear HO156; clear HB; have HO_0 := n0_; have HO_4 := n1_; have HO156 := n2_; have HO160 := n3_; have HB := n4_; clear n0_ n1_ n2_ n3_ n4_; (try clear hb); (try clear hb2); (try clear hk); (try clear hi); (try clear ho0))); try go_wp2_with (first | ((with_reducible refine gate_dst (N := 41) rfl ?_); (try (refine gate_guard (by rfl) ?_; dsimp only)); refine Kd.N_lit (Kd.slice 9 Kd.string) _ 34 ?hg (N' := 41) ?hd (xs := ([] : List (List ByteArray))) (inner := []) (ok := (fun k_ => (P0_ k_ ∨ w.heap.size ≤ k_) ∧ some k_ ≠ (.slice Ao18 t140.length co18 : Value).ownBlock ∧ some k_ ≠ (u6 : Value).ownBlock)) (okp := (fun k_ => (P0_ k_ ∨ w.heap.size ≤ k_) ∧ some k_ ≠ (.slice Ao18 t140.length co18 : Value).ownBlock ∧ some k_ ≠ (u6 : Value).ownBlock)) ?hr ?hp (fun _ hk => hk) ((show ∀ k_, wr.heap.size ≤ k_ → (fun k_ => (P0_ k_ ∨ w.heap.size ≤ k_) ∧ some k_ ≠ (.slice Ao18 t140.length co18 : Value).ownBlock ∧ some k_ ≠ (u6 : Value).ownBlock) k_ from fun k_ hk => ⟨(.inr (Nat.le_trans (below_size (by repeat (first | (with_reducible first | exact HB.out | apply below_alloc | apply pw_below_drewN | apply below_drew1) | exact HB.out))) hk)), Kd.fresh' (Kd.R_lt (by (with_reducible repeat (first | apply Kd.R_alloc | apply Kd.R_drewN | apply Kd.R_drew)); exact HO_4.out)) k_ hk, Kd.fresh' (Kd.R_lt (by (with_reducible repeat (first | apply Kd.R_alloc | apply Kd.R_drewN | apply Kd.R_drew)); exact HO_6.out)) k_ hk⟩) _ (Nat.le_refl _)) (Below.refl _ _) (Nat.le_refl _) (by simp) ?_; (case hd => rfl); (case hg => rfl); (case hr => first | (go_simp; done) | (go_simp; rfl)); (case hp => exact (Reps.none _ _)); intro v149 w19 ho20 hb hg_ hnew_; clear hg_ hnew_; (first | rw [← Ny148.out] at ho20 | (simp only [Int.reduceToNat] at ho20; rw [← Ny148.out] at ho20)); have n0_ := Aside0.mk (Kd.V_elder' (by (with_reducible repeat (first | apply Kd.V_alloc | apply Kd.V_drewN | apply Kd.V_drew)); exact HO_0.out) (Kd.N_base ho20) hb); have n1_ := Aside0.mk (Kd.R_below (by (with_reducible repeat (first | apply Kd.R_alloc | apply Kd.R_drewN | apply Kd.R_drew)); exact HO_4.out) hb); have n2_ := Aside0.mk (Kd.R_below (by (with_reducible repeat (first | apply Kd.R_alloc | apply Kd.R_drewN | apply Kd.R_drew)); exact HO_6.out) hb); have n3_ := Aside0.mk (Kd.N_lower ho20 (below_size (by repeat (first | (with_reducible first | exact HB.out | apply below_alloc | apply pw_below_drewN | apply below_drew1) | exact HB.out)))); have n4_ := Aside0.mk (below_step (by repeat (first | (with_reducible first | exact HB.out | apply below_alloc | apply pw_below_drewN | apply below_drew1) | exact HB.out)) hb); clear HO_0; clear HO_4; clear HO_6; clear HB; have HO_0 := n0_; have HO_4 := n1_; have HO_6 := n2_; have HO150 := n3_; have HB := n4_; clear n0_ n1_ n2_ n3_ n4_; clear hb ho20) | ((with_reducible refine gate_builtin (b := .append) (xs := #[.tmp 41, .tmp 42]) rfl ?_); (try (refine gate_guard (by rfl) ?_; dsimp only)); at_builtin; refine Kd.N_append_rows (Kd.slice 9 Kd.string) (w0 := w) w.heap.size rfl (.tmp 41) (.tmp 42) 22 34 (.slice none 0 0) 24 rfl Try.underlying22 info34 rfl (by decide) (by omega) v149 y148 l0 _ _ _ (fun k_ => (P0_ k_ ∨ w.heap.size ≤ k_) ∧ some k_ ≠ (.slice Ao18 t140.length co18 : Value).ownBlock ∧ some k_ ≠ (u6 : Value).ownBlock) (fun k_ => ((fun k_ => (P0_ k_ ∨ w.heap.size ≤ k_) ∧ some k_ ≠ (.slice Ao18 t140.length co18 : Value).ownBlock ∧ some k_ ≠ (u6 : Value).ownBlock)) k_ ∧ some k_ ≠ (v149 : Value).ownBlock) rfl rfl ?aO ?aR (fun _ hk => hk) ?aF ?aB ?aS ?aL ?_; (case aR => exact (by skip; exact Kd.V_F (Kd.V_mono (ok' := (fun k_ => ((fun k_ => (P0_ k_ ∨ w.heap.size ≤ k_) ∧ some k_ ≠ (.slice Ao18 t140.length co18 : Value).ownBlock ∧ some k_ ≠ (u6 : Value).ownBlock)) k_ ∧ some k_ ≠ (v149 : Value).ownBlock)) (HO_0.out) (fun k_ hk => ⟨⟨hk.1.1, ⟨hk.1.2.1, hk.1.2.2⟩⟩, hk.2⟩)))); (case aB => exact (by repeat (first | (with_reducible first | exact HB.out | apply below_alloc | apply pw_below_drewN | apply below_drew1) | exact HB.out))); (case aF => exact (fun k_ hk => ⟨(.inr (Nat.le_trans (below_size (by repeat (first | (with_reducible first | exact HB.out | apply below_alloc | apply pw_below_drewN | apply below_drew1) | exact HB.out))) hk)), Kd.fresh' (Kd.R_lt (by (with_reducible repeat (first | apply Kd.R_alloc | apply Kd.R_drewN | apply Kd.R_drew)); exact HO_4.out)) k_ hk, Kd.fresh' (Kd.R_lt (by (with_reducible repeat (first | apply Kd.R_alloc | apply Kd.R_drewN | apply Kd.R_drew)); exact HO_6.out)) k_ hk⟩)); (case aO => exact (by (with_reducible repeat (first | apply Kd.N_alloc | apply Kd.N_drewN | apply Kd.N_drew)); exact HO150.out)); (case aS => exact (below_size (by repeat (first | (with_reducible first | exact HB.out | apply below_alloc | apply pw_below_drewN | apply below_drew1) | exact HB.out)))); (case aL => have := LMc15.out; omega); intro v152 w21 ho hb hg hat; rw [← Ny151.out] at ho; have n0_ := Aside0.mk (Kd.V_afterv (ok := (fun k_ => (P0_ k_ ∨ w.heap.size ≤ k_) ∧ some k_ ≠ (.slice Ao18 t140.length co18 : Value).ownBlock ∧ some k_ ≠ (u6 : Value).ownBlock)) (by (with_reducible repeat (first | apply Kd.V_alloc | apply Kd.V_drewN | apply Kd.V_drew)); exact HO_0.out) hg hat); have n1_ := Aside0.mk (Kd.R_over' (by (with_reducible repeat (first | apply Kd.R_alloc | apply Kd.R_drewN | apply Kd.R_drew)); exact HO_4.out) (Kd.N_typed (by (with_reducible repeat (first | apply Kd.N_alloc | apply Kd.N_drewN | apply Kd.N_drew)); exact HO150.out)) (by decide) hg); have n2_ := Aside0.mk (Kd.R_over' (by (with_reducible repeat (first | apply Kd.R_alloc | apply Kd.R_drewN | apply Kd.R_drew)); exact HO_6.out) (Kd.N_typed (by (with_reducible repeat (first | apply Kd.N_alloc | apply Kd.N_drewN | apply Kd.N_drew)); exact HO150.out)) (by decide) hg); have n3_ := Aside0.mk (hb); have n4_ := Aside0.mk (ho); clear HO_0; clear HO_4; clear HO_6; clear HB; clear HO150; have HO_0 := n0_; have HO_4 := n1_; have HO_6 := n2_; have HB := n3_; have HO153 := n4_; clear n0_ n1_ n2_ n3_ n4_; clear ho hb hg hat; obtain ⟨Ao23, co23, eo23⟩ := Kd.R_slice HO_6.out; subst eo23) | ((with_reducible refine gate_builtin (b := .append) (xs := #[.tmp 43, .tmp 45]) rfl ?_); (try (refine gate_guard (by rfl) ?_; dsimp only)); at_builtin; refine Kd.N_append (Kd.slice 9 Kd.string) (w0 := w) w.heap.size rfl (.tmp 43) (.tmp 45) 22 34 (.slice none 0 0) 24 rfl Try.underlying22 info34 rfl (by decide) (by omega) v152 y151 x6_2 [.slice Ao23 x6_2.length co23] (fun k_ => (P0_ k_ ∨ w.heap.size ≤ k_) ∧ some k_ ≠ (.slice Ao18 t140.length co18 : Value).ownBlock) (fun k_ => ((fun k_ => (P0_ k_ ∨ w.heap.size ≤ k_) ∧ some k_ ≠ (.slice Ao18 t140.length co18 : Value).ownBlock)) k_ ∧ some k_ ≠ (v152 : Value).ownBlock) rfl rfl ?aP (fun _ hk => hk) ?aF ?aO ?aB ?aS ?aL ?_; (case aP => exact (Kd.FK_slice_mk (Kd.R_reads' (Kd.R_mono (ok' := (fun k_ => ((fun k_ => (P0_ k_ ∨ w.heap.size ≤ k_) ∧ some k_ ≠ (.slice Ao18 t140.length co18 : Value).ownBlock)) k_ ∧ some k_ ≠ (v152 : Value).ownBlock)) (Kd.R_apart' (Kd.R_apart' (HO_6.out) (Kd.R_typed HO_4.out) (by decide)) (Kd.N_typed HO153.out) (by decide)) (fun k_ hk => ⟨⟨(.inr (hk.1.1)), hk.1.2⟩, hk.2⟩))).2.1 (Kd.R_F (Kd.R_mono (ok' := (fun k_ => ((fun k_ => (P0_ k_ ∨ w.heap.size ≤ k_) ∧ some k_ ≠ (.slice Ao18 t140.length co18 : Value).ownBlock)) k_ ∧ some k_ ≠ (v152 : Value).ownBlock)) (Kd.R_apart' (Kd.R_apart' (HO_6.out) (Kd.R_typed HO_4.out) (by decide)) (Kd.N_typed HO153.out) (by decide)) (fun k_ hk => ⟨⟨(.inr (hk.1.1)), hk.1.2⟩, hk.2⟩))))); (case aB => exact (by repeat (first | (with_reducible first | exact HB.out | apply below_alloc | apply pw_below_drewN | apply below_drew1) | exact HB.out))); (case aF => exact (fun k_ hk => ⟨(.inr (Nat.le_trans (below_size (by repeat (first | (with_reducible first | exact HB.out | apply below_alloc | apply pw_below_drewN | apply below_drew1) | exact HB.out))) hk)), Kd.fresh' (Kd.R_lt (by (with_reducible repeat (first | apply Kd.R_alloc | apply Kd.R_drewN | apply Kd.R_drew)); exact HO_4.out)) k_ hk⟩)); (case aO => exact (by (with_reducible repeat (first | apply Kd.N_alloc | apply Kd.N_drewN | apply Kd.N_drew)); exact Kd.N_mono HO153.out (fun _ hk => ⟨hk.1, hk.2.1⟩))); (case aS => exact (below_size (by repeat (first | (with_reducible first | exact HB.out | apply below_alloc | apply pw_below_drewN | apply below_drew1) | exact HB.out)))); (case aL => have := LMc16.out; omega); intro v155 w22 ho hb hg hat; rw [← Ny154.out] at ho; have n0_ := Aside0.mk (Kd.V_afterv (ok := (fun k_ => (P0_ k_ ∨ w.heap.size ≤ k_) ∧ some k_ ≠ (.slice Ao18 t140.length co18 : Value).ownBlock ∧ some k_ ≠ (.slice Ao23 x6_2.length co23 : Value).ownBlock)) (by (with_reducible repeat (first | apply Kd.V_alloc | apply Kd.V_drewN | apply Kd.V_drew)); exact HO_0.out) hg hat); have n1_ := Aside0.mk (Kd.R_over' (by (with_reducible repeat (first | apply Kd.R_alloc | apply Kd.R_drewN | apply Kd.R_drew)); exact HO_4.out) (Kd.N_typed (by (with_reducible repeat (first | apply Kd.N_alloc | apply Kd.N_drewN | apply Kd.N_drew)); exact HO153.out)) (by decide) hg); have n2_ := Aside0.mk (hb); have n3_ := Aside0.mk (ho); clear HO_0; clear HO_4; clear HB; clear HO153; clear HO_6; have HO_0 := n0_; have HO_4 := n1_; have HB := n2_; have HO156 := n3_; clear n0_ n1_ n2_ n3_; clear ho hb hg hat; obtain ⟨Ao24, co24, eo24⟩ := Kd.N_slice HO156.out; subst eo24) | (go_at_call 17; (with_reducible refine (gap_Coalesce.calls _ _ y154 t157 t158 _ ?side1 ?side2 A17.out).mono ?_); (case side1 => repeat (first | exact (Kd.N_reads' HO156.out).2.2 | (with_reducible refine Kd.C_alloc ?_ _) | (with_reducible refine Kd.C_drewN ?_ _) | (with_reducible refine Kd.C_drew ?_))); (case side2 => exact (Kd.N_reads' HO156.out).2.1); rintro e w25 ⟨v159, rfl, ho0, hb⟩; have n0_ := Aside0.mk (Kd.V_elder' (by (with_reducible repeat (first | apply Kd.V_alloc | apply Kd.V_drewN | apply Kd.V_drew)); exact HO_0.out) (Kd.R_base ho0) hb); have n1_ := Aside0.mk (Kd.R_elder' (by (with_reducible repeat (first | apply Kd.R_alloc | apply Kd.R_drewN | apply Kd.R_drew)); exact HO_4.out) (Kd.R_base ho0) hb); have n2_ := Aside0.mk (Kd.N_elder' (by (with_reducible repeat (first | apply Kd.N_alloc | apply Kd.N_drewN | apply Kd.N_drew)); exact HO156.out) (Kd.R_base ho0) hb); have n3_ := Aside0.mk (Kd.R_lower (Kd.R_new' (Kd.R_newM (M := fun k_ => (w.heap.size ≤ k_)) ho0 (below_size (by repeat (first | (with_reducible first | exact HB.out | apply below_alloc | apply pw_below_drewN | apply below_drew1) | exact HB.out))) (fun k_ h_ => h_)) (Kd.R_lt (by (with_reducible repeat (first | apply Kd.R_alloc | apply Kd.R_drewN | apply Kd.R_drew)); exact HO_4.out))) (below_size (by repeat (first | (with_reducible first | exact HB.out | apply below_alloc | apply pw_below_drewN | apply below_drew1) | exact HB.out)))); have n4_ := Aside0.mk (below_step (by repeat (first | (with_reducible first | exact HB.out | apply below_alloc | apply pw_below_drewN | apply below_drew1) | exact HB.out)) hb); clear HO_0; clear HO_4; clear HO156; clear HB; have HO_0 := n0_; have HO_4 := n1_; have HO156 := n2_; have HO160 := n3_; have HB := n4_; clear n0_ n1_ n2_ n3_ n4_; (try clear hb); (try clear hb2); (try clear hk); (try clear hi); (try clear ho0))))
                  go_loopg [10] k2 (fun kq v10 w' => ∃ (x10_3 : Int), v10 = .int .i64 x10_3 ∧ Aside0 (sennitlaw19_GapLast.l1 kq t138 t140 t157 t158 x10_3 = some r) ∧ Aside0 (kq ≤ k2) ∧ Aside0 (Kd.R k37 37 w' w.heap.size (fun k_ => (w.heap.size ≤ k_) ∧ some k_ ≠ (v159 : Value).ownBlock) (.slice Ao18 t140.length co18) t140) ∧ Aside0 (Kd.R k37 37 w' w.heap.size (fun k_ => (w.heap.size ≤ k_) ∧ some k_ ≠ ((.slice Ao18 t140.length co18) : Value).ownBlock) v159 t157) ∧ Aside0 (Below w.heap.size w w'))
                  case atStart => exact ⟨(0), (by first | rfl | (simp; done) | (simp [*]; done)), H', ⟨Nat.le_refl _⟩, ⟨by (with_reducible repeat (first | apply Kd.R_alloc | apply Kd.R_drewN | apply Kd.R_drew)); exact HO_4.out⟩, ⟨by (with_reducible repeat (first | apply Kd.R_alloc | apply Kd.R_drewN | apply Kd.R_drew)); exact Kd.R_mono HO160.out (fun _ hk => ⟨hk.1.1, hk.2⟩)⟩, ⟨by repeat (first | (with_reducible first | exact HB.out | apply below_alloc | apply pw_below_drewN | apply below_drew1) | exact HB.out)⟩⟩
                  case round =>
                    clear H'
                    try clear c1
                    try clear p1
                    try clear q1
                    try clear hx1
                    try clear p2
                    try clear c6
                    try clear p6
                    try clear c7
                    try clear c10
                    try clear c10b0
                    try clear c11
                    try clear c11b0
                    try clear c12
                    try clear p14
                    try clear q14
                    try clear hx14
                    try clear c15
                    try clear c16
                    try clear hx144_0
                    try clear hx144_1
                    try clear p144
                    try clear p2
                    try clear q144
                    obtain ⟨x10_3, rfl, HA, HK3, HO_4, HO_8, HB⟩ := hrel
                    cases gk with
                    | zero => exact absurd HA.out (by simp [sennitlaw19_GapLast.l1])
                    | succ k3 =>
                      have H := HA.out
                      clear HA
                      simp only [sennitlaw19_GapLast.l1] at H
                      have HC26 := Aside0.mk H
                      clear H
                      go_upto_region 12 with (fail)
                      repeat (go_quiet (fail); go_upto_region 12 with (fail))
                      go_cut [59] (fun v59 wc => ∃ (kq : Nat) (x59_25 : Bool), v59 = .bool x59_25 ∧ Aside0 (sennitlaw19_GapLast.j3 kq t138 t140 t157 t158 x10_3 x59_25 = some r) ∧ Aside0 (kq ≤ k3) ∧ Aside0 (Kd.R k37 37 wc w.heap.size (fun k_ => (w.heap.size ≤ k_) ∧ some k_ ≠ (v159 : Value).ownBlock) (.slice Ao18 t140.length co18) t140) ∧ Aside0 (Kd.R k37 37 wc w.heap.size (fun k_ => (w.heap.size ≤ k_) ∧ some k_ ≠ ((.slice Ao18 t140.length co18) : Value).ownBlock) v159 t157) ∧ Aside0 (Below w.heap.size w wc))
                      case first =>
                        have H := HC26.out
                        clear HC26
                        by_cases c27 : x10_3 < (t140.length : Int)
                        · rw [if_pos c27] at H
                          have c27b0 : decide (x10_3 < (t140.length : Int)) = true := decide_eq_true c27
                          clear c27
                          (first | rw [c27b0] | (simp only [i64_w, i32_w]; rw [c27b0]) | skip)
                          have H' := Aside0.mk H
                          clear H
                          obtain ⟨Ao28, co28, eo28⟩ := Kd.R_slice HO_8.out
                          subst eo28
                          go_wp2
                          repeat (go_quiet (fail); try go_wp2)
                          go_meet
                          case rel => exact ⟨_, (decide (x10_3 < (t157.length : Int))), (by first | rfl | (simp; done) | (simp [*]; done)), H', ⟨by have := HJ2.out; have := HK2.out; have := HK3.out; first | omega | exact Nat.le_refl _⟩, ⟨by (with_reducible repeat (first | apply Kd.R_alloc | apply Kd.R_drewN | apply Kd.R_drew)); exact HO_4.out⟩, ⟨by (with_reducible repeat (first | apply Kd.R_alloc | apply Kd.R_drewN | apply Kd.R_drew)); exact HO_8.out⟩, ⟨by repeat (first | (with_reducible first | exact HB.out | apply below_alloc | apply pw_below_drewN | apply below_drew1) | exact HB.out)⟩⟩
                        · rw [if_neg c27] at H
                          have c27b0 : decide (x10_3 < (t140.length : Int)) = false := decide_eq_false c27
                          clear c27
                          (first | rw [c27b0] | (simp only [i64_w, i32_w]; rw [c27b0]) | skip)
                          have H' := Aside0.mk H
                          clear H
                          go_wp2
                          repeat (go_quiet (fail); try go_wp2)
                          go_meet
                          case rel => exact ⟨_, (false), (by first | rfl | (simp; done) | (simp [*]; done)), H', ⟨by have := HJ2.out; have := HK2.out; have := HK3.out; first | omega | exact Nat.le_refl _⟩, ⟨by (with_reducible repeat (first | apply Kd.R_alloc | apply Kd.R_drewN | apply Kd.R_drew)); exact HO_4.out⟩, ⟨by (with_reducible repeat (first | apply Kd.R_alloc | apply Kd.R_drewN | apply Kd.R_drew)); exact HO_8.out⟩, ⟨by repeat (first | (with_reducible first | exact HB.out | apply below_alloc | apply pw_below_drewN | apply below_drew1) | exact HB.out)⟩⟩
                      case rest =>
                        clear HC26
                        try clear c1
                        try clear p1
                        try clear q1
                        try clear hx1
                        try clear c2
                        try clear p2
                        try clear c6
                        try clear p6
                        try clear c7
                        try clear c10
                        try clear c10b0
                        try clear c11
                        try clear c11b0
                        try clear c12
                        try clear p14
                        try clear q14
                        try clear hx14
                        try clear c15
                        try clear c16
                        try clear c27
                        try clear c27b0
                        try clear hx144_0
                        try clear hx144_1
                        try clear p1
                        try clear p14
                        try clear p144
                        try clear p2
                        try clear p6
                        try clear q1
                        try clear q14
                        try clear q144
                        obtain ⟨kq, x59_25, rfl, HA, HJ25, HO_4, HO_8, HB⟩ := hcut
                        cases kq with
                        | zero => exact absurd HA.out (by simp [sennitlaw19_GapLast.j3])
                        | succ kj25 =>
                          have H := HA.out
                          clear HA
                          simp only [sennitlaw19_GapLast.j3] at H
                          by_cases c29 : x59_25 = true
                          · subst c29
                            have H1 : (if 0 ≤ x10_3 then (if x10_3 < (t157.length : Int) then (if x10_3 < (t140.length : Int) then (if ((rd_T37 t140 x10_3).f0).size + 1 ≤ 9223372036854775807 then (if ((rd_T37 t157 x10_3).f0).toList = (((rd_T37 t140 x10_3).f0) ++ (⟨#[45]⟩ : ByteArray)).toList then (if ((rd_T37 t157 x10_3).f1).toList = ((rd_T37 t140 x10_3).f1).toList then (sennitlaw19_GapLast.l1 kj25 t138 t140 t157 t158 (wrap64 (x10_3 + 1))) else (some false)) else (some false)) else (none)) else (none)) else (none)) else (none)) = some r := by rw [if_pos rfl] at H; exact H
                            clear H
                            have H := H1
                            clear H1
                            by_cases c30 : 0 ≤ x10_3
                            · rw [if_pos c30] at H
                              have c30b0 : decide (0 ≤ x10_3) = true := decide_eq_true c30
                              clear c30
                              by_cases c31 : x10_3 < (t157.length : Int)
                              · rw [if_pos c31] at H
                                have c31b0 : decide (x10_3 < (t157.length : Int)) = true := decide_eq_true c31
                                clear c31
                                by_cases c32 : x10_3 < (t140.length : Int)
                                · rw [if_pos c32] at H
                                  have c32b0 : decide (x10_3 < (t140.length : Int)) = true := decide_eq_true c32
                                  clear c32
                                  by_cases c33 : ((rd_T37 t140 x10_3).f0).size + 1 ≤ 9223372036854775807
                                  · rw [if_pos c33] at H
                                    have c33b0 := eq_true c33
                                    have c33b1 : decide (((rd_T37 t140 x10_3).f0).size + 1 ≤ 9223372036854775807) = true := decide_eq_true c33
                                    try have c33b2 : (9223372036854775807 < ((rd_T37 t140 x10_3).f0).size + 1) = False := eq_false (Nat.not_lt.2 c33)
                                    by_cases c34 : ((rd_T37 t157 x10_3).f0).toList = (((rd_T37 t140 x10_3).f0) ++ (⟨#[45]⟩ : ByteArray)).toList
                                    · rw [if_pos c34] at H
                                      have c34b0 : (((rd_T37 t157 x10_3).f0).toList == (((rd_T37 t140 x10_3).f0) ++ (⟨#[45]⟩ : ByteArray)).toList) = true := beq_iff_eq.mpr c34
                                      have c34b1 : (((rd_T37 t157 x10_3).f0).toList != (((rd_T37 t140 x10_3).f0) ++ (⟨#[45]⟩ : ByteArray)).toList) = false := bne_eq_false_iff_eq.mpr c34
                                      clear c34
                                      by_cases c35 : ((rd_T37 t157 x10_3).f1).toList = ((rd_T37 t140 x10_3).f1).toList
                                      · rw [if_pos c35] at H
                                        have c35b0 : (((rd_T37 t157 x10_3).f1).toList == ((rd_T37 t140 x10_3).f1).toList) = true := beq_iff_eq.mpr c35
                                        have c35b1 : (((rd_T37 t157 x10_3).f1).toList != ((rd_T37 t140 x10_3).f1).toList) = false := bne_eq_false_iff_eq.mpr c35
                                        clear c35
                                        have H' := Aside0.mk H
                                        clear H
                                        obtain ⟨Ao36, co36, eo36⟩ := Kd.R_slice HO_8.out
                                        subst eo36
                                        have p161 : 0 ≤ (x10_3 : Int) := of_decide_eq_true (by first | (with_reducible assumption) | assumption)
                                        have q161 : x10_3 < (t157.length : Int) := of_decide_eq_true (by first | (with_reducible assumption) | assumption)
                                        obtain ⟨ad161, e161, hx161_0, hx161_1⟩ := at_T37 (Kd.R_reads' HO_8.out).2.2 x10_3 p161 q161
                                        cases e161
                                        replace p161 := eq_true p161
                                        replace q161 := eq_true q161
                                        have p162 : 0 ≤ (x10_3 : Int) := of_decide_eq_true (by first | (with_reducible assumption) | assumption)
                                        have q162 : x10_3 < (t140.length : Int) := of_decide_eq_true (by first | (with_reducible assumption) | assumption)
                                        obtain ⟨ad162, e162, hx162_0, hx162_1⟩ := at_T37 (Kd.R_reads' HO_4.out).2.2 x10_3 p162 q162
                                        cases e162
                                        replace p162 := eq_true p162
                                        replace q162 := eq_true q162
                                        have p163 : 0 ≤ (x10_3 : Int) := of_decide_eq_true (by first | (with_reducible assumption) | assumption)
                                        have q163 : x10_3 < (t157.length : Int) := of_decide_eq_true (by first | (with_reducible assumption) | assumption)
                                        obtain ⟨ad163, e163, hx163_0, hx163_1⟩ := at_T37 (Kd.R_reads' HO_8.out).2.2 x10_3 p163 q163
                                        obtain rfl : ad161 = ad163 := (by injection e163)
                                        replace p163 := eq_true p163
                                        replace q163 := eq_true q163
                                        have p164 : 0 ≤ (x10_3 : Int) := of_decide_eq_true (by first | (with_reducible assumption) | assumption)
                                        have q164 : x10_3 < (t140.length : Int) := of_decide_eq_true (by first | (with_reducible assumption) | assumption)
                                        obtain ⟨ad164, e164, hx164_0, hx164_1⟩ := at_T37 (Kd.R_reads' HO_4.out).2.2 x10_3 p164 q164
                                        obtain rfl : ad162 = ad164 := (by injection e164)
                                        replace p164 := eq_true p164
                                        replace q164 := eq_true q164
                                        go_wp2
                                        repeat (go_quiet (fail); try go_wp2)
                                        go_roundg kj25
                                        case measure => have := HJ2.out; have := HK2.out; have := HK3.out; have := HJ25.out; omega
                                        case rel => exact ⟨(wrap64 (x10_3 + 1)), (by first | rfl | (simp; done) | (simp [*]; done)), H', ⟨by have := HJ2.out; have := HK2.out; have := HK3.out; have := HJ25.out; omega⟩, ⟨by (with_reducible repeat (first | apply Kd.R_alloc | apply Kd.R_drewN | apply Kd.R_drew)); exact HO_4.out⟩, ⟨by (with_reducible repeat (first | apply Kd.R_alloc | apply Kd.R_drewN | apply Kd.R_drew)); exact HO_8.out⟩, ⟨by repeat (first | (with_reducible first | exact HB.out | apply below_alloc | apply pw_below_drewN | apply below_drew1) | exact HB.out)⟩⟩
                                      · rw [if_neg c35] at H
                                        have c35b0 : (((rd_T37 t157 x10_3).f1).toList == ((rd_T37 t140 x10_3).f1).toList) = false := beq_eq_false_iff_ne.mpr c35
                                        have c35b1 : (((rd_T37 t157 x10_3).f1).toList != ((rd_T37 t140 x10_3).f1).toList) = true := bne_iff_ne.mpr c35
                                        obtain rfl := Option.some.inj H
                                        obtain ⟨Ao37, co37, eo37⟩ := Kd.R_slice HO_8.out
                                        subst eo37
                                        have p161 : 0 ≤ (x10_3 : Int) := of_decide_eq_true (by first | (with_reducible assumption) | assumption)
                                        have q161 : x10_3 < (t157.length : Int) := of_decide_eq_true (by first | (with_reducible assumption) | assumption)
                                        obtain ⟨ad161, e161, hx161_0, hx161_1⟩ := at_T37 (Kd.R_reads' HO_8.out).2.2 x10_3 p161 q161
                                        cases e161
                                        replace p161 := eq_true p161
                                        replace q161 := eq_true q161
                                        have p162 : 0 ≤ (x10_3 : Int) := of_decide_eq_true (by first | (with_reducible assumption) | assumption)
                                        have q162 : x10_3 < (t140.length : Int) := of_decide_eq_true (by first | (with_reducible assumption) | assumption)
                                        obtain ⟨ad162, e162, hx162_0, hx162_1⟩ := at_T37 (Kd.R_reads' HO_4.out).2.2 x10_3 p162 q162
                                        cases e162
                                        replace p162 := eq_true p162
                                        replace q162 := eq_true q162
                                        have p163 : 0 ≤ (x10_3 : Int) := of_decide_eq_true (by first | (with_reducible assumption) | assumption)
                                        have q163 : x10_3 < (t157.length : Int) := of_decide_eq_true (by first | (with_reducible assumption) | assumption)
                                        obtain ⟨ad163, e163, hx163_0, hx163_1⟩ := at_T37 (Kd.R_reads' HO_8.out).2.2 x10_3 p163 q163
                                        obtain rfl : ad161 = ad163 := (by injection e163)
                                        replace p163 := eq_true p163
                                        replace q163 := eq_true q163
                                        have p164 : 0 ≤ (x10_3 : Int) := of_decide_eq_true (by first | (with_reducible assumption) | assumption)
                                        have q164 : x10_3 < (t140.length : Int) := of_decide_eq_true (by first | (with_reducible assumption) | assumption)
                                        obtain ⟨ad164, e164, hx164_0, hx164_1⟩ := at_T37 (Kd.R_reads' HO_4.out).2.2 x10_3 p164 q164
                                        obtain rfl : ad162 = ad164 := (by injection e164)
                                        replace p164 := eq_true p164
                                        replace q164 := eq_true q164
                                        go_wp2
                                        repeat (go_quiet (fail); try go_wp2)
                                        go_ret
                                        exact ⟨by first | rfl | (simp [errW_none, errW_some] <;> rfl) | (simp [*, errW_none, errW_some] <;> rfl), by repeat (first | (with_reducible first | exact HB.out | apply below_alloc | apply pw_below_drewN | apply below_drew1) | exact HB.out)⟩
                                    · rw [if_neg c34] at H
                                      have c34b0 : (((rd_T37 t157 x10_3).f0).toList == (((rd_T37 t140 x10_3).f0) ++ (⟨#[45]⟩ : ByteArray)).toList) = false := beq_eq_false_iff_ne.mpr c34
                                      have c34b1 : (((rd_T37 t157 x10_3).f0).toList != (((rd_T37 t140 x10_3).f0) ++ (⟨#[45]⟩ : ByteArray)).toList) = true := bne_iff_ne.mpr c34
                                      obtain rfl := Option.some.inj H
                                      obtain ⟨Ao38, co38, eo38⟩ := Kd.R_slice HO_8.out
                                      subst eo38
                                      have p161 : 0 ≤ (x10_3 : Int) := of_decide_eq_true (by first | (with_reducible assumption) | assumption)
                                      have q161 : x10_3 < (t157.length : Int) := of_decide_eq_true (by first | (with_reducible assumption) | assumption)
                                      obtain ⟨ad161, e161, hx161_0, hx161_1⟩ := at_T37 (Kd.R_reads' HO_8.out).2.2 x10_3 p161 q161
                                      cases e161
                                      replace p161 := eq_true p161
                                      replace q161 := eq_true q161
                                      have p162 : 0 ≤ (x10_3 : Int) := of_decide_eq_true (by first | (with_reducible assumption) | assumption)
                                      have q162 : x10_3 < (t140.length : Int) := of_decide_eq_true (by first | (with_reducible assumption) | assumption)
                                      obtain ⟨ad162, e162, hx162_0, hx162_1⟩ := at_T37 (Kd.R_reads' HO_4.out).2.2 x10_3 p162 q162
                                      cases e162
                                      replace p162 := eq_true p162
                                      replace q162 := eq_true q162
                                      go_wp2
                                      repeat (go_quiet (fail); try go_wp2)
                                      go_ret
                                      exact ⟨by first | rfl | (simp [errW_none, errW_some] <;> rfl) | (simp [*, errW_none, errW_some] <;> rfl), by repeat (first | (with_reducible first | exact HB.out | apply below_alloc | apply pw_below_drewN | apply below_drew1) | exact HB.out)⟩
                                  · rw [if_neg c33] at H
                                    exact absurd H (by simp)
                                · rw [if_neg c32] at H
                                  exact absurd H (by simp)
                              · rw [if_neg c31] at H
                                exact absurd H (by simp)
                            · rw [if_neg c30] at H
                              exact absurd H (by simp)
                          · replace c29 := Bool.eq_false_iff.mpr c29
                            subst c29
                            have H1 : (if t138 = true then (if t158 = 0 then (some ((t157.length : Int) == (t140.length : Int))) else (some false)) else (some false)) = some r := by rw [if_neg (show ¬ (false = true) by decide)] at H; exact H
                            clear H
                            have H := H1
                            clear H1
                            by_cases c39 : t138 = true
                            · subst c39
                              have H1 : (if t158 = 0 then (some ((t157.length : Int) == (t140.length : Int))) else (some false)) = some r := by rw [if_pos rfl] at H; exact H
                              clear H
                              have H := H1
                              clear H1
                              by_cases c40 : t158 = 0
                              · rw [if_pos c40] at H
                                have c40b0 : (t158 == 0) = true := beq_iff_eq.mpr c40
                                have c40b1 : (t158 != 0) = false := bne_eq_false_iff_eq.mpr c40
                                clear c40
                                obtain rfl := Option.some.inj H
                                obtain ⟨Ao41, co41, eo41⟩ := Kd.R_slice HO_8.out
                                subst eo41
                                go_wp2
                                repeat (go_quiet (fail); try go_wp2)
                                go_ret
                                exact ⟨by first | rfl | (simp [errW_none, errW_some] <;> rfl) | (simp [*, errW_none, errW_some] <;> rfl), by repeat (first | (with_reducible first | exact HB.out | apply below_alloc | apply pw_below_drewN | apply below_drew1) | exact HB.out)⟩
                              · rw [if_neg c40] at H
                                have c40b0 : (t158 == 0) = false := beq_eq_false_iff_ne.mpr c40
                                have c40b1 : (t158 != 0) = true := bne_iff_ne.mpr c40
                                obtain rfl := Option.some.inj H
                                go_wp2
                                repeat (go_quiet (fail); try go_wp2)
                                go_ret
                                exact ⟨by first | rfl | (simp [errW_none, errW_some] <;> rfl) | (simp [*, errW_none, errW_some] <;> rfl), by repeat (first | (with_reducible first | exact HB.out | apply below_alloc | apply pw_below_drewN | apply below_drew1) | exact HB.out)⟩
                            · replace c39 := Bool.eq_false_iff.mpr c39
                              subst c39
                              have H1 : (some false) = some r := by rw [if_neg (show ¬ (false = true) by decide)] at H; exact H
                              clear H
                              have H := H1
                              clear H1
                              obtain rfl := Option.some.inj H
                              go_wp2
                              repeat (go_quiet (fail); try go_wp2)
                              go_ret
                              exact ⟨by first | rfl | (simp [errW_none, errW_some] <;> rfl) | (simp [*, errW_none, errW_some] <;> rfl), by repeat (first | (with_reducible first | exact HB.out | apply below_alloc | apply pw_below_drewN | apply below_drew1) | exact HB.out)⟩
                · rw [if_neg c16] at H
                  exact absurd H (by simp)
              · rw [if_neg c15] at H
                exact absurd H (by simp)

end Go.Proofs.Ytnlekganlliikaa.X
-- part XRef03
namespace Go.Proofs.Ytnlekganlliikaa.X
open Go.RowKit Go.Proofs.YtnlekganlliikaaW.PrintWords Go.Proofs.YtnlekganlliikaaW.PrintLast Go.Proofs.YtnlekganlliikaaW.PrintMore
set_option linter.unusedVariables false
set_option linter.unusedSimpArgs false
theorem rd_of {L : List Int} {i : Nat} {x : Int} (h : L[i]? = some x) : rd L (i : Int) = x := by
  simp [rd, h]

/-- The table, from the place (i, c) on; noughts ahead. -/
def Tab (a b : List Int) (i c : Nat) (T : List Int) : Prop :=
  T.length = (a.length + 1) * (b.length + 1) ∧ ∀ i' j', i' ≤ a.length → j' ≤ b.length → T[i' * (b.length + 1) + j']? = some (if i < i' ∨ i = i' ∧ c ≤ j' then ((lcsL (a.drop i') (b.drop j') : Nat) : Int) else 0)
section
variable {a b T : List Int}
theorem tab_place {n m i j : Nat} (hi : i ≤ n) (hj : j ≤ m) : i * (m + 1) + j < (n + 1) * (m + 1) := place_lt (by omega) (by omega)
theorem tab_ne {m i j i' j' : Nat} (hj : j ≤ m) (hj' : j' ≤ m) (h : i * (m + 1) + j = i' * (m + 1) + j') : i = i' ∧ j = j' := by
  have h1 := place_div (m := m + 1) (i := i) (j := j) (by omega)
  have h2 := place_div (m := m + 1) (i := i') (j := j') (by omega)
  rw [h] at h1
  exact ⟨h1.1.symm.trans h2.1, h1.2.symm.trans h2.2⟩
theorem Tab.start : Tab a b a.length (b.length) (List.replicate ((a.length + 1) * (b.length + 1)) 0) := by
  refine ⟨by simp, fun i' j' hi hj => ?_⟩
  rw [List.getElem?_replicate, if_pos (tab_place hi hj)]
  split
  · rename_i h
    have : a.drop i' = [] ∨ b.drop j' = [] := by
      rcases h with h | ⟨h, h2⟩
      · omega
      · exact .inl (List.drop_eq_nil_of_le (by omega))
    rcases this with h | h
    · rw [h]; simp [lcsL]
    · rw [h]
      cases a.drop i' <;> simp [lcsL]
  · rfl
/-- The row above: its last place is nought already. -/
theorem Tab.up {i : Nat} (h : Tab a b (i + 1) 0 T) : Tab a b i b.length T := by
  refine ⟨h.1, fun i' j' hi hj => ?_⟩
  rw [h.2 i' j' hi hj]
  congr 1
  by_cases e : i' = i
  · subst e
    rw [if_neg (by omega)]
    split
    · rename_i h2
      rw [show b.drop j' = [] from List.drop_of_length_le (by omega), lcsL_nil_right]
      rfl
    · rfl
  · by_cases e2 : i < i'
    · rw [if_pos (show i + 1 < i' ∨ i + 1 = i' ∧ 0 ≤ j' by omega), if_pos (show i < i' ∨ i = i' ∧ b.length ≤ j' by omega)]
    · rw [if_neg (show ¬ (i + 1 < i' ∨ i + 1 = i' ∧ 0 ≤ j') by omega), if_neg (show ¬ (i < i' ∨ i = i' ∧ b.length ≤ j') by omega)]
theorem Tab.first (h : Tab a b a.length b.length T) : Tab a b a.length 0 T := by
  refine ⟨h.1, fun i' j' hi hj => ?_⟩
  rw [h.2 i' j' hi hj]
  congr 1
  by_cases e : i' = a.length
  · subst e
    rw [if_pos (show a.length < a.length ∨ a.length = a.length ∧ 0 ≤ j' by omega), show a.drop a.length = [] from List.drop_of_length_le (by omega), lcsL_nil_left]
    split <;> rfl
  · rw [if_neg (show ¬ (a.length < i' ∨ a.length = i' ∧ b.length ≤ j') by omega), if_neg (show ¬ (a.length < i' ∨ a.length = i' ∧ 0 ≤ j') by omega)]
theorem Tab.put {i c : Nat} (h : Tab a b i (c + 1) T) (hi : i ≤ a.length) (hc : c ≤ b.length) : Tab a b i c (T.set (i * (b.length + 1) + c) ((lcsL (a.drop i) (b.drop c) : Nat) : Int)) := by
  refine ⟨by simpa using h.1, fun i' j' hi' hj' => ?_⟩
  by_cases e : i' = i ∧ j' = c
  · obtain ⟨rfl, rfl⟩ := e
    rw [List.getElem?_set_self (by rw [h.1]; exact tab_place hi hc), if_pos (by omega)]
  · rw [List.getElem?_set_ne (fun h2 => e (by have := tab_ne hc hj' h2; omega)), h.2 i' j' hi' hj']
    congr 1
    by_cases e2 : i < i' ∨ i = i' ∧ c + 1 ≤ j'
    · rw [if_pos e2, if_pos (by omega)]
    · rw [if_neg e2, if_neg (by omega)]
theorem Tab.at_ {i c i' j' : Nat} (h : Tab a b i c T) (hi : i' ≤ a.length) (hj : j' ≤ b.length) (hd : i < i' ∨ i = i' ∧ c ≤ j') : rd T ((i' : Int) * ((b.length : Int) + 1) + (j' : Int)) = ((lcsL (a.drop i') (b.drop j') : Nat) : Int) := by
  have := h.2 i' j' hi hj
  rw [if_pos hd] at this
  have e := rd_of this
  rw [← e]
  congr 1
end
theorem place64 {n m i j : Nat} (hn : n ≤ 100) (hm : m ≤ 100) (hi : i ≤ n) (hj : j ≤ m) : 0 ≤ (i : Int) * ((m : Int) + 1) ∧ (i : Int) * ((m : Int) + 1) + (j : Int) < ((n : Int) + 1) * ((m : Int) + 1) ∧ ((n : Int) + 1) * ((m : Int) + 1) ≤ 10201 := by
  have h1 := tab_place hi hj
  have h2 : (n + 1) * (m + 1) ≤ 101 * 101 := Nat.mul_le_mul (by omega) (by omega)
  have e1 : (i : Int) * ((m : Int) + 1) = ((i * (m + 1) : Nat) : Int) := by simp
  have e2 : ((n : Int) + 1) * ((m : Int) + 1) = (((n + 1) * (m + 1) : Nat) : Int) := by simp
  rw [e1, e2]
  omega

set_option maxHeartbeats 1000000 in
theorem rest_step (a b T : List Int) (w i c X0 X1 : Int) (k : Nat) (hX0 : i * w = X0) (hX1 : (i + 1) * w = X1) (h0 : 0 ≤ X0) (hw : X1 = X0 + w) (hw0 : 0 ≤ w) (hi : 0 ≤ i) (hia : i < a.length) (hc : 0 ≤ c) (hcb : c < b.length) (hcw : c + 1 < w) (hT : X1 + w ≤ T.length) (hT2 : (T.length : Int) ≤ 100000) (hs : (a.length : Int) ≤ 1000)
    (r1 r2 r3 : Int) (e1 : rd T (X1 + c) = r1) (e2 : rd T (X0 + c + 1) = r2) (e3 : rd T (X1 + c + 1) = r3) (h3 : 0 ≤ r3) (h3' : r3 ≤ 1000) :
    sennitref03_rest.l1 (k + 1) a b w T i c = sennitref03_rest.l1 k a b w (T.set (X0 + c).toNat (if rd a i = rd b c then mx (mx r1 r2) (r3 + 1) else mx r1 r2)) i (c - 1) := by
  have a1 : wrap64 (i + 1) = i + 1 := gw (by omega) (by omega)
  have a2 : wrap64 X1 = X1 := gw (by omega) (by omega)
  have a3 : wrap64 (X1 + c) = X1 + c := gw (by omega) (by omega)
  have a4 : wrap64 X0 = X0 := gw (by omega) (by omega)
  have a5 : wrap64 (X0 + c) = X0 + c := gw (by omega) (by omega)
  have a6 : wrap64 (X0 + c + 1) = X0 + c + 1 := gw (by omega) (by omega)
  have a7 : wrap64 (X1 + c + 1) = X1 + c + 1 := gw (by omega) (by omega)
  have a8 : wrap64 (c - 1) = c - 1 := gw (by omega) (by omega)
  have a9 : wrap64 (r3 + 1) = r3 + 1 := gw (by omega) (by omega)
  have b0 : c ≥ 0 := hc
  have b1 : 0 ≤ X1 + c := by omega
  have b2 : X1 + c < T.length := by omega
  have b3 : 0 ≤ X0 + c + 1 := by omega
  have b4 : X0 + c + 1 < T.length := by omega
  have b5 : 0 ≤ X1 + c + 1 := by omega
  have b6 : X1 + c + 1 < T.length := by omega
  have b7 : 0 ≤ X0 + c := by omega
  have b8 : X0 + c < T.length := by omega
  rw [sennitref03_rest.l1, a1, hX1, hX0, a2, a3, a4, a5, a6, a7, a8, e1, e2, e3, a9]
  rw [if_pos b0, if_pos b1, if_pos b2, if_pos b3, if_pos b4, if_pos hi, if_pos hia, if_pos hc, if_pos hcb]
  by_cases eq : rd a i = rd b c
  · rw [if_pos eq, if_pos b5, if_pos b6, if_pos b7, if_pos b8, if_pos eq]
  · rw [if_neg eq, if_neg eq]
    rw [if_pos b7, if_pos b8]

theorem place_cast (i m j : Nat) : ((i : Int) * ((m : Int) + 1) + (j : Int)).toNat = i * (m + 1) + j := by
  have : (i : Int) * ((m : Int) + 1) = ((i * (m + 1) : Nat) : Int) := by simp
  rw [this]; omega

section
variable {a b : List Int}
theorem rest_l1 (ha : a.length ≤ 100) (hb : b.length ≤ 100) {i : Nat} (hi : i < a.length) : ∀ (c : Nat) (T : List Int), c ≤ b.length → Tab a b i c T →
    ∃ T', Tab a b i 0 T' ∧ ∀ k, sennitref03_rest.l1 (k + c + 1) a b ((b.length : Int) + 1) T (i : Int) ((c : Int) - 1) = sennitref03_rest.l0 k a b ((b.length : Int) + 1) T' ((i : Int) - 1)
  | 0, T, _, hT => ⟨T, hT, fun k => by
      rw [sennitref03_rest.l1, if_neg (by omega), gw (by omega) (by omega)]⟩
  | c + 1, T, hc, hT => by
    obtain ⟨T', h1, h2⟩ := rest_l1 ha hb hi c _ (by omega) (hT.put (by omega) (by omega))
    refine ⟨T', h1, fun k => ?_⟩
    have L : (T.length : Int) = ((a.length : Int) + 1) * ((b.length : Int) + 1) := by rw [hT.1]; simp
    have p1 := place64 ha hb (i := i + 1) (j := b.length) (by omega) (by omega)
    have p4 := place64 ha hb (i := i) (j := c) (by omega) (by omega)
    have r1 := hT.at_ (i' := i + 1) (j' := c) (by omega) (by omega) (by omega)
    have r2 := hT.at_ (i' := i) (j' := c + 1) (by omega) (by omega) (by omega)
    have r3 := hT.at_ (i' := i + 1) (j' := c + 1) (by omega) (by omega) (by omega)
    have x1 : ((i + 1 : Nat) : Int) = (i : Int) + 1 := by omega
    have x2 : ((c + 1 : Nat) : Int) = (c : Int) + 1 := by omega
    have en := place_cast i b.length c
    rw [x1] at p1 r1 r3
    rw [x2, ← Int.add_assoc] at r2 r3
    have hX : ((i : Int) + 1) * ((b.length : Int) + 1) = (i : Int) * ((b.length : Int) + 1) + ((b.length : Int) + 1) := by rw [Int.add_mul, Int.one_mul]
    have xa : a[i]? = some a[i] := List.getElem?_eq_getElem hi
    have xb : b[c]? = some b[c] := List.getElem?_eq_getElem (by omega)
    have q1 := lcsL_le_left (a.drop (i + 1)) (b.drop (c + 1))
    rw [List.length_drop] at q1
    obtain ⟨X0, hX0⟩ : ∃ X0, (i : Int) * ((b.length : Int) + 1) = X0 := ⟨_, rfl⟩
    obtain ⟨X1, hX1⟩ : ∃ X1, ((i : Int) + 1) * ((b.length : Int) + 1) = X1 := ⟨_, rfl⟩
    obtain ⟨LL, hLL⟩ : ∃ LL, ((a.length : Int) + 1) * ((b.length : Int) + 1) = LL := ⟨_, rfl⟩
    rw [hX0] at p4 r2 hX en
    rw [hX1] at p1 r1 r3 hX
    rw [hLL] at p1 p4 L
    have st := rest_step a b T ((b.length : Int) + 1) i c X0 X1 (k + c + 1) hX0 hX1 (by omega) hX (by omega) (by omega) (by omega) (by omega) (by omega) (by omega) (by omega) (by omega) (by omega) _ _ _ r1 r2 r3 (by omega) (by omega)
    rw [show k + (c + 1) + 1 = k + c + 1 + 1 from by omega, show ((c + 1 : Nat) : Int) - 1 = (c : Int) from by omega, st, ← h2 k, en, rd_of xa, rd_of xb]
    congr 2
    have s1 := lcsL_step_left a[i] (a.drop (i + 1)) (b.drop (c + 1))
    have s2 := lcsL_step_right b[c] (a.drop (i + 1)) (b.drop (c + 1))
    rw [← drop_cons' xa] at s1
    rw [← drop_cons' xb] at s2
    by_cases eq : a[i] = b[c]
    · rw [if_pos eq, lcs_eq xa xb eq]
      simp only [mx]
      split <;> split <;> omega
    · rw [if_neg eq, lcs_ne xa xb eq]
      simp only [mx]
      split <;> omega

theorem rest_l0 (ha : a.length ≤ 100) (hb : b.length ≤ 100) : ∀ (r : Nat) (T : List Int), r ≤ a.length → Tab a b r 0 T →
    ∃ T', Tab a b 0 0 T' ∧ ∀ k, r * (b.length + 2) + 1 ≤ k → sennitref03_rest.l0 k a b ((b.length : Int) + 1) T ((r : Int) - 1) = some T'
  | 0, T, _, hT => ⟨T, hT, fun k hk => by
      obtain ⟨k, rfl⟩ : ∃ k', k = k' + 1 := ⟨k - 1, by omega⟩
      rw [sennitref03_rest.l0, if_neg (by omega)]⟩
  | r + 1, T, hr, hT => by
    obtain ⟨T1, h1, h2⟩ := rest_l1 ha hb (i := r) (by omega) b.length T (Nat.le_refl _) hT.up
    obtain ⟨T', h3, h4⟩ := rest_l0 ha hb r T1 (by omega) h1
    refine ⟨T', h3, fun k hk => ?_⟩
    rw [Nat.succ_mul] at hk
    obtain ⟨k, rfl⟩ : ∃ k', k = k' + b.length + 1 + 1 := ⟨k - b.length - 2, by omega⟩
    rw [sennitref03_rest.l0, if_pos (by omega), gw (by omega) (by omega), show ((r + 1 : Nat) : Int) - 1 = (r : Int) from by omega, h2 k]
    exact h4 k (by omega)

theorem rest_gives (ha : a.length ≤ 100) (hb : b.length ≤ 100) : ∃ T, Tab a b 0 0 T ∧ Gives (fun k => sennitref03_rest.f k a b) T := by
  obtain ⟨T, h1, h2⟩ := rest_l0 ha hb a.length _ (Nat.le_refl _) (Tab.start (a := a) (b := b)).first
  refine ⟨T, h1, a.length * (b.length + 2) + 1, fun k hk => ?_⟩
  have p := place64 ha hb (i := 0) (j := 0) (by omega) (by omega)
  have e : (((a.length : Int) + 1) * ((b.length : Int) + 1)).toNat = (a.length + 1) * (b.length + 1) := by
    rw [← Int.natCast_one, ← Int.natCast_add, ← Int.natCast_add, ← Int.natCast_mul, Int.toNat_natCast]
  show sennitref03_rest.f k a b = _
  have w1 : wrap64 ((a.length : Int) + 1) = (a.length : Int) + 1 := gw (by omega) (by omega)
  have w2 : wrap64 ((b.length : Int) + 1) = (b.length : Int) + 1 := gw (by omega) (by omega)
  have w3 : wrap64 ((a.length : Int) - 1) = (a.length : Int) - 1 := gw (by omega) (by omega)
  have hm : (a.length + 1) * (b.length + 1) ≤ 101 * 101 := Nat.mul_le_mul (by omega) (by omega)
  have w4 : wrap64 (((a.length : Int) + 1) * ((b.length : Int) + 1)) = ((a.length : Int) + 1) * ((b.length : Int) + 1) := by
    obtain ⟨LL, hLL⟩ : ∃ LL, ((a.length : Int) + 1) * ((b.length : Int) + 1) = LL := ⟨_, rfl⟩
    rw [hLL] at p ⊢
    exact gw (by omega) (by omega)
  rw [sennitref03_rest.f, w1, w2, w3, w4, e]
  have h0 : 0 ≤ ((a.length : Int) + 1) * ((b.length : Int) + 1) := by
    obtain ⟨LL, hLL⟩ : ∃ LL, ((a.length : Int) + 1) * ((b.length : Int) + 1) = LL := ⟨_, rfl⟩
    rw [hLL] at p ⊢
    omega
  rw [if_pos h0, if_pos (by omega)]
  exact h2 k hk

set_option maxHeartbeats 1000000 in
theorem match_step (a b T : List Int) (w i j X0 X1 : Int) (out : List Int) (k : Nat) (hX0 : i * w = X0) (hX1 : (i + 1) * w = X1) (h0 : 0 ≤ X0) (hw : X1 = X0 + w) (hw0 : 0 ≤ w) (hi : 0 ≤ i) (hia : i < a.length) (hc : 0 ≤ j) (hcb : j < b.length) (hcw : j + 1 < w) (hT : X1 + w ≤ T.length) (hT2 : (T.length : Int) ≤ 100000) (hs : (a.length : Int) ≤ 1000) (ho : out.length < 17592186044416)
    (r1 r2 : Int) (e1 : rd T (X1 + j) = r1) (e2 : rd T (X0 + j + 1) = r2) :
    sennitref03_Match.l1 (k + 1) a b T w out j i (-1) = if rd a i = rd b j then sennitref03_Match.l0 k a b T w (out ++ [j]) (j + 1) (i + 1) else if r1 < r2 then sennitref03_Match.l1 k a b T w out (j + 1) i (-1) else sennitref03_Match.l0 k a b T w (out ++ [-1]) j (i + 1) := by
  have a1 : wrap64 (i + 1) = i + 1 := gw (by omega) (by omega)
  have a2 : wrap64 X1 = X1 := gw (by omega) (by omega)
  have a3 : wrap64 (X1 + j) = X1 + j := gw (by omega) (by omega)
  have a4 : wrap64 X0 = X0 := gw (by omega) (by omega)
  have a5 : wrap64 (X0 + j) = X0 + j := gw (by omega) (by omega)
  have a6 : wrap64 (X0 + j + 1) = X0 + j + 1 := gw (by omega) (by omega)
  have a7 : wrap64 (j + 1) = j + 1 := gw (by omega) (by omega)
  have b1 : 0 ≤ X1 + j := by omega
  have b2 : X1 + j < T.length := by omega
  have b3 : 0 ≤ X0 + j + 1 := by omega
  have b4 : X0 + j + 1 < T.length := by omega
  rw [sennitref03_Match.l1, a1, hX1, hX0, a2, a3, a4, a5, a6, a7, e1, e2]
  rw [if_pos hcb, if_pos hi, if_pos hia, if_pos hc, if_pos b1, if_pos b2, if_pos b3, if_pos b4, if_pos ho]
  simp only [if_pos ho]

theorem match_l (ha : a.length ≤ 100) (hb : b.length ≤ 100) {T : List Int} (hT : Tab a b 0 0 T) : ∀ (m : Nat),
    (∀ (i j : Nat) (out : List Int) (k : Nat), i ≤ a.length → j ≤ b.length → out.length = i → 2 * (a.length - i) + (b.length - j) + 1 ≤ m → m ≤ k → sennitref03_Match.l0 k a b T ((b.length : Int) + 1) out (j : Int) (i : Int) = some (out ++ matchFrom (a.drop i) (b.drop j) j)) ∧
    (∀ (i j : Nat) (out : List Int) (k : Nat), i < a.length → j ≤ b.length → out.length = i → 2 * (a.length - i) + (b.length - j) ≤ m → m ≤ k → sennitref03_Match.l1 k a b T ((b.length : Int) + 1) out (j : Int) (i : Int) (-1) = some (out ++ matchFrom (a.drop i) (b.drop j) j))
  | 0 => ⟨fun i j out k _ _ _ h _ => by omega, fun i j out k _ _ _ h _ => by omega⟩
  | m + 1 => by
    obtain ⟨ih0, ih1⟩ := match_l ha hb hT m
    refine ⟨fun i j out k hi hj ho hm hk => ?_, fun i j out k hi hj ho hm hk => ?_⟩
    · obtain ⟨k, rfl⟩ : ∃ k', k = k' + 1 := ⟨k - 1, by omega⟩
      rw [sennitref03_Match.l0]
      by_cases h : i < a.length
      · rw [if_pos (by omega)]
        exact ih1 i j out k h hj ho (by omega) (by omega)
      · rw [if_neg (by omega), List.drop_of_length_le (by omega), matchFrom_nil, List.append_nil]
    · obtain ⟨k, rfl⟩ : ∃ k', k = k' + 1 := ⟨k - 1, by omega⟩
      have xa : a[i]? = some a[i] := List.getElem?_eq_getElem hi
      have z0 : ((out ++ [(-1 : Int)]) ++ matchFrom (a.drop (i + 1)) (b.drop j) j) = out ++ (-1 :: matchFrom (a.drop (i + 1)) (b.drop j) j) := by simp
      have w1 : wrap64 ((i : Int) + 1) = (i : Int) + 1 := gw (by omega) (by omega)
      have old : sennitref03_Match.l0 k a b T ((b.length : Int) + 1) (out ++ [(-1 : Int)]) (j : Int) ((i : Int) + 1) = some (out ++ (-1 :: matchFrom (a.drop (i + 1)) (b.drop j) j)) := by
        have := ih0 (i + 1) j (out ++ [-1]) k (by omega) hj (by simp [ho]) (by omega) (by omega)
        rw [show ((i + 1 : Nat) : Int) = (i : Int) + 1 from by omega] at this
        rw [this, z0]
      by_cases h : j < b.length
      · have xb : b[j]? = some b[j] := List.getElem?_eq_getElem h
        have p1 := place64 ha hb (i := i + 1) (j := b.length) (by omega) (by omega)
        have p4 := place64 ha hb (i := i) (j := j) (by omega) (by omega)
        have r1 := hT.at_ (i' := i + 1) (j' := j) (by omega) (by omega) (by omega)
        have r2 := hT.at_ (i' := i) (j' := j + 1) (by omega) (by omega) (by omega)
        have L : (T.length : Int) = ((a.length : Int) + 1) * ((b.length : Int) + 1) := by rw [hT.1]; simp
        have x1 : ((i + 1 : Nat) : Int) = (i : Int) + 1 := by omega
        have x2 : ((j + 1 : Nat) : Int) = (j : Int) + 1 := by omega
        rw [x1] at p1 r1
        rw [x2, ← Int.add_assoc] at r2
        have hX : ((i : Int) + 1) * ((b.length : Int) + 1) = (i : Int) * ((b.length : Int) + 1) + ((b.length : Int) + 1) := by rw [Int.add_mul, Int.one_mul]
        obtain ⟨X0, hX0⟩ : ∃ X0, (i : Int) * ((b.length : Int) + 1) = X0 := ⟨_, rfl⟩
        obtain ⟨X1, hX1⟩ : ∃ X1, ((i : Int) + 1) * ((b.length : Int) + 1) = X1 := ⟨_, rfl⟩
        obtain ⟨LL, hLL⟩ : ∃ LL, ((a.length : Int) + 1) * ((b.length : Int) + 1) = LL := ⟨_, rfl⟩
        rw [hX0] at p4 r2 hX
        rw [hX1] at p1 r1 hX
        rw [hLL] at p1 p4 L
        have st := match_step a b T ((b.length : Int) + 1) i j X0 X1 out k hX0 hX1 (by omega) hX (by omega) (by omega) (by omega) (by omega) (by omega) (by omega) (by omega) (by omega) (by omega) (by omega) _ _ r1 r2
        rw [st, rd_of xa, rd_of xb]
        clear st p1 p4 r1 r2 L hX hX0 hX1 hLL
        rw [drop_cons' xa, drop_cons' xb, matchFrom_cons, ← drop_cons' xa, ← drop_cons' xb]
        by_cases eq : a[i] = b[j]
        · rw [if_pos eq, if_pos eq]
          have := ih0 (i + 1) (j + 1) (out ++ [(j : Int)]) k (by omega) (by omega) (by simp [ho]) (by omega) (by omega)
          rw [x1, x2] at this
          rw [this]
          simp
        · rw [if_neg eq, if_neg eq]
          by_cases le : lcsL (a.drop i) (b.drop (j + 1)) ≤ lcsL (a.drop (i + 1)) (b.drop j)
          · rw [if_neg (by omega), if_pos le]
            exact old
          · rw [if_pos (by omega), if_neg le]
            have := ih1 i (j + 1) out k hi (by omega) ho (by omega) (by omega)
            rw [x2] at this
            exact this
      · have b0 : ¬ (j : Int) < b.length := by omega
        have b8 : out.length < 17592186044416 := by omega
        rw [sennitref03_Match.l1, if_neg b0, if_pos b8, w1]
        have hbn : b.drop j = [] := List.drop_of_length_le (by omega)
        rw [old, hbn, drop_cons' xa, matchFrom_none]

theorem match_gives (ha : a.length ≤ 100) (hb : b.length ≤ 100) : Gives (fun k => sennitref03_Match.f k a b) (matchOf a b) := by
  obtain ⟨T, h1, K, h2⟩ := rest_gives ha hb
  refine ⟨K + (2 * a.length + b.length + 1), fun k hk => ?_⟩
  show sennitref03_Match.f k a b = _
  rw [sennitref03_Match.f, show sennitref03_rest.f k a b = some T from h2 k (by omega), Option.bind_some, gw (by omega) (by omega)]
  have := (match_l ha hb h1 (2 * a.length + b.length + 1)).1 0 0 [] k (by omega) (by omega) rfl (by omega) (by omega)
  simpa [matchOf] using this
end
end Go.Proofs.Ytnlekganlliikaa.X
-- part XRef19
namespace Go.Proofs.Ytnlekganlliikaa.X
open Go.RowKit Go.Proofs.YtnlekganlliikaaW.PrintWords Go.Proofs.YtnlekganlliikaaW.PrintLast Go.Proofs.YtnlekganlliikaaW.PrintMore
set_option linter.unusedVariables false
set_option linter.unusedSimpArgs false
abbrev ApiRow := S37
theorem apiRow_ext {x y : ApiRow} (h0 : x.f0 = y.f0) (h1 : x.f1 = y.f1) : x = y := by
  cases x; cases y; cases h0; cases h1; rfl
instance apiRowDec : DecidableEq ApiRow := fun x y => decidable_of_iff (x.f0 = y.f0 ∧ x.f1 = y.f1) ⟨fun h => apiRow_ext h.1 h.2, fun h => by rw [h]; exact ⟨rfl, rfl⟩⟩
/-- A string of bytes. -/
def bs (l : List UInt8) : ByteArray := ⟨l.toArray⟩
theorem bs_append (a b : List UInt8) : bs a ++ bs b = bs (a ++ b) := by
  apply ByteArray.ext
  simp [bs, ByteArray.data_append]
theorem bs_size (a : List UInt8) : (bs a).size = a.length := by simp [bs, ByteArray.size]
def rowTexts (R : List ApiRow) : List ByteArray := R.map (·.f1)
theorem ref_paired (R : List ApiRow) (l : List ByteArray) (h1 : R.length ≤ 100) (h2 : l.length ≤ 100) : Gives (fun k => sennitref19_paired.f k R l) (matchS (rowTexts R) l) := by
  have hl : ∀ (r i : Nat), i + r = R.length → Gives (fun k => sennitref19_paired.l0 k R l (rowTexts (R.take i)) (i : Int)) (matchS (rowTexts R) l) := by
    intro r
    induction r with
    | zero =>
      intro i hi
      have e : rowTexts (R.take i) = rowTexts R := by rw [List.take_of_length_le (by omega)]
      have hids := idsAll_map [rowTexts R, l]
      have hm := matchS_num (t := tabOf [] [rowTexts R, l]) (a := rowTexts R) (b := l) (fun x hx => tabAll (ls := [rowTexts R, l]) (by simp) hx)
      have hall := ref_all [rowTexts R, l] (by simp) (by simp [rowTexts]; omega) (by simp [rowTexts]; omega)
      rw [hids] at hall
      have hma := match_gives (a := (rowTexts R).map (num (tabOf [] [rowTexts R, l]))) (b := l.map (num (tabOf [] [rowTexts R, l]))) (by simp [rowTexts]; omega) (by simp; omega)
      rw [hm] at hma
      refine Gives.call hall (Gives.last0 hma (f := fun k => (sennitref03_Match.f k ((rowTexts R).map (num (tabOf [] [rowTexts R, l]))) (l.map (num (tabOf [] [rowTexts R, l])))).bind fun t => some t) fun k hk => ?_) fun k hk => ?_
      · show Option.bind _ _ = _
        rw [hk, Option.bind_some]
      · show sennitref19_paired.l0 (k + 1) R l _ (i : Int) = _
        rw [sennitref19_paired.l0, if_neg (by omega), e, hk, Option.bind_some, if_pos (by simp), if_pos (by simp)]
        rfl
    | succ r ih =>
      intro i hi
      have hil : i < R.length := by omega
      have tk : rowTexts (R.take (i + 1)) = rowTexts (R.take i) ++ [R[i].f1] := by
        rw [← List.take_append_getElem hil, rowTexts, List.map_append]; rfl
      have := ih (i + 1) (by omega)
      rw [tk] at this
      refine this.step fun k => ?_
      show sennitref19_paired.l0 (k + 1) R l _ (i : Int) = _
      have hlen : (rowTexts (R.take i)).length ≤ 100 := by simp [rowTexts]; omega
      have e : rd_T37 R (i : Int) = R[i] := getN hil
      rw [sennitref19_paired.l0, if_pos (by omega), if_pos (by omega), if_pos (by omega), e, gw1 (by omega)]
  exact (hl R.length 0 (by omega)).same fun k => rfl

/-- So many blanks, with a minus sign at a place. -/
def blanksU (n at_ : Nat) : List UInt8 := (List.range n).map (fun i => if i = at_ then 45 else 32)
theorem blanksU_succ (n at_ : Nat) : blanksU (n + 1) at_ = blanksU n at_ ++ [if n = at_ then 45 else 32] := by
  simp [blanksU, List.range_succ]
theorem blanksU_len (n at_ : Nat) : (blanksU n at_).length = n := by simp [blanksU]
theorem ref_blanks (n at_ : Nat) (hn : n ≤ 1000000) : Gives (fun k => sennitref19_blanks.f k (n : Int) (at_ : Int)) (bs (blanksU n at_)) := by
  have hl : ∀ (r i : Nat), i + r = n → Gives (fun k => sennitref19_blanks.l0 k (n : Int) (at_ : Int) (bs (blanksU i at_)) (i : Int)) (bs (blanksU n at_)) := by
    intro r
    induction r with
    | zero =>
      intro i hi
      refine Gives.of fun k => ?_
      show sennitref19_blanks.l0 (k + 1) (n : Int) (at_ : Int) _ (i : Int) = _
      obtain rfl : i = n := by omega
      rw [sennitref19_blanks.l0, if_neg (by omega)]
    | succ r ih =>
      intro i hi
      have := ih (i + 1) (by omega)
      rw [blanksU_succ] at this
      refine this.step fun k => ?_
      show sennitref19_blanks.l0 (k + 1) (n : Int) (at_ : Int) _ (i : Int) = _
      have hs : (bs (blanksU i at_)).size = i := by rw [bs_size, blanksU_len]
      rw [sennitref19_blanks.l0, if_pos (by omega), hs, gw1 (by omega), ← bs_append]
      by_cases e : i = at_
      · rw [if_pos (by omega), if_pos (by omega), if_pos e]; rfl
      · rw [if_neg (by omega), if_pos (by omega), if_neg e]; rfl
  exact (hl n 0 (by omega)).same fun k => rfl

/-- The document's rows, as a list comes to_ them. -/
def comeR (col : Nat) (list : List ByteArray) : List Int → List ApiRow → Nat → List ApiRow
  | m :: ms, x :: R, at_ => if 0 ≤ m then ((list.take m.toNat).drop at_).map (fun s => (⟨bs (blanksU (col + 1) col), s⟩ : ApiRow)) ++ (⟨x.f0 ++ bs [45], x.f1⟩ : ApiRow) :: comeR col list ms R (m.toNat + 1) else (⟨x.f0 ++ bs [32], x.f1⟩ : ApiRow) :: comeR col list ms R at_
  | _, _, at_ => (list.drop at_).map (fun s => (⟨bs (blanksU (col + 1) col), s⟩ : ApiRow))
section
variable {col : Nat} {list : List ByteArray} {R : List ApiRow} {ms : List Int}
theorem ref_come_l1 (hcol : col ≤ 100) (hl : list.length ≤ 100) (i : Int) (r : List ApiRow) : ∀ (n at_ to_ : Nat) (out : List ApiRow), at_ + n = to_ → to_ ≤ list.length → out.length + n ≤ 1000 →
    Gives (fun k => sennitref19_come.j3 k R list (col : Int) ms (out ++ ((list.take to_).drop at_).map (fun s => (⟨bs (blanksU (col + 1) col), s⟩ : ApiRow))) (to_ : Int) i (to_ : Int)) r → Gives (fun k => sennitref19_come.l1 k R list (col : Int) ms out (at_ : Int) i (to_ : Int)) r
  | 0, at_, to_, out, hn, ht, ho, h => by
    obtain rfl : at_ = to_ := by omega
    rw [List.drop_eq_nil_of_le (by rw [List.length_take]; omega), List.map_nil, List.append_nil] at h
    refine h.step fun k => ?_
    show sennitref19_come.l1 (k + 1) R list (col : Int) ms out (at_ : Int) i (at_ : Int) = _
    rw [sennitref19_come.l1, if_pos (by omega), if_neg (by omega)]
  | n + 1, at_, to_, out, hn, ht, ho, h => by
    have hal : at_ < list.length := by omega
    have e : (list.take to_).drop at_ = list[at_] :: (list.take to_).drop (at_ + 1) := by
      rw [List.drop_eq_getElem_cons (by rw [List.length_take]; omega), List.getElem_take]
    rw [e, List.map_cons] at h
    have h' := ref_come_l1 hcol hl i r n (at_ + 1) to_ (out ++ [(⟨bs (blanksU (col + 1) col), list[at_]⟩ : ApiRow)]) (by omega) ht (by simp; omega) (by simpa using h)
    refine Gives.call (ref_blanks (col + 1) col (by omega)) h' fun k hk => ?_
    show sennitref19_come.l1 (k + 1) R list (col : Int) ms out (at_ : Int) i (to_ : Int) = _
    rw [sennitref19_come.l1, if_pos (by omega), if_pos (by omega), gw1 (by omega), hk, Option.bind_some, if_pos (by omega), if_pos (by omega), if_pos (by omega), rdOfN hal, gw1 (by omega)]
theorem ref_come_l0 (hcol : col ≤ 100) (hl : list.length ≤ 100) (hR : R.length ≤ 100) (hm : ms.length = R.length) (hz : ∀ x ∈ R, x.f0.size ≤ 1000) : ∀ (n i at_ : Nat) (out : List ApiRow), i + n = R.length → Up list.length at_ (ms.drop i) → out.length ≤ at_ + i →
    Gives (fun k => sennitref19_come.l0 k R list (col : Int) ms out (at_ : Int) (i : Int)) (out ++ comeR col list (ms.drop i) (R.drop i) at_)
  | 0, i, at_, out, hn, hu, ho => by
    have hle := hu.le
    have e1 : ms.drop i = [] := List.drop_eq_nil_of_le (by omega)
    rw [e1]
    have e2 : comeR col list [] (R.drop i) at_ = (list.drop at_).map (fun s => (⟨bs (blanksU (col + 1) col), s⟩ : ApiRow)) := rfl
    rw [e2]
    have h0 : Gives (fun k => sennitref19_come.j3 k R list (col : Int) ms (out ++ ((list.take list.length).drop at_).map (fun s => (⟨bs (blanksU (col + 1) col), s⟩ : ApiRow))) (list.length : Int) (i : Int) (list.length : Int)) (out ++ (list.drop at_).map (fun s => (⟨bs (blanksU (col + 1) col), s⟩ : ApiRow))) := by
      rw [List.take_length]
      refine ((Gives.of fun k => ?_ : Gives (fun k => sennitref19_come.l0 k R list (col : Int) ms (out ++ (list.drop at_).map (fun s => (⟨bs (blanksU (col + 1) col), s⟩ : ApiRow))) (list.length : Int) ((i + 1 : Nat) : Int)) _)).step fun k => ?_
      · show sennitref19_come.l0 (k + 1) R list (col : Int) ms _ (list.length : Int) ((i + 1 : Nat) : Int) = _
        rw [sennitref19_come.l0, if_neg (by omega)]
      · show sennitref19_come.j3 (k + 1) R list (col : Int) ms _ (list.length : Int) (i : Int) (list.length : Int) = _
        rw [sennitref19_come.j3, if_neg (by omega), gw1 (by omega)]
    have h1 := ref_come_l1 (R := R) (ms := ms) hcol hl (i : Int) _ (list.length - at_) at_ list.length out (by omega) (Nat.le_refl _) (by omega) h0
    refine (h1.step (f := fun k => sennitref19_come.j1 k R list (col : Int) ms out (at_ : Int) (i : Int) (list.length : Int)) fun k => ?_).step fun k => ?_
    · show sennitref19_come.j1 (k + 1) R list (col : Int) ms out (at_ : Int) (i : Int) (list.length : Int) = _
      rw [sennitref19_come.j1]
    · show sennitref19_come.l0 (k + 1) R list (col : Int) ms out (at_ : Int) (i : Int) = _
      rw [sennitref19_come.l0, if_pos (by omega), if_neg (by omega)]
  | n + 1, i, at_, out, hn, hu, ho => by
    have hiR : i < R.length := by omega
    have him : i < ms.length := by omega
    have e1 := dropCons him
    have e2 := dropCons hiR
    have eR : rd_T37 R (i : Int) = R[i] := getN hiR
    have hzi := hz R[i] (List.getElem_mem _)
    rw [e1] at hu
    rw [e1, e2]
    rcases hu with ⟨h1, hu⟩ | ⟨k, h1, h2, h3, hu⟩
    · rw [h1]
      have hle := hu.le
      have e3 : comeR col list (-1 :: ms.drop (i + 1)) (R[i] :: R.drop (i + 1)) at_ = (⟨R[i].f0 ++ bs [32], R[i].f1⟩ : ApiRow) :: comeR col list (ms.drop (i + 1)) (R.drop (i + 1)) at_ := by rw [comeR, if_neg (by decide)]
      rw [e3]
      have ih := ref_come_l0 hcol hl hR hm hz n (i + 1) at_ (out ++ [(⟨R[i].f0 ++ bs [32], R[i].f1⟩ : ApiRow)]) (by omega) hu (by simp; omega)
      rw [List.append_assoc, List.singleton_append] at ih
      refine (((ih.step (f := fun k => sennitref19_come.j3 k R list (col : Int) ms out (at_ : Int) (i : Int) (-1)) fun k => ?_).step (f := fun k => sennitref19_come.l1 k R list (col : Int) ms out (at_ : Int) (i : Int) (-1)) fun k => ?_).step (f := fun k => sennitref19_come.j1 k R list (col : Int) ms out (at_ : Int) (i : Int) (-1)) fun k => ?_).step fun k => ?_
      · show sennitref19_come.j3 (k + 1) R list (col : Int) ms out (at_ : Int) (i : Int) (-1) = _
        rw [sennitref19_come.j3, if_pos (by omega), if_neg (by decide), if_pos (by omega), eR, if_pos (by omega), if_pos (by omega), gw1 (by omega)]; rfl
      · show sennitref19_come.l1 (k + 1) R list (col : Int) ms out (at_ : Int) (i : Int) (-1) = _
        rw [sennitref19_come.l1, if_neg (by decide)]
      · show sennitref19_come.j1 (k + 1) R list (col : Int) ms out (at_ : Int) (i : Int) (-1) = _
        rw [sennitref19_come.j1]
      · show sennitref19_come.l0 (k + 1) R list (col : Int) ms out (at_ : Int) (i : Int) = _
        rw [sennitref19_come.l0, if_pos (by omega), if_pos (by omega), if_pos (by omega), if_pos (by omega), rdN him, h1]
    · rw [h1]
      have e3 : comeR col list ((k : Int) :: ms.drop (i + 1)) (R[i] :: R.drop (i + 1)) at_ = ((list.take k).drop at_).map (fun s => (⟨bs (blanksU (col + 1) col), s⟩ : ApiRow)) ++ (⟨R[i].f0 ++ bs [45], R[i].f1⟩ : ApiRow) :: comeR col list (ms.drop (i + 1)) (R.drop (i + 1)) (k + 1) := by rw [comeR, if_pos (by omega), Int.toNat_natCast]
      rw [e3]
      have hlen : (((list.take k).drop at_).map (fun s => (⟨bs (blanksU (col + 1) col), s⟩ : ApiRow))).length = k - at_ := by
        rw [List.length_map, List.length_drop, List.length_take]; omega
      obtain ⟨nw, hnw⟩ : ∃ nw, ((list.take k).drop at_).map (fun s => (⟨bs (blanksU (col + 1) col), s⟩ : ApiRow)) = nw := ⟨_, rfl⟩
      rw [hnw] at hlen ⊢
      have ih := ref_come_l0 hcol hl hR hm hz n (i + 1) (k + 1) (out ++ nw ++ [(⟨R[i].f0 ++ bs [45], R[i].f1⟩ : ApiRow)]) (by omega) hu (by simp; omega)
      have e5 : ∀ l : List ApiRow, out ++ nw ++ [(⟨R[i].f0 ++ bs [45], R[i].f1⟩ : ApiRow)] ++ l = out ++ (nw ++ (⟨R[i].f0 ++ bs [45], R[i].f1⟩ : ApiRow) :: l) := fun l => by simp
      rw [e5] at ih
      have h3' : Gives (fun q => sennitref19_come.j3 q R list (col : Int) ms (out ++ ((list.take k).drop at_).map (fun s => (⟨bs (blanksU (col + 1) col), s⟩ : ApiRow))) (k : Int) (i : Int) (k : Int)) (out ++ (nw ++ (⟨R[i].f0 ++ bs [45], R[i].f1⟩ : ApiRow) :: comeR col list (ms.drop (i + 1)) (R.drop (i + 1)) (k + 1))) := by
        rw [hnw]
        refine ih.step fun q => ?_
        show sennitref19_come.j3 (q + 1) R list (col : Int) ms (out ++ nw) (k : Int) (i : Int) (k : Int) = _
        rw [sennitref19_come.j3, if_pos (by omega), if_pos (by omega), if_pos (by omega), eR, if_pos (by omega), if_pos (by rw [List.length_append]; omega), gw1 (by omega), gw1 (by omega)]; rfl
      have h4 := ref_come_l1 (R := R) (ms := ms) hcol hl (i : Int) _ (k - at_) at_ k out (by omega) (by omega) (by omega) h3'
      refine (h4.step (f := fun q => sennitref19_come.j1 q R list (col : Int) ms out (at_ : Int) (i : Int) (k : Int)) fun q => ?_).step fun q => ?_
      · show sennitref19_come.j1 (q + 1) R list (col : Int) ms out (at_ : Int) (i : Int) (k : Int) = _
        rw [sennitref19_come.j1]
      · show sennitref19_come.l0 (q + 1) R list (col : Int) ms out (at_ : Int) (i : Int) = _
        rw [sennitref19_come.l0, if_pos (by omega), if_pos (by omega), if_pos (by omega), if_pos (by omega), rdN him, h1]
end
theorem ref_come (R : List ApiRow) (list : List ByteArray) (col : Nat) (hcol : col ≤ 100) (hl : list.length ≤ 100) (hR : R.length ≤ 100) (hz : ∀ x ∈ R, x.f0.size ≤ 1000) :
    Gives (fun k => sennitref19_come.f k R list (col : Int)) (comeR col list (matchS (rowTexts R) list) R 0) := by
  have h := ref_come_l0 (ms := matchS (rowTexts R) list) hcol hl hR (by rw [matchS_length]; simp [rowTexts]) hz R.length 0 0 [] (by omega) (matchS_fits _ _).up (by simp)
  refine Gives.call0 (ref_paired R list hR hl) h fun k hk => ?_
  show sennitref19_come.f k R list (col : Int) = _
  rw [sennitref19_come.f, hk, Option.bind_some]; rfl

theorem rowOut_text (n : Nat) (rs : List RowG) : rowTexts (rs.map (rowOut n)) = rs.map (·.2) := by
  simp [rowTexts, rowOut]
theorem take_marks {x : List Int} {n : Nat} (h : n < x.length) : (x.map markB).take (n + 1) = (x.map markB).take n ++ [markB (x.getD n 0)] := by
  rw [← List.take_append_getElem (by simpa using h), List.getElem_map]
  simp [h]
theorem rowOut_f0 (n : Nat) (x : RowG) : (rowOut n x).f0 = bs ((x.1.map markB).take n) := rfl
theorem rowOut_yes {n : Nat} {x : RowG} (h : x.1.length = 16) (hn : n < 16) : rowOut (n + 1) (x.1.set n 1, x.2) = ⟨(rowOut n x).f0 ++ bs [45], x.2⟩ := by
  have e : (rowOut (n + 1) (x.1.set n 1, x.2)) = ⟨bs (((x.1.set n 1).map markB).take (n + 1)), x.2⟩ := rfl
  rw [e, take_marks (by simp; omega), rowOut_f0, bs_append, getD_set _ _ _ _ (by omega), if_pos rfl, List.map_set, List.take_set_of_le (Nat.le_refl _)]
  rfl
theorem rowOut_no {n : Nat} {x : RowG} (h : x.1.length = 16) (hn : n < 16) (h0 : x.1.getD n 0 = 0) : rowOut (n + 1) x = ⟨(rowOut n x).f0 ++ bs [32], x.2⟩ := by
  have e : (rowOut (n + 1) x) = ⟨bs ((x.1.map markB).take (n + 1)), x.2⟩ := rfl
  rw [e, take_marks (by omega), rowOut_f0, bs_append, h0]
  rfl
theorem rowOut_new {n : Nat} (hn : n < 16) (s : ByteArray) : rowOut (n + 1) (oneRow n s) = ⟨bs (blanksU (n + 1) n), s⟩ := by
  have e : (rowOut (n + 1) (oneRow n s)) = ⟨bs (((oneRow n s).1.map markB).take (n + 1)), s⟩ := rfl
  rw [e]
  congr 2
  refine List.ext_getElem (by simp [blanksU_len, oneRow_len]; omega) fun i h1 h2 => ?_
  rw [blanksU_len] at h2
  have hi : i < (oneRow n s).1.length := by rw [oneRow_len]; omega
  have hg : (oneRow n s).1[i] = if i = n then 1 else 0 := by
    have := oneRow_getD hn s i
    simpa [hi] using this
  rw [List.getElem_take, List.getElem_map, hg]
  simp only [blanksU, List.getElem_map, List.getElem_range]
  split <;> rfl
theorem comeR_rows {n : Nat} (hn : n < 16) (list : List ByteArray) : ∀ (ms : List Int) (rs : List RowG) (a : Nat), ms.length = rs.length → (∀ x ∈ rs, x.1.length = 16 ∧ x.1.getD n 0 = 0) → comeR n list ms (rs.map (rowOut n)) a = (comeGo n list ms rs a).map (rowOut (n + 1))
  | [], [], a, hl, h => by
    rw [comeGo_nil, List.map_map]
    exact List.map_congr_left fun s _ => (rowOut_new hn s).symm
  | [], _ :: _, a, hl, h => by simp at hl
  | _ :: _, [], a, hl, h => by simp at hl
  | m :: ms, x :: rs, a, hl, h => by
    have hx := h x List.mem_cons_self
    have ih := fun a => comeR_rows hn list ms rs a (by simpa using hl) (fun y hy => h y (List.mem_cons_of_mem _ hy))
    rw [List.map_cons, comeR, comeGo]
    split
    · rw [ih, List.map_append, List.map_cons, rowOut_yes hx.1 hn, List.map_map]
      congr 1
      exact List.map_congr_left fun s _ => (rowOut_new hn s).symm
    · rw [ih, List.map_cons, rowOut_no hx.1 hn hx.2]; rfl
theorem rowOut_size (n : Nat) (x : RowG) : (rowOut n x).f0.size ≤ n := by
  rw [rowOut_f0, bs_size, List.length_take]; omega
/-- Lists small enough for the document's own answer. -/
def Small19 (ls : List (List ByteArray)) : Prop := ls.length ≤ 16 ∧ ∀ i, i < ls.length → sumLen (ls.take i) ≤ 100 ∧ (ls.getD i []).length ≤ 100
theorem ref_Coalesce (ls : List (List ByteArray)) (h : Small19 ls) : Gives (fun k => sennitref19_Coalesce.f k ls) ((rowsOf ls).map (rowOut ls.length), 0) := by
  have hl : ∀ (r i : Nat), i + r = ls.length → Gives (fun k => sennitref19_Coalesce.l0 k ls ((rowsOf (ls.take i)).map (rowOut i)) (i : Int)) ((rowsOf ls).map (rowOut ls.length), 0) := by
    intro r
    induction r with
    | zero =>
      intro i hi
      obtain rfl : i = ls.length := by omega
      refine Gives.of fun k => ?_
      show sennitref19_Coalesce.l0 (k + 1) ls _ (ls.length : Int) = _
      rw [sennitref19_Coalesce.l0, if_neg (by omega), List.take_length]
    | succ r ih =>
      intro i hi
      have hil : i < ls.length := by omega
      have hlen : (ls.take i).length = i := by rw [List.length_take]; omega
      obtain ⟨s1, s2⟩ := h.2 i hil
      rw [show ls.getD i [] = ls[i] by simp [hil]] at s2
      have hrows := rowsOf_le (ls.take i)
      have hcols := rowsOf_cols (ls.take i) (by have := h.1; omega)
      rw [hlen] at hcols
      have tk : ls.take (i + 1) = ls.take i ++ [ls[i]] := (List.take_append_getElem hil).symm
      have h1 := ih (i + 1) (by omega)
      have hi16 : i < 16 := by have := h.1; omega
      rw [tk, rowsOf_snoc, hlen, comeF_def, ← comeR_rows hi16 _ _ _ _ (comeF_len_m _ _) (fun x hx => ⟨(hcols x hx).1, (hcols x hx).2.2.1 i (Nat.le_refl _)⟩)] at h1
      have hc := ref_come ((rowsOf (ls.take i)).map (rowOut i)) ls[i] i (by omega) s2 (by rw [List.length_map]; omega) (fun x hx => by
        obtain ⟨y, _, rfl⟩ := List.mem_map.1 hx
        have := rowOut_size i y; omega)
      rw [rowOut_text] at hc
      refine Gives.call hc h1 fun k hk => ?_
      show sennitref19_Coalesce.l0 (k + 1) ls _ (i : Int) = _
      have e : rd_L1 ls (i : Int) = ls[i] := getN hil
      rw [sennitref19_Coalesce.l0, if_pos (by omega), if_neg (by rw [List.length_map]; omega), if_pos (by omega), e, if_neg (by omega), hk, Option.bind_some, gw1 (by omega)]
  refine (hl ls.length 0 (by omega)).same fun k => ?_
  show sennitref19_Coalesce.f k ls = _
  rw [sennitref19_Coalesce.f, if_neg (by have := h.1; omega)]
  rfl
end Go.Proofs.Ytnlekganlliikaa.X
-- part XGapL
namespace Go.Proofs.Ytnlekganlliikaa.X
open Go.RowKit Go.Proofs.YtnlekganlliikaaW.PrintWords Go.Proofs.YtnlekganlliikaaW.PrintLast Go.Proofs.YtnlekganlliikaaW.PrintMore
set_option linter.unusedVariables false
set_option linter.unusedSimpArgs false
theorem awake19 : sennitlaw19_awake.f = some true := by decide +kernel
end Go.Proofs.Ytnlekganlliikaa.X
-- part XGapTells
namespace Go.Proofs.Ytnlekganlliikaa.X
open Go.RowKit Go.Proofs.YtnlekganlliikaaW.PrintWords Go.Proofs.YtnlekganlliikaaW.PrintLast Go.Proofs.YtnlekganlliikaaW.PrintMore
set_option linter.unusedVariables false
set_option linter.unusedSimpArgs false
theorem ref_Few06 (ls : List (List ByteArray)) : ∃ b, Gives (fun k => sennitref06_Few.f k ([] : List ByteArray) ls) b ∧ (b = true → ls.length ≤ 6 ∧ ∀ l ∈ ls, l.length ≤ 20 ∧ ∀ s ∈ l, s.size ≤ 100) := by
  have he : Gives (fun k => sennitref01_Few.f k ([] : List ByteArray) 20) true := (ref_few01 [] 20 (by omega)).eq (by simp [fewB])
  have hlast : ∀ i : Nat, (i = ls.length ∨ i = 7) → (∀ l ∈ ls.take i, fewB l 20 = true) → ∃ b, Gives (fun k => sennitref06_Few.j1 k [] ls (i : Int) false) b ∧ (b = true → ls.length ≤ 6 ∧ ∀ l ∈ ls, fewB l 20 = true) := by
    intro i hi hP
    refine ⟨decide ((ls.length : Int) ≤ 6), Gives.last he fun k hk => ?_, fun h => ?_⟩
    · show sennitref06_Few.j1 (k + 1) [] ls (i : Int) false = _
      rw [sennitref06_Few.j1, if_neg (by decide), hk, Option.bind_some, if_pos rfl]
    · have h6 := of_decide_eq_true h
      rw [List.take_of_length_le (by omega)] at hP
      exact ⟨by omega, hP⟩
  have hmain : ∀ (r i : Nat), i + r = min ls.length 7 → (∀ l ∈ ls.take i, fewB l 20 = true) → ∃ b, Gives (fun k => sennitref06_Few.l0 k [] ls (i : Int)) b ∧ (b = true → ls.length ≤ 6 ∧ ∀ l ∈ ls, fewB l 20 = true) := by
    intro r
    induction r with
    | zero =>
      intro i hi hP
      obtain ⟨b, h1, h2⟩ := hlast i (by omega) hP
      refine ⟨b, h1.step fun k => ?_, h2⟩
      show sennitref06_Few.l0 (k + 1) [] ls (i : Int) = _
      rw [sennitref06_Few.l0]
      by_cases h : i < ls.length
      · rw [if_pos (by omega), decide_eq_false (by omega)]
      · rw [if_neg (by omega)]
    | succ r ih =>
      intro i hi hP
      have hil : i < ls.length := by omega
      have e : rd_L1 ls (i : Int) = ls[i] := getN hil
      have hf := ref_few01 ls[i] 20 (by omega)
      have h0 : ∀ b, Gives (fun k => sennitref06_Few.j1 k [] ls (i : Int) true) b → Gives (fun k => sennitref06_Few.l0 k [] ls (i : Int)) b := fun b hb => hb.step fun k => by
        show sennitref06_Few.l0 (k + 1) [] ls (i : Int) = _
        rw [sennitref06_Few.l0, if_pos (by omega), decide_eq_true (by omega)]
      cases hb : fewB ls[i] 20 with
      | true =>
        obtain ⟨b, h1, h2⟩ := ih (i + 1) (by omega) (fun l hl => by
          rw [← List.take_append_getElem hil] at hl
          rcases List.mem_append.1 hl with hl | hl
          · exact hP l hl
          · rw [List.mem_singleton.1 hl]; exact hb)
        refine ⟨b, h0 b (Gives.call hf h1 fun k hk => ?_), h2⟩
        show sennitref06_Few.j1 (k + 1) [] ls (i : Int) true = _
        rw [sennitref06_Few.j1, if_pos rfl, if_pos (by omega), if_pos (by omega), e]
        have hk' : sennitref01_Few.f k ls[i] 20 = some true := by rw [← hb]; exact hk
        rw [hk', Option.bind_some, if_pos rfl, gw1 (by omega)]
      | false =>
        refine ⟨false, h0 false (Gives.last hf fun k hk => ?_), fun h => by cases h⟩
        show sennitref06_Few.j1 (k + 1) [] ls (i : Int) true = _
        have hk' : sennitref01_Few.f k ls[i] 20 = some false := by rw [← hb]; exact hk
        rw [sennitref06_Few.j1, if_pos rfl, if_pos (by omega), if_pos (by omega), e, hk', Option.bind_some, if_neg (by decide)]
  obtain ⟨b, h1, h2⟩ := hmain (min ls.length 7) 0 (by omega) (by simp)
  refine ⟨b, h1.same fun k => rfl, fun h => ?_⟩
  obtain ⟨h3, h4⟩ := h2 h
  exact ⟨h3, fun l hl => by simpa [fewB] using h4 l hl⟩
theorem sumLen_take (n : Nat) : ∀ (ls : List (List ByteArray)) (i : Nat), (∀ l ∈ ls, l.length ≤ n) → sumLen (ls.take i) ≤ i * n
  | [], i, h => by simp [sumLen]
  | l :: ls, 0, h => by simp [sumLen]
  | l :: ls, i + 1, h => by
    have h1 := sumLen_take n ls i (fun x hx => h x (List.mem_cons_of_mem _ hx))
    have h2 := h l List.mem_cons_self
    rw [Nat.succ_mul]
    simp only [sumLen, List.take_succ_cons, List.map_cons, List.sum_cons] at h1 ⊢
    omega
theorem few_small {ls : List (List ByteArray)} (h1 : ls.length ≤ 6) (h2 : ∀ l ∈ ls, l.length ≤ 20 ∧ ∀ s ∈ l, s.size ≤ 100) : Small19 ls := by
  refine ⟨by omega, fun i hi => ⟨?_, ?_⟩⟩
  · have := sumLen_take 20 ls i (fun l hl => (h2 l hl).1)
    omega
  · rw [show ls.getD i [] = ls[i] by simp [hi]]
    have := (h2 ls[i] (List.getElem_mem _)).1
    omega
theorem eachG_rows : ∀ (ls : List (List ByteArray)) (i : Nat) (rs : List RowG) (e : Int), (∀ l ∈ ls, l.length ≤ 2000) → rs.length + sumLen ls ≤ 2000 → eachG i ls rs e = (rowsFrom i ls rs, e)
  | [], i, rs, e, _, _ => rfl
  | l :: ls, i, rs, e, h, hs => by
    have hl := h l List.mem_cons_self
    have h2 := comeF_len i l rs
    simp only [sumLen, List.map_cons, List.sum_cons] at hs
    rw [eachG, comeS, if_pos ⟨by omega, hl⟩, rowsFrom]
    exact eachG_rows ls (i + 1) _ e (fun x hx => h x (List.mem_cons_of_mem _ hx)) (by simp only [sumLen]; omega)
theorem gapF_rows {ls : List (List ByteArray)} (h1 : ls.length ≤ 16) (hs : sumLen ls ≤ 2000) : gapF ls = ((rowsOf ls).map (rowOut ls.length), 0) := by
  have hle : ∀ l ∈ ls, l.length ≤ sumLen ls := by
    intro l hl
    obtain ⟨a, b, rfl⟩ := List.append_of_mem hl
    simp [sumLen]; omega
  rw [gapF, if_neg (by omega), eachG_rows ls 0 [] 0 (fun l hl => by have := hle l hl; omega) (by simpa using hs), if_neg (fun h => h rfl)]
  rfl
theorem gap_rows {ls : List (List ByteArray)} (h1 : ls.length ≤ 16) (hs : sumLen ls ≤ 2000) (hz : ∀ l ∈ ls, ∀ s ∈ l, s.size ≤ maxLen) : gap_Coalesce.f ls = some ((rowsOf ls).map (rowOut ls.length), 0) := by
  have hle : ∀ l ∈ ls, l.length ≤ sumLen ls := by
    intro l hl
    obtain ⟨a, b, rfl⟩ := List.append_of_mem hl
    simp [sumLen]; omega
  rw [gap_Coalesce.f, if_pos (fun l hl => ⟨by have := hle l hl; omega, hz l hl⟩), gapF_rows h1 hs]
end Go.Proofs.Ytnlekganlliikaa.X
-- part XGapSame
namespace Go.Proofs.Ytnlekganlliikaa.X
open Go.RowKit Go.Proofs.YtnlekganlliikaaW.PrintWords Go.Proofs.YtnlekganlliikaaW.PrintLast Go.Proofs.YtnlekganlliikaaW.PrintMore
set_option linter.unusedVariables false
set_option linter.unusedSimpArgs false
section
variable {l : List ByteArray} {R : List ApiRow} {all : List UInt8}
end
section
variable {ls : List (List ByteArray)} {R M : List ApiRow}
end
section
variable {ls : List (List ByteArray)} {R M : List ApiRow}
theorem last_l1 (hR : R.length ≤ 1000) (hM : M = R.map (fun x => (⟨x.f0 ++ bs [45], x.f1⟩ : ApiRow))) (hz : ∀ x ∈ R, x.f0.size ≤ 1000) : ∀ (r i : Nat), i + r = R.length → Gives (fun k => sennitlaw19_GapLast.l1 k true R M 0 (i : Int)) true := by
  have hlen : M.length = R.length := by rw [hM, List.length_map]
  intro r
  induction r with
  | zero =>
    intro i hi
    refine (Gives.of (f := fun k => sennitlaw19_GapLast.j3 k true R M 0 (i : Int) false) fun k => ?_).step fun k => ?_
    · show sennitlaw19_GapLast.j3 (k + 1) true R M 0 (i : Int) false = _
      rw [sennitlaw19_GapLast.j3, if_neg (by decide), if_pos rfl, if_pos rfl, hlen]
      simp
    · show sennitlaw19_GapLast.l1 (k + 1) true R M 0 (i : Int) = _
      rw [sennitlaw19_GapLast.l1, if_neg (by omega)]
  | succ r ih =>
    intro i hi
    have hil : i < R.length := by omega
    have e : rd_T37 R (i : Int) = R[i] := getN hil
    have e2 : rd_T37 M (i : Int) = ⟨R[i].f0 ++ ⟨#[45]⟩, R[i].f1⟩ := by
      have : rd_T37 M (i : Int) = M[i] := getN (by omega)
      rw [this]; simp [hM]; rfl
    have hzi := hz R[i] (List.getElem_mem _)
    refine ((ih (i + 1) (by omega)).step (f := fun k => sennitlaw19_GapLast.j3 k true R M 0 (i : Int) true) fun k => ?_).step fun k => ?_
    · show sennitlaw19_GapLast.j3 (k + 1) true R M 0 (i : Int) true = _
      rw [sennitlaw19_GapLast.j3, if_pos rfl, if_pos (by omega), if_pos (by omega), if_pos (by omega), e, e2, if_pos (by omega), if_pos rfl, if_pos rfl, gw1 (by omega)]
    · show sennitlaw19_GapLast.l1 (k + 1) true R M 0 (i : Int) = _
      rw [sennitlaw19_GapLast.l1, if_pos (by omega), decide_eq_true (by omega)]
theorem last_l0 (hls : ls.length ≤ 1000) (hR : R.length ≤ 1000) (hM : M = R.map (fun x => (⟨x.f0 ++ bs [45], x.f1⟩ : ApiRow))) (hz : ∀ x ∈ R, x.f0.size ≤ 1000) (hg : gap_Coalesce.f (ls ++ [rowTexts R]) = some (M, 0)) : ∀ (r i : Nat), i + r = R.length →
    Gives (fun k => sennitlaw19_GapLast.l0 k ls true R (rowTexts (R.take i)) (i : Int)) true := by
  intro r
  induction r with
  | zero =>
    intro i hi
    have := last_l1 hR hM hz R.length 0 (by omega)
    refine this.step fun k => ?_
    show sennitlaw19_GapLast.l0 (k + 1) ls true R _ (i : Int) = _
    rw [sennitlaw19_GapLast.l0, if_neg (by omega), List.take_of_length_le (by omega), Option.bind_some, if_pos (by simp; omega), Option.bind_some, if_pos (by simp; omega), List.nil_append, hg, Option.bind_some]; rfl
  | succ r ih =>
    intro i hi
    have hil : i < R.length := by omega
    have e : rd_T37 R (i : Int) = R[i] := getN hil
    have tk : rowTexts (R.take (i + 1)) = rowTexts (R.take i) ++ [R[i].f1] := by
      rw [← List.take_append_getElem hil, rowTexts, List.map_append]; rfl
    have := ih (i + 1) (by omega)
    rw [tk] at this
    refine this.step fun k => ?_
    show sennitlaw19_GapLast.l0 (k + 1) ls true R _ (i : Int) = _
    have hlen : (rowTexts (R.take i)).length ≤ 1000 := by simp [rowTexts]; omega
    rw [sennitlaw19_GapLast.l0, if_pos (by omega), if_pos (by omega), if_pos (by omega), e, gw1 (by omega)]
end
theorem last19 (ls : List (List ByteArray)) : Gives (fun k => sennitlaw19_GapLast.f k ls) true := by
  obtain ⟨b, h1, h2⟩ := ref_Few06 ls
  have hj : Gives (fun k => sennitlaw19_GapLast.j0 k ls true true) true := Gives.of fun k => by
    show sennitlaw19_GapLast.j0 (k + 1) ls true true = _
    rw [sennitlaw19_GapLast.j0, if_pos rfl]
  cases b with
  | false =>
    refine Gives.call0 h1 hj fun k hk => ?_
    show sennitlaw19_GapLast.f k ls = _
    rw [sennitlaw19_GapLast.f, awake19, Option.bind_some, hk, Option.bind_some, if_neg (by decide)]
  | true =>
    obtain ⟨h3, h4⟩ := h2 rfl
    by_cases h5 : 5 < ls.length
    · refine Gives.call0 h1 hj fun k hk => ?_
      show sennitlaw19_GapLast.f k ls = _
      rw [sennitlaw19_GapLast.f, awake19, Option.bind_some, hk, Option.bind_some, if_pos rfl, decide_eq_true (by omega)]
    have hr := ref_Coalesce ls (few_small h3 h4)
    have hcols := rowsOf_cols ls (by omega)
    have h6 := sumLen_take 20 ls ls.length (fun l hl => (h4 l hl).1)
    rw [List.take_length] at h6
    have hle := rowsOf_le ls
    have htx : rowTexts ((rowsOf ls).map (rowOut ls.length)) = (rowsOf ls).map (·.2) := rowOut_text _ _
    have hcolz : ∀ s ∈ (rowsOf ls).map (·.2), s.size ≤ 100 := by
      intro s hs
      obtain ⟨x, hx, rfl⟩ := List.mem_map.1 hs
      obtain ⟨_, _, _, c, hc, hc1⟩ := hcols x hx
      have hcol := rowsOf_colT ls (by omega) c hc
      have hm : x.2 ∈ colT c (rowsOf ls) := List.mem_map.2 ⟨x, List.mem_filter.2 ⟨hx, by rw [hc1]; rfl⟩, rfl⟩
      rw [hcol, show ls.getD c [] = ls[c] by simp [hc]] at hm
      exact (h4 _ (List.getElem_mem hc)).2 _ hm
    have hm := gap_rows (ls := ls ++ [(rowsOf ls).map (·.2)]) (by simp; omega) (by simp only [sumLen, List.map_append, List.sum_append] at h6 hle ⊢; simp; omega) (fun l hl s hs => by
      rcases List.mem_append.1 hl with hl | hl
      · have := (h4 l hl).2 s hs; unfold maxLen; omega
      · rw [List.mem_singleton.1 hl] at hs; have := hcolz s hs; unfold maxLen; omega)
    rw [rowsOf_snoc, comeF_self, List.length_append, List.length_singleton] at hm
    have hM : ((rowsOf ls).map (fun x => (x.1.set ls.length 1, x.2))).map (rowOut (ls.length + 1)) = ((rowsOf ls).map (rowOut ls.length)).map (fun x => (⟨x.f0 ++ bs [45], x.f1⟩ : ApiRow)) := by
      rw [List.map_map, List.map_map]
      refine List.map_congr_left fun x hx => ?_
      show rowOut (ls.length + 1) (x.1.set ls.length 1, x.2) = _
      rw [rowOut_yes (hcols x hx).1 (by omega)]; rfl
    rw [hM, ← htx] at hm
    have hRlen : ((rowsOf ls).map (rowOut ls.length)).length ≤ 1000 := by rw [List.length_map]; omega
    have hz : ∀ x ∈ (rowsOf ls).map (rowOut ls.length), x.f0.size ≤ 1000 := fun x hx => by
      obtain ⟨y, _, rfl⟩ := List.mem_map.1 hx
      have := rowOut_size ls.length y; omega
    obtain ⟨R, hRe⟩ : ∃ R, (rowsOf ls).map (rowOut ls.length) = R := ⟨_, rfl⟩
    rw [hRe] at hr hm hRlen hz
    have h7 := last_l0 (ls := ls) (R := R) (by omega) hRlen rfl hz hm R.length 0 (by omega)
    refine Gives.call0 h1 (Gives.call hr h7 (f := fun k => sennitlaw19_GapLast.j0 k ls true false) fun k hk => ?_) fun k hk => ?_
    · show sennitlaw19_GapLast.j0 (k + 1) ls true false = _
      rw [sennitlaw19_GapLast.j0, if_neg (by decide), hk, Option.bind_some]; rfl
    · show sennitlaw19_GapLast.f k ls = _
      rw [sennitlaw19_GapLast.f, awake19, Option.bind_some, hk, Option.bind_some, if_pos rfl, decide_eq_false (by omega)]
theorem law_GapLast (W : World) (A0 : Option Addr) (c0 : Nat) (l0 : List (List ByteArray)) (hr0 : Kd.C (Kd.slice 9 Kd.string) W A0 l0.length l0) (hc0 : l0.length ≤ c0) (g0 : l0.length * 24 ≤ 140737488351232 ∧ ∀ y ∈ l0, y.length * 16 ≤ 140737488351232 ∧ ∀ yy ∈ y, yy.size ≤ 140737488351232) :
    Calls Try.prog 7 #[.slice A0 l0.length c0] W fun e w' => e = .returned (.bool true) ∧ Below W.heap.size W w' := by
  obtain ⟨k, hk⟩ := last19 l0
  exact sennitlaw19_GapLast.calls k (fun _ => True) A0 c0 l0 true W (V_of_C (Kd.heap_slice _ Kd.heap_string) hr0 hc0) (hk k (Nat.le_refl _))
end Go.Proofs.Ytnlekganlliikaa.X
