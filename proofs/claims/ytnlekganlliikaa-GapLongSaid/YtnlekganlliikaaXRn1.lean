-- Written by this session's xprint.py (a program of its own over the print's forms). Not trusted: Lean checks it.
import Derived.Test.YtnlekganlliikaaX0
import Derived.Test.YtnlekganlliikaaXPre
namespace Go.Proofs.Ytnlekganlliikaa.X
open Go.RowKit Go.Proofs.YtnlekganlliikaaW.PrintWords Go.Proofs.YtnlekganlliikaaW.PrintLast Go.Proofs.YtnlekganlliikaaW.PrintMore
attribute [local go_sem] max2_int min2_int max_two min_two max_three min_three max_four min_four   -- for this text's walks alone
set_option linter.unusedVariables false
set_option linter.unusedSimpArgs false

/-! ### sennitref02_Id: function 75 -/
def sennitref02_Id.l0 : Nat → List ByteArray → ByteArray → Int → Option (List ByteArray × Int)
  | 0, _, _, _ => none
  | k + 1, x0, x1, x6 => if x6 < (x0.length : Int) then (if 0 ≤ x6 then (if (rdOf ByteArray.empty x0 x6).toList = x1.toList then (some (x0, x6)) else (sennitref02_Id.l0 k x0 x1 (wrap64 (x6 + 1)))) else (none)) else ((some (([] : List ByteArray) : List ByteArray)).bind fun y102 => (if y102.length + x0.length < 8796093022208 then ((some (y102 ++ x0 : List ByteArray)).bind fun y105 => (if y105.length < 8796093022208 then (some ((y105 ++ [x1]), (x0.length : Int))) else (none))) else (none)))
def sennitref02_Id.f (k : Nat) (l0 : List ByteArray) (a1 : ByteArray) : Option (List ByteArray × Int) := sennitref02_Id.l0 k l0 a1 0
theorem sennitref02_Id.mono_l : ∀ k, (∀ y0 y1 y2, LeO (sennitref02_Id.l0 k y0 y1 y2) (sennitref02_Id.l0 (k + 1) y0 y1 y2))
  | 0 => fun _ _ _ r h => by simp [sennitref02_Id.l0] at h
  | k + 1 => by
    have ih0 := sennitref02_Id.mono_l k
    · intro y0 y1 y2
      unfold sennitref02_Id.l0
      repeat' first
      | (with_reducible exact ih0 _ _ _)
      | (with_reducible exact LeO.refl _)
      | (with_reducible exact LeO.none _)
      | (with_reducible refine LeO.ite ?_ ?_)
      | (with_reducible refine LeO.bind ?_ (fun _ => ?_))
      | exact ih0 _ _ _
      | exact LeO.none _
      | refine LeO.ite ?_ ?_
      | refine LeO.bind ?_ (fun _ => ?_)
theorem sennitref02_Id.mono : ∀ a0 a1 k, LeO (sennitref02_Id.f k a0 a1) (sennitref02_Id.f (k + 1) a0 a1) := by
  intro a0 a1 k
  have ih0 := sennitref02_Id.mono_l k
  unfold sennitref02_Id.f
  repeat' first
      | (with_reducible exact ih0 _ _ _)
      | (with_reducible exact LeO.refl _)
      | (with_reducible exact LeO.none _)
      | (with_reducible refine LeO.ite ?_ ?_)
      | (with_reducible refine LeO.bind ?_ (fun _ => ?_))
      | exact ih0 _ _ _
      | exact LeO.none _
      | refine LeO.ite ?_ ?_
      | refine LeO.bind ?_ (fun _ => ?_)
set_option maxHeartbeats 8000000 in
set_option maxRecDepth 100000 in
theorem sennitref02_Id.calls (k : Nat) (P0_ : Nat → Prop) (u9000_ : Value) (l0 : List ByteArray) (a1 : ByteArray) (r1 : List ByteArray) (r2 : Int) (w0 w : World) (hB : Below w0.heap.size w0 w) (ho0 : Kd.R Kd.string 9 w w0.heap.size P0_ u9000_ l0) (h : sennitref02_Id.f k l0 a1 = some (r1, r2)) :
    Calls Try.prog 75 #[u9000_, .string a1] w fun e w' => ∃ v0_ : Value, e = .returned (.tuple #[v0_, .int .i64 r2]) ∧ Kd.R Kd.string 9 w' w0.heap.size (fun k_ => (P0_ k_ ∨ w.heap.size ≤ k_)) v0_ r1 ∧ Below w0.heap.size w0 w' ∧ Kept w w' (fun k_ => P0_ k_) := by
  have HO0 := Aside0.mk (show Kd.R Kd.string 9 w w0.heap.size (fun k_ => (P0_ k_ ∨ w.heap.size ≤ k_)) u9000_ l0 from Kd.R_mono ho0 (fun k_ hk => (.inl hk)))
  have HK := Aside0.mk (Kept.refl w (fun k_ => P0_ k_))
  have HW0 := Aside0.mk hB.size
  have HB := Aside0.mk hB
  clear hB
  have H : (sennitref02_Id.l0 k l0 a1 0) = some (r1, r2) := h
  clear h
  have H' := Aside0.mk H
  clear H
  go_enter Try.func75, Try.ntmps75
  go_wp2
  go_loopg [6] k (fun kq v6 w' => ∃ (x6_1 : Int), v6 = .int .i64 x6_1 ∧ Aside0 (sennitref02_Id.l0 kq l0 a1 x6_1 = some (r1, r2)) ∧ Aside0 (kq ≤ k) ∧ Aside0 (Kd.R Kd.string 9 w' w0.heap.size (fun k_ => (P0_ k_ ∨ w.heap.size ≤ k_)) u9000_ l0) ∧ Aside0 (Kept w w' (fun k_ => P0_ k_)) ∧ Aside0 (Below w0.heap.size w0 w'))
  case atStart => exact ⟨(0), (by first | rfl | (simp; done) | (simp [*]; done)), H', ⟨Nat.le_refl _⟩, ⟨by (with_reducible repeat (first | apply Kd.R_alloc | apply Kd.R_drewN | apply Kd.R_drew)); exact HO0.out⟩, ⟨by repeat (first | (with_reducible first | exact HK.out | apply Kept.alloc | apply Kept.drewN | apply Kept.drew) | exact HK.out)⟩, ⟨by repeat (first | (with_reducible first | exact HB.out | apply below_alloc | apply pw_below_drewN | apply below_drew1) | exact HB.out)⟩⟩
  case round =>
    clear H'
    try clear p2
    obtain ⟨x6_1, rfl, HA, HK1, HO_0, HK, HB⟩ := hrel
    cases gk with
    | zero => exact absurd HA.out (by simp [sennitref02_Id.l0])
    | succ k1 =>
      have H := HA.out
      clear HA
      simp only [sennitref02_Id.l0] at H
      by_cases c3 : x6_1 < (l0.length : Int)
      · rw [if_pos c3] at H
        have c3b0 : decide (x6_1 < (l0.length : Int)) = true := decide_eq_true c3
        clear c3
        by_cases c4 : 0 ≤ x6_1
        · rw [if_pos c4] at H
          have c4b0 : decide (0 ≤ x6_1) = true := decide_eq_true c4
          clear c4
          by_cases c5 : (rdOf ByteArray.empty l0 x6_1).toList = a1.toList
          · rw [if_pos c5] at H
            have c5b0 : ((rdOf ByteArray.empty l0 x6_1).toList == a1.toList) = true := beq_iff_eq.mpr c5
            have c5b1 : ((rdOf ByteArray.empty l0 x6_1).toList != a1.toList) = false := bne_eq_false_iff_eq.mpr c5
            clear c5
            simp only [Option.some.injEq, Prod.mk.injEq] at H
            obtain ⟨rfl, rfl⟩ := H
            obtain ⟨Ao6, co6, eo6⟩ := Kd.R_slice HO_0.out
            subst eo6
            have p101 : 0 ≤ (x6_1 : Int) := of_decide_eq_true (by first | (with_reducible assumption) | assumption)
            have q101 : x6_1 < (l0.length : Int) := of_decide_eq_true (by first | (with_reducible assumption) | assumption)
            obtain ⟨ad101, e101, hx101_0⟩ := Kd.at_string (Kd.R_reads' HO_0.out).2.2 x6_1 p101 q101
            cases e101
            replace p101 := eq_true p101
            replace q101 := eq_true q101
            go_wp2
            go_ret2
            exact ⟨_, by first | rfl | (simp [errW_none, errW_some] <;> rfl) | (simp [*, errW_none, errW_some] <;> rfl), by (with_reducible repeat (first | apply Kd.R_alloc | apply Kd.R_drewN | apply Kd.R_drew)); exact HO_0.out, by repeat (first | (with_reducible first | exact HB.out | apply below_alloc | apply pw_below_drewN | apply below_drew1) | exact HB.out), by repeat (first | (with_reducible first | exact HK.out | apply Kept.alloc | apply Kept.drewN | apply Kept.drew) | exact HK.out)⟩
          · rw [if_neg c5] at H
            have c5b0 : ((rdOf ByteArray.empty l0 x6_1).toList == a1.toList) = false := beq_eq_false_iff_ne.mpr c5
            have c5b1 : ((rdOf ByteArray.empty l0 x6_1).toList != a1.toList) = true := bne_iff_ne.mpr c5
            have H' := Aside0.mk H
            clear H
            obtain ⟨Ao7, co7, eo7⟩ := Kd.R_slice HO_0.out
            subst eo7
            have p101 : 0 ≤ (x6_1 : Int) := of_decide_eq_true (by first | (with_reducible assumption) | assumption)
            have q101 : x6_1 < (l0.length : Int) := of_decide_eq_true (by first | (with_reducible assumption) | assumption)
            obtain ⟨ad101, e101, hx101_0⟩ := Kd.at_string (Kd.R_reads' HO_0.out).2.2 x6_1 p101 q101
            cases e101
            replace p101 := eq_true p101
            replace q101 := eq_true q101
            go_wp2
            go_roundg k1
            case measure => have := HK1.out; omega
            case rel => exact ⟨(wrap64 (x6_1 + 1)), (by first | rfl | (simp; done) | (simp [*]; done)), H', ⟨by have := HK1.out; omega⟩, ⟨by (with_reducible repeat (first | apply Kd.R_alloc | apply Kd.R_drewN | apply Kd.R_drew)); exact HO_0.out⟩, ⟨by repeat (first | (with_reducible first | exact HK.out | apply Kept.alloc | apply Kept.drewN | apply Kept.drew) | exact HK.out)⟩, ⟨by repeat (first | (with_reducible first | exact HB.out | apply below_alloc | apply pw_below_drewN | apply below_drew1) | exact HB.out)⟩⟩
        · rw [if_neg c4] at H
          exact absurd H (by simp)
      · rw [if_neg c3] at H
        have c3b0 : decide (x6_1 < (l0.length : Int)) = false := decide_eq_false c3
        clear c3
        obtain ⟨y102, hy102⟩ : ∃ y_ : List ByteArray, y_ = (([] : List ByteArray)) := ⟨_, rfl⟩
        replace H : (if y102.length + l0.length < 8796093022208 then ((some (y102 ++ l0 : List ByteArray)).bind fun y105 => (if y105.length < 8796093022208 then (some ((y105 ++ [a1]), (l0.length : Int))) else (none))) else (none)) = some (r1, r2) := by first | (rw [hy102]; with_reducible exact H) | (have H2_ := (Option.bind_some _ _).symm.trans H; rw [hy102]; with_reducible exact H2_) | (have H2_ := (Option.bind_some _ _).symm.trans H; with_reducible exact H2_) | with_reducible exact H | (rw [hy102]; exact H) | exact H
        have Ny102 := Aside0.mk hy102
        clear hy102
        by_cases c8 : y102.length + l0.length < 8796093022208
        · rw [if_pos c8] at H
          have LMc8 := Aside0.mk c8
          clear c8
          obtain ⟨y105, hy105⟩ : ∃ y_ : List ByteArray, y_ = (y102 ++ l0) := ⟨_, rfl⟩
          replace H : (if y105.length < 8796093022208 then (some ((y105 ++ [a1]), (l0.length : Int))) else (none)) = some (r1, r2) := by first | (rw [hy105]; with_reducible exact H) | (have H2_ := (Option.bind_some _ _).symm.trans H; rw [hy105]; with_reducible exact H2_) | (have H2_ := (Option.bind_some _ _).symm.trans H; with_reducible exact H2_) | with_reducible exact H | (rw [hy105]; exact H) | exact H
          have Ny105 := Aside0.mk hy105
          clear hy105
          by_cases c9 : y105.length < 8796093022208
          · rw [if_pos c9] at H
            have LMc9 := Aside0.mk c9
            clear c9
            obtain ⟨y108, hy108⟩ : ∃ y_ : List ByteArray, y_ = (y105 ++ [a1]) := ⟨_, rfl⟩
            replace H : (some (y108, (l0.length : Int))) = some (r1, r2) := by first | (rw [hy108]; with_reducible exact H) | (have H2_ := (Option.bind_some _ _).symm.trans H; rw [hy108]; with_reducible exact H2_) | (have H2_ := (Option.bind_some _ _).symm.trans H; with_reducible exact H2_) | with_reducible exact H | (rw [hy108]; exact H) | exact H
            have Ny108 := Aside0.mk hy108
            clear hy108
            simp only [Option.some.injEq, Prod.mk.injEq] at H
            obtain ⟨rfl, rfl⟩ := H
            obtain ⟨Ao10, co10, eo10⟩ := Kd.R_slice HO_0.out
            subst eo10
            go_wp2_with (first | ((with_reducible refine gate_dst (N := 22) rfl ?_); refine Kd.R_lit Kd.string _ 9 ?hg (N := 22) ?hd (xs := ([] : List ByteArray)) (inner := []) (ok := fun _ => True) (okp := fun _ => True) ?hr ?hp (fun _ hk => hk) trivial (Below.refl _ _) (Nat.le_refl _) (by simp) ?_; (case hd => rfl); (case hg => rfl); (case hr => first | (go_simp; done) | (go_simp; rfl)); (case hp => exact (Reps.none _ _)); intro v103 w11 ho12 hb hg_ hnew_; clear hg_ hnew_; (first | rw [← Ny102.out] at ho12 | (simp only [Int.reduceToNat] at ho12; rw [← Ny102.out] at ho12)); have n0_ := Aside0.mk (Kd.R_elder' (by (with_reducible repeat (first | apply Kd.R_alloc | apply Kd.R_drewN | apply Kd.R_drew)); exact HO_0.out) (Kd.R_base ho12) hb); have n1_ := Aside0.mk (Kd.R_lower (Kd.R_new' (Kd.R_newM (M := fun k_ => (P0_ k_ ∨ w.heap.size ≤ k_)) ho12 (by first | exact HK.out.1 | exact (show Kept w _ (fun k_ => P0_ k_) from by repeat (first | (with_reducible first | exact HK.out | apply Kept.alloc | apply Kept.drewN | apply Kept.drew) | exact HK.out)).1) (fun k_ h_ => .inr h_)) (Kd.R_lt (by (with_reducible repeat (first | apply Kd.R_alloc | apply Kd.R_drewN | apply Kd.R_drew)); exact HO_0.out))) (below_size (by repeat (first | (with_reducible first | exact HB.out | apply below_alloc | apply pw_below_drewN | apply below_drew1) | exact HB.out)))); have n2_ := Aside0.mk (Kept.below (S := (fun k_ => P0_ k_)) (by repeat (first | (with_reducible first | exact HK.out | apply Kept.alloc | apply Kept.drewN | apply Kept.drew) | exact HK.out)) hb); have n3_ := Aside0.mk (below_step (by repeat (first | (with_reducible first | exact HB.out | apply below_alloc | apply pw_below_drewN | apply below_drew1) | exact HB.out)) hb); clear HO_0; clear HK; clear HB; have HO_0 := n0_; have HO104 := n1_; have HK := n2_; have HB := n3_; clear n0_ n1_ n2_ n3_; clear hb ho12) | ((with_reducible refine gate_builtin (b := .append) (xs := #[.tmp 22, .tmp 23]) rfl ?_); at_builtin; refine Kd.R_append_rows Kd.string (w0 := w0) w0.heap.size rfl (.tmp 22) (.tmp 23) 34 9 (.string ⟨#[]⟩) 16 rfl Try.underlying34 info9 rfl (by decide) (by omega) v103 y102 l0 _ _ _ (fun k_ => (P0_ k_ ∨ w.heap.size ≤ k_) ∧ some k_ ≠ (.slice Ao10 l0.length co10 : Value).ownBlock) (fun _ => False) rfl rfl ?aO ?aR (fun _ _ h => h) (fun _ h => h.elim) ?aF ?aB ?aS ?aL ?_; (case aR => repeat (first | exact (Kd.R_reads' HO_0.out).2.2 | (with_reducible refine Kd.C_alloc ?_ _) | (with_reducible refine Kd.C_drewN ?_ _) | (with_reducible refine Kd.C_drew ?_))); (case aB => exact (by repeat (first | (with_reducible first | exact HB.out | apply below_alloc | apply pw_below_drewN | apply below_drew1) | exact HB.out))); (case aF => exact (fun k_ hk => ⟨(.inr (Nat.le_trans (by first | exact HK.out.1 | exact (show Kept w _ (fun k_ => P0_ k_) from by repeat (first | (with_reducible first | exact HK.out | apply Kept.alloc | apply Kept.drewN | apply Kept.drew) | exact HK.out)).1) hk)), Kd.fresh' (Kd.R_lt (by (with_reducible repeat (first | apply Kd.R_alloc | apply Kd.R_drewN | apply Kd.R_drew)); exact HO_0.out)) k_ hk⟩)); (case aO => exact (by (with_reducible repeat (first | apply Kd.R_alloc | apply Kd.R_drewN | apply Kd.R_drew)); exact Kd.R_mono HO104.out (fun _ hk => ⟨hk.1.1, hk.2⟩))); (case aS => exact (below_size (by repeat (first | (with_reducible first | exact HB.out | apply below_alloc | apply pw_below_drewN | apply below_drew1) | exact HB.out)))); (case aL => have := LMc8.out; omega); intro v106 w13 ho hb hg hat; rw [← Ny105.out] at ho; have n0_ := Aside0.mk (Kd.R_after (ok := (fun k_ => (P0_ k_ ∨ w.heap.size ≤ k_))) (by (with_reducible repeat (first | apply Kd.R_alloc | apply Kd.R_drewN | apply Kd.R_drew)); exact HO_0.out) hg hat); have n1_ := Aside0.mk (hb); have n2_ := Aside0.mk (Kept.of_grown (S := (fun k_ => P0_ k_)) hg (by repeat (first | (with_reducible first | exact HK.out | apply Kept.alloc | apply Kept.drewN | apply Kept.drew) | exact HK.out)) (fun k_ e_ => (HO104.out.1 k_ e_).1.1)); have n3_ := Aside0.mk (ho); clear HO_0; clear HB; clear HK; clear HO104; have HO_0 := n0_; have HB := n1_; have HK := n2_; have HO107 := n3_; clear n0_ n1_ n2_ n3_; clear ho hb hg hat) | ((with_reducible refine gate_builtin (b := .append) (xs := #[.tmp 25, .tmp 27]) rfl ?_); at_builtin; refine Kd.R_append Kd.string (w0 := w0) w0.heap.size rfl (.tmp 25) (.tmp 27) 34 9 (.string ⟨#[]⟩) 16 rfl Try.underlying34 info9 rfl (by decide) (by omega) v106 y105 a1 [.string a1] (fun k_ => (P0_ k_ ∨ w.heap.size ≤ k_) ∧ some k_ ≠ (.slice Ao10 l0.length co10 : Value).ownBlock) (fun _ => False) rfl rfl ?aP (fun _ hk => hk.elim) ?aF ?aO ?aB ?aS ?aL ?_; (case aP => exact rfl); (case aB => exact (by repeat (first | (with_reducible first | exact HB.out | apply below_alloc | apply pw_below_drewN | apply below_drew1) | exact HB.out))); (case aF => exact (fun k_ hk => ⟨(.inr (Nat.le_trans (by first | exact HK.out.1 | exact (show Kept w _ (fun k_ => P0_ k_) from by repeat (first | (with_reducible first | exact HK.out | apply Kept.alloc | apply Kept.drewN | apply Kept.drew) | exact HK.out)).1) hk)), Kd.fresh' (Kd.R_lt (by (with_reducible repeat (first | apply Kd.R_alloc | apply Kd.R_drewN | apply Kd.R_drew)); exact HO_0.out)) k_ hk⟩)); (case aO => exact (by (with_reducible repeat (first | apply Kd.R_alloc | apply Kd.R_drewN | apply Kd.R_drew)); exact HO107.out)); (case aS => exact (below_size (by repeat (first | (with_reducible first | exact HB.out | apply below_alloc | apply pw_below_drewN | apply below_drew1) | exact HB.out)))); (case aL => have := LMc9.out; omega); intro v109 w14 ho hb hg hat; rw [← Ny108.out] at ho; have n0_ := Aside0.mk (Kd.R_after (ok := (fun k_ => (P0_ k_ ∨ w.heap.size ≤ k_))) (by (with_reducible repeat (first | apply Kd.R_alloc | apply Kd.R_drewN | apply Kd.R_drew)); exact HO_0.out) hg hat); have n1_ := Aside0.mk (hb); have n2_ := Aside0.mk (Kept.of_grown (S := (fun k_ => P0_ k_)) hg (by repeat (first | (with_reducible first | exact HK.out | apply Kept.alloc | apply Kept.drewN | apply Kept.drew) | exact HK.out)) (fun k_ e_ => (HO107.out.1 k_ e_).1)); have n3_ := Aside0.mk (ho); clear HO_0; clear HB; clear HK; clear HO107; have HO_0 := n0_; have HB := n1_; have HK := n2_; have HO110 := n3_; clear n0_ n1_ n2_ n3_; clear ho hb hg hat))
            go_ret2
            exact ⟨_, by first | rfl | (simp [errW_none, errW_some] <;> rfl) | (simp [*, errW_none, errW_some] <;> rfl), by (with_reducible repeat (first | apply Kd.R_alloc | apply Kd.R_drewN | apply Kd.R_drew)); exact Kd.R_mono HO110.out (fun _ hk => hk.1), by repeat (first | (with_reducible first | exact HB.out | apply below_alloc | apply pw_below_drewN | apply below_drew1) | exact HB.out), by repeat (first | (with_reducible first | exact HK.out | apply Kept.alloc | apply Kept.drewN | apply Kept.drew) | exact HK.out)⟩
          · rw [if_neg c9] at H
            exact absurd H (by simp)
        · rw [if_neg c8] at H
          exact absurd H (by simp)

/-! ### sennitref02_All: function 48 -/
mutual
def sennitref02_All.l0 : Nat → List (List ByteArray) → List (List Int) → List ByteArray → Int → Option ((List (List Int)))
  | 0, _, _, _, _ => none
  | k + 1, x0, x3, x4, x5 => if x5 < (x0.length : Int) then (sennitref02_All.l1 k x0 x3 x4 x5 ([] : List Int) 0) else (some x3)
def sennitref02_All.l1 : Nat → List (List ByteArray) → List (List Int) → List ByteArray → Int → List Int → Int → Option ((List (List Int)))
  | 0, _, _, _, _, _, _ => none
  | k + 1, x0, x3, x4, x5, x6, x7 => if 0 ≤ x5 then (if x5 < (x0.length : Int) then (if x7 < ((rd_L1 x0 x5).length : Int) then (if 0 ≤ x7 then ((sennitref02_Id.f k x4 (rdOf ByteArray.empty (rd_L1 x0 x5) x7)).bind fun bt114 => (if x6.length < 17592186044416 then (sennitref02_All.l1 k x0 x3 bt114.1 x5 (x6 ++ [bt114.2]) (wrap64 (x7 + 1))) else (none))) else (none)) else (if x3.length < 5864062014805 then (sennitref02_All.l0 k x0 (x3 ++ [x6]) x4 (wrap64 (x5 + 1))) else (none))) else (none)) else (none)
end
def sennitref02_All.f (k : Nat) (l0 : List (List ByteArray)) : Option ((List (List Int))) := sennitref02_All.l0 k l0 ([] : List (List Int)) ([] : List ByteArray) 0
theorem sennitref02_All.mono_l : ∀ k, (∀ y0 y1 y2 y3, LeO (sennitref02_All.l0 k y0 y1 y2 y3) (sennitref02_All.l0 (k + 1) y0 y1 y2 y3)) ∧ (∀ y0 y1 y2 y3 y4 y5, LeO (sennitref02_All.l1 k y0 y1 y2 y3 y4 y5) (sennitref02_All.l1 (k + 1) y0 y1 y2 y3 y4 y5))
  | 0 => ⟨fun _ _ _ _ r h => by simp [sennitref02_All.l0] at h, fun _ _ _ _ _ _ r h => by simp [sennitref02_All.l1] at h⟩
  | k + 1 => by
    obtain ⟨ih0, ih1⟩ := sennitref02_All.mono_l k
    refine ⟨?_, ?_⟩
    · intro y0 y1 y2 y3
      unfold sennitref02_All.l0
      repeat' first
      | (with_reducible exact ih0 _ _ _ _)
      | (with_reducible exact ih1 _ _ _ _ _ _)
      | (with_reducible exact sennitref02_Id.mono _ _ _)
      | (with_reducible exact LeO.refl _)
      | (with_reducible exact LeO.none _)
      | (with_reducible refine LeO.ite ?_ ?_)
      | (with_reducible refine LeO.bind ?_ (fun _ => ?_))
      | exact ih0 _ _ _ _
      | exact ih1 _ _ _ _ _ _
      | exact sennitref02_Id.mono _ _ _
      | exact LeO.none _
      | refine LeO.ite ?_ ?_
      | refine LeO.bind ?_ (fun _ => ?_)
    · intro y0 y1 y2 y3 y4 y5
      unfold sennitref02_All.l1
      repeat' first
      | (with_reducible exact ih0 _ _ _ _)
      | (with_reducible exact ih1 _ _ _ _ _ _)
      | (with_reducible exact sennitref02_Id.mono _ _ _)
      | (with_reducible exact LeO.refl _)
      | (with_reducible exact LeO.none _)
      | (with_reducible refine LeO.ite ?_ ?_)
      | (with_reducible refine LeO.bind ?_ (fun _ => ?_))
      | exact ih0 _ _ _ _
      | exact ih1 _ _ _ _ _ _
      | exact sennitref02_Id.mono _ _ _
      | exact LeO.none _
      | refine LeO.ite ?_ ?_
      | refine LeO.bind ?_ (fun _ => ?_)
theorem sennitref02_All.mono : ∀ a0 k, LeO (sennitref02_All.f k a0) (sennitref02_All.f (k + 1) a0) := by
  intro a0 k
  obtain ⟨ih0, ih1⟩ := sennitref02_All.mono_l k
  unfold sennitref02_All.f
  repeat' first
      | (with_reducible exact ih0 _ _ _ _)
      | (with_reducible exact ih1 _ _ _ _ _ _)
      | (with_reducible exact sennitref02_Id.mono _ _ _)
      | (with_reducible exact LeO.refl _)
      | (with_reducible exact LeO.none _)
      | (with_reducible refine LeO.ite ?_ ?_)
      | (with_reducible refine LeO.bind ?_ (fun _ => ?_))
      | exact ih0 _ _ _ _
      | exact ih1 _ _ _ _ _ _
      | exact sennitref02_Id.mono _ _ _
      | exact LeO.none _
      | refine LeO.ite ?_ ?_
      | refine LeO.bind ?_ (fun _ => ?_)
set_option maxHeartbeats 8000000 in
set_option maxRecDepth 100000 in
theorem sennitref02_All.calls (k : Nat) (A0 : Option Addr) (c0 : Nat) (l0 : List (List ByteArray)) (r : List (List Int)) (w : World) (hr0 : Kd.C (Kd.slice 9 Kd.string) w A0 l0.length l0) (hc0 : l0.length ≤ c0) (h : sennitref02_All.f k l0 = some r) :
    Calls Try.prog 48 #[.slice A0 l0.length c0] w fun e w' => ∃ v0_ : Value, e = .returned (v0_) ∧ Kd.S (Kd.slice 3 (Kd.int .i64)) 49 w' w.heap.size (fun _ => True) v0_ r ∧ Below w.heap.size w w' := by
  have HR0 := Aside0.mk hr0
  have HC0 := Aside0.mk hc0
  clear hr0 hc0
  have HB := Aside0.mk (Below.refl w.heap.size w)
  have H : (sennitref02_All.l0 k l0 ([] : List (List Int)) ([] : List ByteArray) 0) = some r := h
  clear h
  have H' := Aside0.mk H
  clear H
  go_enter Try.func48, Try.ntmps48
  go_wp2
  go_loopg [3, 4, 5] k (fun kq v3 v4 v5 w' => ∃ (x3_1 : List (List Int)) (x4_1 : List ByteArray) (x5_1 : Int), v5 = .int .i64 x5_1 ∧ Aside0 (sennitref02_All.l0 kq l0 x3_1 x4_1 x5_1 = some r) ∧ Aside0 (kq ≤ k) ∧ Aside0 (Kd.S (Kd.slice 3 (Kd.int .i64)) 49 w' w.heap.size (fun _ => True) v3 x3_1) ∧ Aside0 (Kd.R Kd.string 9 w' w.heap.size (fun _ => True) v4 x4_1) ∧ Aside0 (Below w.heap.size w w'))
  case atStart => exact ⟨(([] : List (List Int))), (([] : List ByteArray)), (0), (by first | rfl | (simp; done) | (simp [*]; done)), H', ⟨Nat.le_refl _⟩, ⟨by first | exact Kd.S_nil _ _ _ _ _ | exact Kd.N_nil _ _ _ _ _ | exact Kd.V_nil _ _ _ _ _ | exact Kd.Q_nil _ _ _ _ _ | exact Kd.R_nil _ _ _ _ _⟩, ⟨by first | exact Kd.R_nil _ _ _ _ _ | exact Kd.N_nil _ _ _ _ _ | exact Kd.V_nil _ _ _ _ _ | exact Kd.Q_nil _ _ _ _ _ | exact Kd.S_nil _ _ _ _ _⟩, ⟨by repeat (first | (with_reducible first | exact HB.out | apply below_alloc | apply pw_below_drewN | apply below_drew1) | exact HB.out)⟩⟩
  case round =>
    clear H'
    obtain ⟨x3_1, x4_1, x5_1, rfl, HA, HK1, HO_3, HO_4, HB⟩ := hrel
    cases gk with
    | zero => exact absurd HA.out (by simp [sennitref02_All.l0])
    | succ k1 =>
      have H := HA.out
      clear HA
      simp only [sennitref02_All.l0] at H
      by_cases c2 : x5_1 < (l0.length : Int)
      · rw [if_pos c2] at H
        have c2b0 : decide (x5_1 < (l0.length : Int)) = true := decide_eq_true c2
        clear c2
        have H' := Aside0.mk H
        clear H
        go_wp2
        go_loopg [4, 6, 7] k1 (fun kq v4 v6 v7 w' => ∃ (x4_2 : List ByteArray) (x6_2 : List Int) (x7_2 : Int), v7 = .int .i64 x7_2 ∧ Aside0 (sennitref02_All.l1 kq l0 x3_1 x4_2 x5_1 x6_2 x7_2 = some r) ∧ Aside0 (kq ≤ k1) ∧ Aside0 (Kd.S (Kd.slice 3 (Kd.int .i64)) 49 w' w.heap.size (fun k_ => some k_ ≠ (v6 : Value).ownBlock) u3 x3_1) ∧ Aside0 (Kd.R Kd.string 9 w' w.heap.size (fun _ => True) v4 x4_2) ∧ Aside0 (Kd.R (Kd.int .i64) 3 w' w.heap.size (fun _ => True) v6 x6_2) ∧ Aside0 (Below w.heap.size w w'))
        case atStart => exact ⟨(x4_1), (([] : List Int)), (0), (by first | rfl | (simp; done) | (simp [*]; done)), H', ⟨Nat.le_refl _⟩, ⟨by (with_reducible repeat (first | apply Kd.S_alloc | apply Kd.S_drewN | apply Kd.S_drew)); exact Kd.S_mono HO_3.out (fun _ hk => (by simp [Value.ownBlock]))⟩, ⟨by (with_reducible repeat (first | apply Kd.R_alloc | apply Kd.R_drewN | apply Kd.R_drew)); exact HO_4.out⟩, ⟨by first | exact Kd.R_nil _ _ _ _ _ | exact Kd.N_nil _ _ _ _ _ | exact Kd.V_nil _ _ _ _ _ | exact Kd.Q_nil _ _ _ _ _ | exact Kd.S_nil _ _ _ _ _⟩, ⟨by repeat (first | (with_reducible first | exact HB.out | apply below_alloc | apply pw_below_drewN | apply below_drew1) | exact HB.out)⟩⟩
        case round =>
          clear H'
          try clear c2
          try clear c2b0
          try clear p2
          obtain ⟨x4_2, x6_2, x7_2, rfl, HA, HK2, HO_3, HO_4, HO_6, HB⟩ := hrel
          cases gk with
          | zero => exact absurd HA.out (by simp [sennitref02_All.l1])
          | succ k2 =>
            have H := HA.out
            clear HA
            simp only [sennitref02_All.l1] at H
            by_cases c3 : 0 ≤ x5_1
            · rw [if_pos c3] at H
              have c3b0 : decide (0 ≤ x5_1) = true := decide_eq_true c3
              clear c3
              by_cases c4 : x5_1 < (l0.length : Int)
              · rw [if_pos c4] at H
                have c4b0 : decide (x5_1 < (l0.length : Int)) = true := decide_eq_true c4
                clear c4
                by_cases c5 : x7_2 < ((rd_L1 l0 x5_1).length : Int)
                · rw [if_pos c5] at H
                  have c5b0 : decide (x7_2 < ((rd_L1 l0 x5_1).length : Int)) = true := decide_eq_true c5
                  clear c5
                  by_cases c6 : 0 ≤ x7_2
                  · rw [if_pos c6] at H
                    have c6b0 : decide (0 ≤ x7_2) = true := decide_eq_true c6
                    clear c6
                    replace H := Option.bind_eq_some_iff.mp H
                    obtain ⟨⟨t114, t117⟩, A70, H⟩ := H
                    replace H : (if x6_2.length < 17592186044416 then (sennitref02_All.l1 k2 l0 x3_1 t114 x5_1 (x6_2 ++ [t117]) (wrap64 (x7_2 + 1))) else (none)) = some r := H
                    have A7 := Aside0.mk A70
                    clear A70
                    by_cases c8 : x6_2.length < 17592186044416
                    · rw [if_pos c8] at H
                      have LMc8 := Aside0.mk c8
                      clear c8
                      obtain ⟨y118, hy118⟩ : ∃ y_ : List Int, y_ = (x6_2 ++ [t117]) := ⟨_, rfl⟩
                      replace H : (sennitref02_All.l1 k2 l0 x3_1 t114 x5_1 y118 (wrap64 (x7_2 + 1))) = some r := by first | (rw [hy118]; with_reducible exact H) | (have H2_ := (Option.bind_some _ _).symm.trans H; rw [hy118]; with_reducible exact H2_) | (have H2_ := (Option.bind_some _ _).symm.trans H; with_reducible exact H2_) | with_reducible exact H | (rw [hy118]; exact H) | exact H
                      have Ny118 := Aside0.mk hy118
                      clear hy118
                      have H' := Aside0.mk H
                      clear H
                      have p111 : 0 ≤ (x5_1 : Int) := of_decide_eq_true (by first | (with_reducible assumption) | assumption)
                      have q111 : x5_1 < (l0.length : Int) := of_decide_eq_true (by first | (with_reducible assumption) | assumption)
                      obtain ⟨ad111, A111_0, c111_0, e111, hx111_0, hl111_0, hi111_0⟩ := at_L1 HR0.out x5_1 p111 q111
                      cases e111
                      replace hx111_0 := (HB.out.cell (World.block_lt_of_cell? w _ hx111_0)).trans hx111_0
                      have HR111_0 := Aside0.mk hi111_0
                      have HC111_0 := Aside0.mk hl111_0
                      clear hi111_0 hl111_0
                      replace p111 := eq_true p111
                      replace q111 := eq_true q111
                      have p112 : 0 ≤ (x5_1 : Int) := of_decide_eq_true (by first | (with_reducible assumption) | assumption)
                      have q112 : x5_1 < (l0.length : Int) := of_decide_eq_true (by first | (with_reducible assumption) | assumption)
                      obtain ⟨ad112, A112_0, c112_0, e112, hx112_0, hl112_0, hi112_0⟩ := at_L1 HR0.out x5_1 p112 q112
                      obtain rfl : ad111 = ad112 := (by injection e112)
                      replace hx112_0 := (HB.out.cell (World.block_lt_of_cell? w _ hx112_0)).trans hx112_0
                      have HR112_0 := Aside0.mk hi112_0
                      have HC112_0 := Aside0.mk hl112_0
                      clear hi112_0 hl112_0
                      replace p112 := eq_true p112
                      replace q112 := eq_true q112
                      have ea_ := Option.some.inj (hx111_0.symm.trans hx112_0)
                      injection ea_ with ea_ en_ ec_
                      subst ea_
                      subst ec_
                      clear en_
                      have p113 : 0 ≤ (x7_2 : Int) := of_decide_eq_true (by first | (with_reducible assumption) | assumption)
                      have q113 : x7_2 < ((rd_L1 l0 x5_1).length : Int) := of_decide_eq_true (by first | (with_reducible assumption) | assumption)
                      obtain ⟨ad113, e113, hx113_0⟩ := Kd.at_string HR112_0.out x7_2 p113 q113
                      cases e113
                      replace hx113_0 := (HB.out.cell (World.block_lt_of_cell? w _ hx113_0)).trans hx113_0
                      replace p113 := eq_true p113
                      replace q113 := eq_true q113
                      obtain ⟨Ao9, co9, eo9⟩ := Kd.R_slice HO_4.out
                      subst eo9
                      go_wp2_with (first | ((with_reducible refine gate_callee (f := 75) rfl ?_); refine goesL_ (some 34) rfl rfl Try.func75 (by kernel_rfl) rfl #[.slice Ao9 x4_2.length co9, .string (rdOf ByteArray.empty (rd_L1 l0 x5_1) x7_2)] rfl (by (try simp only [List.map_toArray, List.map_cons, List.map_nil]); first | done | rfl | (simp only [List.length_drop, List.length_take]; rfl)) ?_; (with_reducible refine (sennitref02_Id.calls k2 (fun k_ => some k_ = (.slice Ao9 x4_2.length co9 : Value).ownBlock) (.slice Ao9 x4_2.length co9) x4_2 (rdOf ByteArray.empty (rd_L1 l0 x5_1) x7_2) t114 t117 w _ ?side1 ?side2 A7.out).mono ?_); (case side1 => repeat (first | (with_reducible first | exact HB.out | apply below_alloc | apply pw_below_drewN | apply below_drew1) | exact HB.out)); (case side2 => exact Kd.R_tight rfl HO_4.out); rintro e w10 ⟨v115, rfl, ho0, hb, hkp⟩; refine ⟨_, rfl, ?_⟩; have n0_ := Aside0.mk (Kd.S_mono (ok' := fun k_ => some k_ ≠ (u6 : Value).ownBlock) (Kd.S_keptB ((Kd.S_apart' HO_3.out (Kd.R_typed HO_4.out) (by decide))) hkp (fun k_ hk_ hs_ => (hk_.2) hs_)) (fun k_ hk_ => hk_.1.1)); have n1_ := Aside0.mk (Kd.R_mono (ok' := fun k_ => True) (Kd.R_keptB ((Kd.R_apart' HO_6.out (Kd.R_typed HO_4.out) (by decide))) hkp (fun k_ hk_ hs_ => (hk_.2) hs_)) (fun k_ hk_ => trivial)); have n2_ := Aside0.mk (Kd.R_mono (ok' := fun k_ => True) ho0 (fun k_ hk_ => trivial)); have n3_ := Aside0.mk (hb); clear HO_3; clear HO_6; clear HB; clear HO_4; have HO_3 := n0_; have HO_6 := n1_; have HO116 := n2_; have HB := n3_; clear n0_ n1_ n2_ n3_; (try clear hb); (try clear hkp); (try clear ho0)) | ((with_reducible refine gate_builtin (b := .append) (xs := #[.tmp 38, .tmp 40]) rfl ?_); at_builtin; refine Kd.R_append (Kd.int .i64) (w0 := w) w.heap.size rfl (.tmp 38) (.tmp 40) 49 3 (.int .i64 0) 8 rfl Try.underlying49 info3 rfl (by decide) (by omega) u6 x6_2 t117 [.int .i64 t117] (fun _ => True) (fun _ => False) rfl rfl ?aP (fun _ hk => hk.elim) ?aF ?aO ?aB ?aS ?aL ?_; (case aP => exact rfl); (case aB => exact (by repeat (first | (with_reducible first | exact HB.out | apply below_alloc | apply pw_below_drewN | apply below_drew1) | exact HB.out))); (case aF => exact (fun _ _ => trivial)); (case aO => exact (by (with_reducible repeat (first | apply Kd.R_alloc | apply Kd.R_drewN | apply Kd.R_drew)); exact HO_6.out)); (case aS => exact (below_size (by repeat (first | (with_reducible first | exact HB.out | apply below_alloc | apply pw_below_drewN | apply below_drew1) | exact HB.out)))); (case aL => have := LMc8.out; omega); intro v119 w11 ho hb hg hat; rw [← Ny118.out] at ho; have n0_ := Aside0.mk (Kd.S_after (ok := (fun _ => True)) (by (with_reducible repeat (first | apply Kd.S_alloc | apply Kd.S_drewN | apply Kd.S_drew)); exact Kd.S_mono HO_3.out (fun _ hk => ⟨trivial, hk⟩)) hg hat); have n1_ := Aside0.mk (Kd.R_over' (by (with_reducible repeat (first | apply Kd.R_alloc | apply Kd.R_drewN | apply Kd.R_drew)); exact HO116.out) (Kd.R_typed (by (with_reducible repeat (first | apply Kd.R_alloc | apply Kd.R_drewN | apply Kd.R_drew)); exact HO_6.out)) (by decide) hg); have n2_ := Aside0.mk (hb); have n3_ := Aside0.mk (ho); clear HO_3; clear HO116; clear HB; clear HO_6; have HO_3 := n0_; have HO116 := n1_; have HB := n2_; have HO120 := n3_; clear n0_ n1_ n2_ n3_; clear ho hb hg hat))
                      go_roundg k2
                      case measure => have := HK1.out; have := HK2.out; omega
                      case rel => exact ⟨(t114), (y118), (wrap64 (x7_2 + 1)), (by first | rfl | (simp; done) | (simp [*]; done)), H', ⟨by have := HK1.out; have := HK2.out; omega⟩, ⟨by (with_reducible repeat (first | apply Kd.S_alloc | apply Kd.S_drewN | apply Kd.S_drew)); exact Kd.S_mono HO_3.out (fun _ hk => hk.2)⟩, ⟨by (with_reducible repeat (first | apply Kd.R_alloc | apply Kd.R_drewN | apply Kd.R_drew)); exact HO116.out⟩, ⟨by (with_reducible repeat (first | apply Kd.R_alloc | apply Kd.R_drewN | apply Kd.R_drew)); exact HO120.out⟩, ⟨by repeat (first | (with_reducible first | exact HB.out | apply below_alloc | apply pw_below_drewN | apply below_drew1) | exact HB.out)⟩⟩
                    · rw [if_neg c8] at H
                      exact absurd H (by simp)
                  · rw [if_neg c6] at H
                    exact absurd H (by simp)
                · rw [if_neg c5] at H
                  have c5b0 : decide (x7_2 < ((rd_L1 l0 x5_1).length : Int)) = false := decide_eq_false c5
                  clear c5
                  by_cases c12 : x3_1.length < 5864062014805
                  · rw [if_pos c12] at H
                    have LMc12 := Aside0.mk c12
                    clear c12
                    obtain ⟨y121, hy121⟩ : ∃ y_ : List (List Int), y_ = (x3_1 ++ [x6_2]) := ⟨_, rfl⟩
                    replace H : (sennitref02_All.l0 k2 l0 y121 x4_2 (wrap64 (x5_1 + 1))) = some r := by first | (rw [hy121]; with_reducible exact H) | (have H2_ := (Option.bind_some _ _).symm.trans H; rw [hy121]; with_reducible exact H2_) | (have H2_ := (Option.bind_some _ _).symm.trans H; with_reducible exact H2_) | with_reducible exact H | (rw [hy121]; exact H) | exact H
                    have Ny121 := Aside0.mk hy121
                    clear hy121
                    have H' := Aside0.mk H
                    clear H
                    have p111 : 0 ≤ (x5_1 : Int) := of_decide_eq_true (by first | (with_reducible assumption) | assumption)
                    have q111 : x5_1 < (l0.length : Int) := of_decide_eq_true (by first | (with_reducible assumption) | assumption)
                    obtain ⟨ad111, A111_0, c111_0, e111, hx111_0, hl111_0, hi111_0⟩ := at_L1 HR0.out x5_1 p111 q111
                    cases e111
                    replace hx111_0 := (HB.out.cell (World.block_lt_of_cell? w _ hx111_0)).trans hx111_0
                    have HR111_0 := Aside0.mk hi111_0
                    have HC111_0 := Aside0.mk hl111_0
                    clear hi111_0 hl111_0
                    replace p111 := eq_true p111
                    replace q111 := eq_true q111
                    obtain ⟨Ao14, co14, eo14⟩ := Kd.R_slice HO_6.out
                    subst eo14
                    go_wp2_with (first | ((with_reducible refine gate_builtin (b := .append) (xs := #[.tmp 42, .tmp 44]) rfl ?_); at_builtin; refine Kd.S_append (Kd.slice 3 (Kd.int .i64)) (w0 := w) w.heap.size rfl (.tmp 42) (.tmp 44) 44 49 (.slice none 0 0) 24 rfl Try.underlying44 info49 rfl (by decide) (by omega) u3 x3_1 x6_2 [.slice Ao14 x6_2.length co14] (fun _ => True) (fun k_ => some k_ = (.slice Ao14 x6_2.length co14 : Value).ownBlock) rfl rfl ?aP (fun k_ hk_ => ((Kd.R_mono (ok' := fun k_ => ((fun _ => True)) k_ ∧ some k_ ≠ (u3 : Value).ownBlock) (Kd.R_apart' (HO_6.out) (Kd.S_typed HO_3.out) (by decide)) (fun k_ hk => ⟨trivial, hk.2⟩))).1 k_ hk_.symm) ?aF ?aO ?aB ?aS ?aL ?_; (case aP => exact Kd.M_row (Kd.R_mono (Kd.R_tight rfl (Kd.R_mono (ok' := fun k_ => ((fun _ => True)) k_ ∧ some k_ ≠ (u3 : Value).ownBlock) (Kd.R_apart' (HO_6.out) (Kd.S_typed HO_3.out) (by decide)) (fun k_ hk => ⟨trivial, hk.2⟩))) (fun _ h_ => h_))); (case aB => exact (by repeat (first | (with_reducible first | exact HB.out | apply below_alloc | apply pw_below_drewN | apply below_drew1) | exact HB.out))); (case aF => exact (fun _ _ => trivial)); (case aO => exact (by (with_reducible repeat (first | apply Kd.S_alloc | apply Kd.S_drewN | apply Kd.S_drew)); exact Kd.S_mono HO_3.out (fun k_ hk => ⟨trivial, fun e_ => hk e_⟩))); (case aS => exact (below_size (by repeat (first | (with_reducible first | exact HB.out | apply below_alloc | apply pw_below_drewN | apply below_drew1) | exact HB.out)))); (case aL => have := LMc12.out; omega); intro v122 w13 ho hb hg hat; rw [← Ny121.out] at ho; have n0_ := Aside0.mk (Kd.R_over' (by (with_reducible repeat (first | apply Kd.R_alloc | apply Kd.R_drewN | apply Kd.R_drew)); exact HO_4.out) (Kd.S_typed (by (with_reducible repeat (first | apply Kd.S_alloc | apply Kd.S_drewN | apply Kd.S_drew)); exact HO_3.out)) (by decide) hg); have n1_ := Aside0.mk (hb); have n2_ := Aside0.mk (ho); clear HO_4; clear HB; clear HO_3; clear HO_6; have HO_4 := n0_; have HB := n1_; have HO123 := n2_; clear n0_ n1_ n2_; clear ho hb hg hat))
                    go_roundg k2
                    case measure => have := HK1.out; have := HK2.out; omega
                    case rel => exact ⟨(y121), (x4_2), (wrap64 (x5_1 + 1)), (by first | rfl | (simp; done) | (simp [*]; done)), H', ⟨by have := HK1.out; have := HK2.out; omega⟩, ⟨by (with_reducible repeat (first | apply Kd.S_alloc | apply Kd.S_drewN | apply Kd.S_drew)); exact HO123.out⟩, ⟨by (with_reducible repeat (first | apply Kd.R_alloc | apply Kd.R_drewN | apply Kd.R_drew)); exact HO_4.out⟩, ⟨by repeat (first | (with_reducible first | exact HB.out | apply below_alloc | apply pw_below_drewN | apply below_drew1) | exact HB.out)⟩⟩
                  · rw [if_neg c12] at H
                    exact absurd H (by simp)
              · rw [if_neg c4] at H
                exact absurd H (by simp)
            · rw [if_neg c3] at H
              exact absurd H (by simp)
      · rw [if_neg c2] at H
        have c2b0 : decide (x5_1 < (l0.length : Int)) = false := decide_eq_false c2
        clear c2
        obtain rfl := Option.some.inj H
        go_wp2
        go_ret
        exact ⟨_, by first | rfl | (simp [errW_none, errW_some] <;> rfl) | (simp [*, errW_none, errW_some] <;> rfl), by (with_reducible repeat (first | apply Kd.S_alloc | apply Kd.S_drewN | apply Kd.S_drew)); exact HO_3.out, by repeat (first | (with_reducible first | exact HB.out | apply below_alloc | apply pw_below_drewN | apply below_drew1) | exact HB.out)⟩

/-! ### sennitref03_rest: function 76 -/
mutual
def sennitref03_rest.l0 : Nat → List Int → List Int → Int → List Int → Int → Option (List Int)
  | 0, _, _, _, _, _ => none
  | k + 1, x0, x1, x5, x6, x7 => if x7 ≥ 0 then (sennitref03_rest.l1 k x0 x1 x5 x6 x7 (wrap64 ((x1.length : Int) - 1))) else (some x6)
def sennitref03_rest.l1 : Nat → List Int → List Int → Int → List Int → Int → Int → Option (List Int)
  | 0, _, _, _, _, _, _ => none
  | k + 1, x0, x1, x5, x6, x7, x8 => if x8 ≥ 0 then (if 0 ≤ (wrap64 ((wrap64 ((wrap64 (x7 + 1)) * x5)) + x8)) then (if (wrap64 ((wrap64 ((wrap64 (x7 + 1)) * x5)) + x8)) < (x6.length : Int) then (if 0 ≤ (wrap64 ((wrap64 ((wrap64 (x7 * x5)) + x8)) + 1)) then (if (wrap64 ((wrap64 ((wrap64 (x7 * x5)) + x8)) + 1)) < (x6.length : Int) then (if 0 ≤ x7 then (if x7 < (x0.length : Int) then (if 0 ≤ x8 then (if x8 < (x1.length : Int) then (if (rd x0 x7) = (rd x1 x8) then (if 0 ≤ (wrap64 ((wrap64 ((wrap64 ((wrap64 (x7 + 1)) * x5)) + x8)) + 1)) then (if (wrap64 ((wrap64 ((wrap64 ((wrap64 (x7 + 1)) * x5)) + x8)) + 1)) < (x6.length : Int) then (if 0 ≤ (wrap64 ((wrap64 (x7 * x5)) + x8)) then (if (wrap64 ((wrap64 (x7 * x5)) + x8)) < (x6.length : Int) then (sennitref03_rest.l1 k x0 x1 x5 (x6.set ((wrap64 ((wrap64 (x7 * x5)) + x8)) : Int).toNat (mx (mx (rd x6 (wrap64 ((wrap64 ((wrap64 (x7 + 1)) * x5)) + x8))) (rd x6 (wrap64 ((wrap64 ((wrap64 (x7 * x5)) + x8)) + 1)))) (wrap64 ((rd x6 (wrap64 ((wrap64 ((wrap64 ((wrap64 (x7 + 1)) * x5)) + x8)) + 1))) + 1)))) x7 (wrap64 (x8 - 1))) else (none)) else (none)) else (none)) else (none)) else (if 0 ≤ (wrap64 ((wrap64 (x7 * x5)) + x8)) then (if (wrap64 ((wrap64 (x7 * x5)) + x8)) < (x6.length : Int) then (sennitref03_rest.l1 k x0 x1 x5 (x6.set ((wrap64 ((wrap64 (x7 * x5)) + x8)) : Int).toNat (mx (rd x6 (wrap64 ((wrap64 ((wrap64 (x7 + 1)) * x5)) + x8))) (rd x6 (wrap64 ((wrap64 ((wrap64 (x7 * x5)) + x8)) + 1))))) x7 (wrap64 (x8 - 1))) else (none)) else (none))) else (none)) else (none)) else (none)) else (none)) else (none)) else (none)) else (none)) else (none)) else (sennitref03_rest.l0 k x0 x1 x5 x6 (wrap64 (x7 - 1)))
end
def sennitref03_rest.f (k : Nat) (l0 : List Int) (l1 : List Int) : Option (List Int) := if 0 ≤ (wrap64 ((wrap64 ((l0.length : Int) + 1)) * (wrap64 ((l1.length : Int) + 1)))) then (if (wrap64 ((wrap64 ((l0.length : Int) + 1)) * (wrap64 ((l1.length : Int) + 1))) : Int).toNat ≤ 35184372088832 then (sennitref03_rest.l0 k l0 l1 (wrap64 ((l1.length : Int) + 1)) (List.replicate (wrap64 ((wrap64 ((l0.length : Int) + 1)) * (wrap64 ((l1.length : Int) + 1))) : Int).toNat 0) (wrap64 ((l0.length : Int) - 1))) else (none)) else (none)
theorem sennitref03_rest.mono_l : ∀ k, (∀ y0 y1 y2 y3 y4, LeO (sennitref03_rest.l0 k y0 y1 y2 y3 y4) (sennitref03_rest.l0 (k + 1) y0 y1 y2 y3 y4)) ∧ (∀ y0 y1 y2 y3 y4 y5, LeO (sennitref03_rest.l1 k y0 y1 y2 y3 y4 y5) (sennitref03_rest.l1 (k + 1) y0 y1 y2 y3 y4 y5))
  | 0 => ⟨fun _ _ _ _ _ r h => by simp [sennitref03_rest.l0] at h, fun _ _ _ _ _ _ r h => by simp [sennitref03_rest.l1] at h⟩
  | k + 1 => by
    obtain ⟨ih0, ih1⟩ := sennitref03_rest.mono_l k
    refine ⟨?_, ?_⟩
    · intro y0 y1 y2 y3 y4
      unfold sennitref03_rest.l0
      repeat' first
      | (with_reducible exact ih0 _ _ _ _ _)
      | (with_reducible exact ih1 _ _ _ _ _ _)
      | (with_reducible exact LeO.refl _)
      | (with_reducible exact LeO.none _)
      | (with_reducible refine LeO.ite ?_ ?_)
      | (with_reducible refine LeO.bind ?_ (fun _ => ?_))
      | exact ih0 _ _ _ _ _
      | exact ih1 _ _ _ _ _ _
      | exact LeO.none _
      | refine LeO.ite ?_ ?_
      | refine LeO.bind ?_ (fun _ => ?_)
    · intro y0 y1 y2 y3 y4 y5
      unfold sennitref03_rest.l1
      repeat' first
      | (with_reducible exact ih0 _ _ _ _ _)
      | (with_reducible exact ih1 _ _ _ _ _ _)
      | (with_reducible exact LeO.refl _)
      | (with_reducible exact LeO.none _)
      | (with_reducible refine LeO.ite ?_ ?_)
      | (with_reducible refine LeO.bind ?_ (fun _ => ?_))
      | exact ih0 _ _ _ _ _
      | exact ih1 _ _ _ _ _ _
      | exact LeO.none _
      | refine LeO.ite ?_ ?_
      | refine LeO.bind ?_ (fun _ => ?_)
theorem sennitref03_rest.mono : ∀ a0 a1 k, LeO (sennitref03_rest.f k a0 a1) (sennitref03_rest.f (k + 1) a0 a1) := by
  intro a0 a1 k
  obtain ⟨ih0, ih1⟩ := sennitref03_rest.mono_l k
  unfold sennitref03_rest.f
  repeat' first
      | (with_reducible exact ih0 _ _ _ _ _)
      | (with_reducible exact ih1 _ _ _ _ _ _)
      | (with_reducible exact LeO.refl _)
      | (with_reducible exact LeO.none _)
      | (with_reducible refine LeO.ite ?_ ?_)
      | (with_reducible refine LeO.bind ?_ (fun _ => ?_))
      | exact ih0 _ _ _ _ _
      | exact ih1 _ _ _ _ _ _
      | exact LeO.none _
      | refine LeO.ite ?_ ?_
      | refine LeO.bind ?_ (fun _ => ?_)
set_option maxHeartbeats 8000000 in
set_option maxRecDepth 100000 in
theorem sennitref03_rest.calls (k : Nat) (A0 : Option Addr) (c0 : Nat) (l0 : List Int) (A1 : Option Addr) (c1 : Nat) (l1 : List Int) (r : List Int) (w : World) (hr0 : Kd.C (Kd.int .i64) w A0 l0.length l0) (hc0 : l0.length ≤ c0) (hr1 : Kd.C (Kd.int .i64) w A1 l1.length l1) (hc1 : l1.length ≤ c1) (h : sennitref03_rest.f k l0 l1 = some r) :
    Calls Try.prog 76 #[.slice A0 l0.length c0, .slice A1 l1.length c1] w fun e w' => ∃ v0_ : Value, e = .returned (v0_) ∧ Kd.R (Kd.int .i64) 3 w' w.heap.size (fun _ => True) v0_ r ∧ Below w.heap.size w w' := by
  have HR0 := Aside0.mk hr0
  have HC0 := Aside0.mk hc0
  clear hr0 hc0
  have HR1 := Aside0.mk hr1
  have HC1 := Aside0.mk hc1
  clear hr1 hc1
  have HB := Aside0.mk (Below.refl w.heap.size w)
  have H : (if 0 ≤ (wrap64 ((wrap64 ((l0.length : Int) + 1)) * (wrap64 ((l1.length : Int) + 1)))) then (if (wrap64 ((wrap64 ((l0.length : Int) + 1)) * (wrap64 ((l1.length : Int) + 1))) : Int).toNat ≤ 35184372088832 then (sennitref03_rest.l0 k l0 l1 (wrap64 ((l1.length : Int) + 1)) (List.replicate (wrap64 ((wrap64 ((l0.length : Int) + 1)) * (wrap64 ((l1.length : Int) + 1))) : Int).toNat 0) (wrap64 ((l0.length : Int) - 1))) else (none)) else (none)) = some r := h
  clear h
  obtain ⟨ji3, hji3⟩ : ∃ j_ : Int, (wrap64 ((wrap64 ((l0.length : Int) + 1)) * (wrap64 ((l1.length : Int) + 1)))) = j_ := ⟨_, rfl⟩
  replace H : (if 0 ≤ (ji3) then (if (ji3 : Int).toNat ≤ 35184372088832 then (sennitref03_rest.l0 k l0 l1 (wrap64 ((l1.length : Int) + 1)) (List.replicate (ji3 : Int).toNat 0) (wrap64 ((l0.length : Int) - 1))) else (none)) else (none)) = some r := by first | (rw [hji3] at H; exact H) | (simp only [hji3] at H ⊢; exact H)
  have hji3w : (IntKind.i64.wrap ((wrap64 ((l0.length : Int) + 1)) * (wrap64 ((l1.length : Int) + 1)))) = ji3 := (i64_w _).trans hji3
  by_cases c4 : 0 ≤ (ji3)
  · rw [if_pos c4] at H
    have c4b0 := eq_true c4
    have c4b1 : decide (0 ≤ (ji3)) = true := decide_eq_true c4
    clear c4
    by_cases c5 : (ji3 : Int).toNat ≤ 35184372088832
    · rw [if_pos c5] at H
      have c5b0 := eq_true c5
      have c5b1 : decide ((ji3 : Int).toNat ≤ 35184372088832) = true := decide_eq_true c5
      clear c5
      obtain ⟨y124, hy124⟩ : ∃ y_ : List Int, y_ = (List.replicate (ji3 : Int).toNat 0) := ⟨_, rfl⟩
      replace H : (sennitref03_rest.l0 k l0 l1 (wrap64 ((l1.length : Int) + 1)) y124 (wrap64 ((l0.length : Int) - 1))) = some r := by first | (rw [hy124]; with_reducible exact H) | (have H2_ := (Option.bind_some _ _).symm.trans H; rw [hy124]; with_reducible exact H2_) | (have H2_ := (Option.bind_some _ _).symm.trans H; with_reducible exact H2_) | with_reducible exact H | (rw [hy124]; exact H) | exact H
      have Ny124 := Aside0.mk hy124
      clear hy124
      have H' := Aside0.mk H
      clear H
      go_enter Try.func76, Try.ntmps76
      go_wp2_with (first | ((with_reducible refine gate_dst (N := 18) rfl ?_); refine Kd.R_make (Kd.int .i64) _ 3 rfl (N := 18) rfl 49 _ _ rfl ji3 rfl rfl Try.underlying49 (.int .i64 0) 8 info3 rfl (by decide) (by omega) 0 (ok := fun _ => True) (okp := fun _ => True) rfl (fun _ hk => hk) trivial (of_decide_eq_true (by first | (with_reducible assumption) | assumption)) (Nat.le_trans (Nat.mul_le_mul_right _ (of_decide_eq_true (by first | (with_reducible assumption) | assumption) : ji3.toNat ≤ 35184372088832)) (by omega)) (Below.refl _ _) (Nat.le_refl _) ?_; intro v125 w6 ho7 hb hg_ hnew_; clear hg_ hnew_; (first | rw [← Ny124.out] at ho7 | (simp only [Int.reduceToNat] at ho7; rw [← Ny124.out] at ho7)); have n0_ := Aside0.mk (Kd.R_lower ho7 (below_size (by repeat (first | (with_reducible first | exact HB.out | apply below_alloc | apply pw_below_drewN | apply below_drew1) | exact HB.out)))); have n1_ := Aside0.mk (below_step (by repeat (first | (with_reducible first | exact HB.out | apply below_alloc | apply pw_below_drewN | apply below_drew1) | exact HB.out)) hb); clear HB; have HO126 := n0_; have HB := n1_; clear n0_ n1_; clear hb ho7))
      have hW64_ : ∀ x : Int, IntKind.i64.wrap x = wrap64 x := i64_w
      repeat (go_quiet (first | ((with_reducible refine gate_dst (N := 18) rfl ?_); refine Kd.R_make (Kd.int .i64) _ 3 rfl (N := 18) rfl 49 _ _ rfl ji3 rfl rfl Try.underlying49 (.int .i64 0) 8 info3 rfl (by decide) (by omega) 0 (ok := fun _ => True) (okp := fun _ => True) rfl (fun _ hk => hk) trivial (of_decide_eq_true (by first | (with_reducible assumption) | assumption)) (Nat.le_trans (Nat.mul_le_mul_right _ (of_decide_eq_true (by first | (with_reducible assumption) | assumption) : ji3.toNat ≤ 35184372088832)) (by omega)) (Below.refl _ _) (Nat.le_refl _) ?_; intro v125 w6 ho7 hb hg_ hnew_; clear hg_ hnew_; (first | rw [← Ny124.out] at ho7 | (simp only [Int.reduceToNat] at ho7; rw [← Ny124.out] at ho7)); have n0_ := Aside0.mk (Kd.R_lower ho7 (below_size (by repeat (first | (with_reducible first | exact HB.out | apply below_alloc | apply pw_below_drewN | apply below_drew1) | exact HB.out)))); have n1_ := Aside0.mk (below_step (by repeat (first | (with_reducible first | exact HB.out | apply below_alloc | apply pw_below_drewN | apply below_drew1) | exact HB.out)) hb); clear HB; have HO126 := n0_; have HB := n1_; clear n0_ n1_; clear hb ho7)); try go_wp2_with (first | ((with_reducible refine gate_dst (N := 18) rfl ?_); refine Kd.R_make (Kd.int .i64) _ 3 rfl (N := 18) rfl 49 _ _ rfl ji3 rfl rfl Try.underlying49 (.int .i64 0) 8 info3 rfl (by decide) (by omega) 0 (ok := fun _ => True) (okp := fun _ => True) rfl (fun _ hk => hk) trivial (of_decide_eq_true (by first | (with_reducible assumption) | assumption)) (Nat.le_trans (Nat.mul_le_mul_right _ (of_decide_eq_true (by first | (with_reducible assumption) | assumption) : ji3.toNat ≤ 35184372088832)) (by omega)) (Below.refl _ _) (Nat.le_refl _) ?_; intro v125 w6 ho7 hb hg_ hnew_; clear hg_ hnew_; (first | rw [← Ny124.out] at ho7 | (simp only [Int.reduceToNat] at ho7; rw [← Ny124.out] at ho7)); have n0_ := Aside0.mk (Kd.R_lower ho7 (below_size (by repeat (first | (with_reducible first | exact HB.out | apply below_alloc | apply pw_below_drewN | apply below_drew1) | exact HB.out)))); have n1_ := Aside0.mk (below_step (by repeat (first | (with_reducible first | exact HB.out | apply below_alloc | apply pw_below_drewN | apply below_drew1) | exact HB.out)) hb); clear HB; have HO126 := n0_; have HB := n1_; clear n0_ n1_; clear hb ho7)))
      go_loopg [7] k (fun kq v7 w' => ∃ (x6_1 : List Int) (x7_1 : Int), v7 = .int .i64 x7_1 ∧ Aside0 (sennitref03_rest.l0 kq l0 l1 (wrap64 ((l1.length : Int) + 1)) x6_1 x7_1 = some r) ∧ Aside0 (kq ≤ k) ∧ Aside0 (Kd.R (Kd.int .i64) 3 w' w.heap.size (fun _ => True) v125 x6_1) ∧ Aside0 (Below w.heap.size w w'))
      case atStart => exact ⟨(y124), (wrap64 ((l0.length : Int) - 1)), (by first | rfl | (simp; done) | (simp [*]; done)), H', ⟨Nat.le_refl _⟩, ⟨by (with_reducible repeat (first | apply Kd.R_alloc | apply Kd.R_drewN | apply Kd.R_drew)); exact HO126.out⟩, ⟨by repeat (first | (with_reducible first | exact HB.out | apply below_alloc | apply pw_below_drewN | apply below_drew1) | exact HB.out)⟩⟩
      case round =>
        clear H'
        try clear c1
        try clear p2
        try clear c4
        try clear c4b0
        try clear c4b1
        try clear c5
        try clear c5b0
        try clear c5b1
        try clear p6
        try clear c7
        obtain ⟨x6_1, x7_1, rfl, HA, HK1, HO_6, HB⟩ := hrel
        cases gk with
        | zero => exact absurd HA.out (by simp [sennitref03_rest.l0])
        | succ k1 =>
          have H := HA.out
          clear HA
          simp only [sennitref03_rest.l0] at H
          by_cases c8 : x7_1 ≥ 0
          · rw [if_pos c8] at H
            have c8b0 : decide (0 ≤ x7_1) = true := decide_eq_true c8
            clear c8
            have H' := Aside0.mk H
            clear H
            go_wp2
            have hW64_ : ∀ x : Int, IntKind.i64.wrap x = wrap64 x := i64_w
            repeat (go_quiet (fail); try go_wp2)
            go_loopg [8] k1 (fun kq v8 w' => ∃ (x6_2 : List Int) (x8_2 : Int), v8 = .int .i64 x8_2 ∧ Aside0 (sennitref03_rest.l1 kq l0 l1 (wrap64 ((l1.length : Int) + 1)) x6_2 x7_1 x8_2 = some r) ∧ Aside0 (kq ≤ k1) ∧ Aside0 (Kd.R (Kd.int .i64) 3 w' w.heap.size (fun _ => True) v125 x6_2) ∧ Aside0 (Below w.heap.size w w'))
            case atStart => exact ⟨(x6_1), (wrap64 ((l1.length : Int) - 1)), (by first | rfl | (simp; done) | (simp [*]; done)), H', ⟨Nat.le_refl _⟩, ⟨by (with_reducible repeat (first | apply Kd.R_alloc | apply Kd.R_drewN | apply Kd.R_drew)); exact HO_6.out⟩, ⟨by repeat (first | (with_reducible first | exact HB.out | apply below_alloc | apply pw_below_drewN | apply below_drew1) | exact HB.out)⟩⟩
            case round =>
              clear H'
              try clear c1
              try clear p2
              try clear c4
              try clear c4b0
              try clear c4b1
              try clear c5
              try clear c5b0
              try clear c5b1
              try clear p6
              try clear c7
              try clear c8
              try clear c8b0
              try clear p2
              try clear p6
              obtain ⟨x6_2, x8_2, rfl, HA, HK2, HO_6, HB⟩ := hrel
              cases gk with
              | zero => exact absurd HA.out (by simp [sennitref03_rest.l1])
              | succ k2 =>
                have H := HA.out
                clear HA
                simp only [sennitref03_rest.l1] at H
                by_cases c9 : x8_2 ≥ 0
                · rw [if_pos c9] at H
                  have c9b0 : decide (0 ≤ x8_2) = true := decide_eq_true c9
                  clear c9
                  obtain ⟨ji10, hji10⟩ : ∃ j_ : Int, (wrap64 ((wrap64 ((wrap64 (x7_1 + 1)) * (wrap64 ((l1.length : Int) + 1)))) + x8_2)) = j_ := ⟨_, rfl⟩
                  replace H : (if 0 ≤ (ji10) then (if (ji10) < (x6_2.length : Int) then (if 0 ≤ (wrap64 ((wrap64 ((wrap64 (x7_1 * (wrap64 ((l1.length : Int) + 1)))) + x8_2)) + 1)) then (if (wrap64 ((wrap64 ((wrap64 (x7_1 * (wrap64 ((l1.length : Int) + 1)))) + x8_2)) + 1)) < (x6_2.length : Int) then (if 0 ≤ x7_1 then (if x7_1 < (l0.length : Int) then (if 0 ≤ x8_2 then (if x8_2 < (l1.length : Int) then (if (rd l0 x7_1) = (rd l1 x8_2) then (if 0 ≤ (wrap64 ((ji10) + 1)) then (if (wrap64 ((ji10) + 1)) < (x6_2.length : Int) then (if 0 ≤ (wrap64 ((wrap64 (x7_1 * (wrap64 ((l1.length : Int) + 1)))) + x8_2)) then (if (wrap64 ((wrap64 (x7_1 * (wrap64 ((l1.length : Int) + 1)))) + x8_2)) < (x6_2.length : Int) then (sennitref03_rest.l1 k2 l0 l1 (wrap64 ((l1.length : Int) + 1)) (x6_2.set ((wrap64 ((wrap64 (x7_1 * (wrap64 ((l1.length : Int) + 1)))) + x8_2)) : Int).toNat (mx (mx (rd x6_2 (ji10)) (rd x6_2 (wrap64 ((wrap64 ((wrap64 (x7_1 * (wrap64 ((l1.length : Int) + 1)))) + x8_2)) + 1)))) (wrap64 ((rd x6_2 (wrap64 ((ji10) + 1))) + 1)))) x7_1 (wrap64 (x8_2 - 1))) else (none)) else (none)) else (none)) else (none)) else (if 0 ≤ (wrap64 ((wrap64 (x7_1 * (wrap64 ((l1.length : Int) + 1)))) + x8_2)) then (if (wrap64 ((wrap64 (x7_1 * (wrap64 ((l1.length : Int) + 1)))) + x8_2)) < (x6_2.length : Int) then (sennitref03_rest.l1 k2 l0 l1 (wrap64 ((l1.length : Int) + 1)) (x6_2.set ((wrap64 ((wrap64 (x7_1 * (wrap64 ((l1.length : Int) + 1)))) + x8_2)) : Int).toNat (mx (rd x6_2 (ji10)) (rd x6_2 (wrap64 ((wrap64 ((wrap64 (x7_1 * (wrap64 ((l1.length : Int) + 1)))) + x8_2)) + 1))))) x7_1 (wrap64 (x8_2 - 1))) else (none)) else (none))) else (none)) else (none)) else (none)) else (none)) else (none)) else (none)) else (none)) else (none)) = some r := by first | (rw [hji10] at H; exact H) | (simp only [hji10] at H ⊢; exact H)
                  have hji10w : (IntKind.i64.wrap ((wrap64 ((wrap64 (x7_1 + 1)) * (wrap64 ((l1.length : Int) + 1)))) + x8_2)) = ji10 := (i64_w _).trans hji10
                  by_cases c11 : 0 ≤ (ji10)
                  · rw [if_pos c11] at H
                    have c11b0 : decide (0 ≤ (ji10)) = true := decide_eq_true c11
                    clear c11
                    by_cases c12 : (ji10) < (x6_2.length : Int)
                    · rw [if_pos c12] at H
                      have c12b0 : decide ((ji10) < (x6_2.length : Int)) = true := decide_eq_true c12
                      clear c12
                      obtain ⟨ji13, hji13⟩ : ∃ j_ : Int, (wrap64 ((wrap64 ((wrap64 (x7_1 * (wrap64 ((l1.length : Int) + 1)))) + x8_2)) + 1)) = j_ := ⟨_, rfl⟩
                      replace H : (if 0 ≤ (ji13) then (if (ji13) < (x6_2.length : Int) then (if 0 ≤ x7_1 then (if x7_1 < (l0.length : Int) then (if 0 ≤ x8_2 then (if x8_2 < (l1.length : Int) then (if (rd l0 x7_1) = (rd l1 x8_2) then (if 0 ≤ (wrap64 ((ji10) + 1)) then (if (wrap64 ((ji10) + 1)) < (x6_2.length : Int) then (if 0 ≤ (wrap64 ((wrap64 (x7_1 * (wrap64 ((l1.length : Int) + 1)))) + x8_2)) then (if (wrap64 ((wrap64 (x7_1 * (wrap64 ((l1.length : Int) + 1)))) + x8_2)) < (x6_2.length : Int) then (sennitref03_rest.l1 k2 l0 l1 (wrap64 ((l1.length : Int) + 1)) (x6_2.set ((wrap64 ((wrap64 (x7_1 * (wrap64 ((l1.length : Int) + 1)))) + x8_2)) : Int).toNat (mx (mx (rd x6_2 (ji10)) (rd x6_2 (ji13))) (wrap64 ((rd x6_2 (wrap64 ((ji10) + 1))) + 1)))) x7_1 (wrap64 (x8_2 - 1))) else (none)) else (none)) else (none)) else (none)) else (if 0 ≤ (wrap64 ((wrap64 (x7_1 * (wrap64 ((l1.length : Int) + 1)))) + x8_2)) then (if (wrap64 ((wrap64 (x7_1 * (wrap64 ((l1.length : Int) + 1)))) + x8_2)) < (x6_2.length : Int) then (sennitref03_rest.l1 k2 l0 l1 (wrap64 ((l1.length : Int) + 1)) (x6_2.set ((wrap64 ((wrap64 (x7_1 * (wrap64 ((l1.length : Int) + 1)))) + x8_2)) : Int).toNat (mx (rd x6_2 (ji10)) (rd x6_2 (ji13)))) x7_1 (wrap64 (x8_2 - 1))) else (none)) else (none))) else (none)) else (none)) else (none)) else (none)) else (none)) else (none)) = some r := by first | (rw [hji13] at H; exact H) | (simp only [hji13] at H ⊢; exact H)
                      have hji13w : (IntKind.i64.wrap ((wrap64 ((wrap64 (x7_1 * (wrap64 ((l1.length : Int) + 1)))) + x8_2)) + 1)) = ji13 := (i64_w _).trans hji13
                      by_cases c14 : 0 ≤ (ji13)
                      · rw [if_pos c14] at H
                        have c14b0 : decide (0 ≤ (ji13)) = true := decide_eq_true c14
                        clear c14
                        by_cases c15 : (ji13) < (x6_2.length : Int)
                        · rw [if_pos c15] at H
                          have c15b0 : decide ((ji13) < (x6_2.length : Int)) = true := decide_eq_true c15
                          clear c15
                          obtain ⟨ji16, hji16⟩ : ∃ j_ : Int, (mx (rd x6_2 (ji10)) (rd x6_2 (ji13))) = j_ := ⟨_, rfl⟩
                          replace H : (if 0 ≤ x7_1 then (if x7_1 < (l0.length : Int) then (if 0 ≤ x8_2 then (if x8_2 < (l1.length : Int) then (if (rd l0 x7_1) = (rd l1 x8_2) then (if 0 ≤ (wrap64 ((ji10) + 1)) then (if (wrap64 ((ji10) + 1)) < (x6_2.length : Int) then (if 0 ≤ (wrap64 ((wrap64 (x7_1 * (wrap64 ((l1.length : Int) + 1)))) + x8_2)) then (if (wrap64 ((wrap64 (x7_1 * (wrap64 ((l1.length : Int) + 1)))) + x8_2)) < (x6_2.length : Int) then (sennitref03_rest.l1 k2 l0 l1 (wrap64 ((l1.length : Int) + 1)) (x6_2.set ((wrap64 ((wrap64 (x7_1 * (wrap64 ((l1.length : Int) + 1)))) + x8_2)) : Int).toNat (mx (ji16) (wrap64 ((rd x6_2 (wrap64 ((ji10) + 1))) + 1)))) x7_1 (wrap64 (x8_2 - 1))) else (none)) else (none)) else (none)) else (none)) else (if 0 ≤ (wrap64 ((wrap64 (x7_1 * (wrap64 ((l1.length : Int) + 1)))) + x8_2)) then (if (wrap64 ((wrap64 (x7_1 * (wrap64 ((l1.length : Int) + 1)))) + x8_2)) < (x6_2.length : Int) then (sennitref03_rest.l1 k2 l0 l1 (wrap64 ((l1.length : Int) + 1)) (x6_2.set ((wrap64 ((wrap64 (x7_1 * (wrap64 ((l1.length : Int) + 1)))) + x8_2)) : Int).toNat (ji16)) x7_1 (wrap64 (x8_2 - 1))) else (none)) else (none))) else (none)) else (none)) else (none)) else (none)) = some r := by first | (rw [hji16] at H; exact H) | (simp only [hji16] at H ⊢; exact H)
                          have hji16_ : (if (rd x6_2 (ji10)) < (rd x6_2 (ji13)) then (rd x6_2 (ji13)) else (rd x6_2 (ji10))) = ji16 := hji16
                          by_cases c17 : 0 ≤ x7_1
                          · rw [if_pos c17] at H
                            have c17b0 : decide (0 ≤ x7_1) = true := decide_eq_true c17
                            clear c17
                            by_cases c18 : x7_1 < (l0.length : Int)
                            · rw [if_pos c18] at H
                              have c18b0 : decide (x7_1 < (l0.length : Int)) = true := decide_eq_true c18
                              clear c18
                              by_cases c19 : 0 ≤ x8_2
                              · rw [if_pos c19] at H
                                have c19b0 : decide (0 ≤ x8_2) = true := decide_eq_true c19
                                clear c19
                                by_cases c20 : x8_2 < (l1.length : Int)
                                · rw [if_pos c20] at H
                                  have c20b0 : decide (x8_2 < (l1.length : Int)) = true := decide_eq_true c20
                                  clear c20
                                  by_cases c21 : (rd l0 x7_1) = (rd l1 x8_2)
                                  · rw [if_pos c21] at H
                                    have c21b0 : ((rd l0 x7_1) == (rd l1 x8_2)) = true := beq_iff_eq.mpr c21
                                    have c21b1 : ((rd l0 x7_1) != (rd l1 x8_2)) = false := bne_eq_false_iff_eq.mpr c21
                                    clear c21
                                    obtain ⟨ji22, hji22⟩ : ∃ j_ : Int, (wrap64 ((ji10) + 1)) = j_ := ⟨_, rfl⟩
                                    replace H : (if 0 ≤ (ji22) then (if (ji22) < (x6_2.length : Int) then (if 0 ≤ (wrap64 ((wrap64 (x7_1 * (wrap64 ((l1.length : Int) + 1)))) + x8_2)) then (if (wrap64 ((wrap64 (x7_1 * (wrap64 ((l1.length : Int) + 1)))) + x8_2)) < (x6_2.length : Int) then (sennitref03_rest.l1 k2 l0 l1 (wrap64 ((l1.length : Int) + 1)) (x6_2.set ((wrap64 ((wrap64 (x7_1 * (wrap64 ((l1.length : Int) + 1)))) + x8_2)) : Int).toNat (mx (ji16) (wrap64 ((rd x6_2 (ji22)) + 1)))) x7_1 (wrap64 (x8_2 - 1))) else (none)) else (none)) else (none)) else (none)) = some r := by first | (rw [hji22] at H; exact H) | (simp only [hji22] at H ⊢; exact H)
                                    have hji22w : (IntKind.i64.wrap ((ji10) + 1)) = ji22 := (i64_w _).trans hji22
                                    by_cases c23 : 0 ≤ (ji22)
                                    · rw [if_pos c23] at H
                                      have c23b0 : decide (0 ≤ (ji22)) = true := decide_eq_true c23
                                      clear c23
                                      by_cases c24 : (ji22) < (x6_2.length : Int)
                                      · rw [if_pos c24] at H
                                        have c24b0 : decide ((ji22) < (x6_2.length : Int)) = true := decide_eq_true c24
                                        clear c24
                                        obtain ⟨ji25, hji25⟩ : ∃ j_ : Int, (mx (ji16) (wrap64 ((rd x6_2 (ji22)) + 1))) = j_ := ⟨_, rfl⟩
                                        replace H : (if 0 ≤ (wrap64 ((wrap64 (x7_1 * (wrap64 ((l1.length : Int) + 1)))) + x8_2)) then (if (wrap64 ((wrap64 (x7_1 * (wrap64 ((l1.length : Int) + 1)))) + x8_2)) < (x6_2.length : Int) then (sennitref03_rest.l1 k2 l0 l1 (wrap64 ((l1.length : Int) + 1)) (x6_2.set ((wrap64 ((wrap64 (x7_1 * (wrap64 ((l1.length : Int) + 1)))) + x8_2)) : Int).toNat (ji25)) x7_1 (wrap64 (x8_2 - 1))) else (none)) else (none)) = some r := by first | (rw [hji25] at H; exact H) | (simp only [hji25] at H ⊢; exact H)
                                        have hji25_ : (if (ji16) < (wrap64 ((rd x6_2 (ji22)) + 1)) then (wrap64 ((rd x6_2 (ji22)) + 1)) else (ji16)) = ji25 := hji25
                                        obtain ⟨ji26, hji26⟩ : ∃ j_ : Int, (wrap64 ((wrap64 (x7_1 * (wrap64 ((l1.length : Int) + 1)))) + x8_2)) = j_ := ⟨_, rfl⟩
                                        have hji13_ji26 := hji13; (try rw [hji26] at hji13_ji26)
                                        replace H : (if 0 ≤ (ji26) then (if (ji26) < (x6_2.length : Int) then (sennitref03_rest.l1 k2 l0 l1 (wrap64 ((l1.length : Int) + 1)) (x6_2.set ((ji26) : Int).toNat (ji25)) x7_1 (wrap64 (x8_2 - 1))) else (none)) else (none)) = some r := by first | (rw [hji26] at H; exact H) | (simp only [hji26] at H ⊢; exact H)
                                        have hji26w : (IntKind.i64.wrap ((wrap64 (x7_1 * (wrap64 ((l1.length : Int) + 1)))) + x8_2)) = ji26 := (i64_w _).trans hji26
                                        by_cases c27 : 0 ≤ (ji26)
                                        · rw [if_pos c27] at H
                                          have c27b0 : decide (0 ≤ (ji26)) = true := decide_eq_true c27
                                          clear c27
                                          by_cases c28 : (ji26) < (x6_2.length : Int)
                                          · rw [if_pos c28] at H
                                            have c28b0 : decide ((ji26) < (x6_2.length : Int)) = true := decide_eq_true c28
                                            clear c28
                                            obtain ⟨y132, hy132⟩ : ∃ y_ : List Int, y_ = (x6_2.set ((ji26) : Int).toNat (ji25)) := ⟨_, rfl⟩
                                            replace H : (sennitref03_rest.l1 k2 l0 l1 (wrap64 ((l1.length : Int) + 1)) y132 x7_1 (wrap64 (x8_2 - 1))) = some r := by first | (rw [hy132]; with_reducible exact H) | (have H2_ := (Option.bind_some _ _).symm.trans H; rw [hy132]; with_reducible exact H2_) | (have H2_ := (Option.bind_some _ _).symm.trans H; with_reducible exact H2_) | with_reducible exact H | (rw [hy132]; exact H) | exact H
                                            have Ny132 := Aside0.mk hy132
                                            clear hy132
                                            have H' := Aside0.mk H
                                            clear H
                                            obtain ⟨Ao30, co30, eo30⟩ := Kd.R_slice HO_6.out
                                            subst eo30
                                            have p127 : 0 ≤ ((ji10) : Int) := of_decide_eq_true (by first | (with_reducible assumption) | assumption)
                                            have q127 : (ji10) < (x6_2.length : Int) := of_decide_eq_true (by first | (with_reducible assumption) | assumption)
                                            obtain ⟨ad127, e127, hx127_0⟩ := Kd.at_int (Kd.R_reads' HO_6.out).2.2 (ji10) p127 q127
                                            cases e127
                                            replace p127 := eq_true p127
                                            replace q127 := eq_true q127
                                            have p128 : 0 ≤ ((ji13) : Int) := of_decide_eq_true (by first | (with_reducible assumption) | assumption)
                                            have q128 : (ji13) < (x6_2.length : Int) := of_decide_eq_true (by first | (with_reducible assumption) | assumption)
                                            obtain ⟨ad128, e128, hx128_0⟩ := Kd.at_int (Kd.R_reads' HO_6.out).2.2 (ji13) p128 q128
                                            obtain rfl : ad127 = ad128 := (by injection e128)
                                            replace p128 := eq_true p128
                                            replace q128 := eq_true q128
                                            have p129 : 0 ≤ (x7_1 : Int) := of_decide_eq_true (by first | (with_reducible assumption) | assumption)
                                            have q129 : x7_1 < (l0.length : Int) := of_decide_eq_true (by first | (with_reducible assumption) | assumption)
                                            obtain ⟨ad129, e129, hx129_0⟩ := Kd.at_int HR0.out x7_1 p129 q129
                                            cases e129
                                            replace hx129_0 := (HB.out.cell (World.block_lt_of_cell? w _ hx129_0)).trans hx129_0
                                            replace p129 := eq_true p129
                                            replace q129 := eq_true q129
                                            have p130 : 0 ≤ (x8_2 : Int) := of_decide_eq_true (by first | (with_reducible assumption) | assumption)
                                            have q130 : x8_2 < (l1.length : Int) := of_decide_eq_true (by first | (with_reducible assumption) | assumption)
                                            obtain ⟨ad130, e130, hx130_0⟩ := Kd.at_int HR1.out x8_2 p130 q130
                                            cases e130
                                            replace hx130_0 := (HB.out.cell (World.block_lt_of_cell? w _ hx130_0)).trans hx130_0
                                            replace p130 := eq_true p130
                                            replace q130 := eq_true q130
                                            have p131 : 0 ≤ ((ji22) : Int) := of_decide_eq_true (by first | (with_reducible assumption) | assumption)
                                            have q131 : (ji22) < (x6_2.length : Int) := of_decide_eq_true (by first | (with_reducible assumption) | assumption)
                                            obtain ⟨ad131, e131, hx131_0⟩ := Kd.at_int (Kd.R_reads' HO_6.out).2.2 (ji22) p131 q131
                                            obtain rfl : ad127 = ad131 := (by injection e131)
                                            replace p131 := eq_true p131
                                            replace q131 := eq_true q131
                                            have p29 : 0 ≤ ((ji26) : Int) := of_decide_eq_true (by first | (with_reducible assumption) | assumption)
                                            have q29 : ((ji26) : Int) < ((x6_2.length : Int) : Int) := of_decide_eq_true (by first | (with_reducible assumption) | assumption)
                                            obtain ⟨go29, co29, eo29, gb29, gl29, cl29, HG29⟩ := Kd.R_form HO_6.out (by omega)
                                            (first | cases eo29 | (injection eo29 with ea_ en_ ec_; (first | subst ea_ | (injection ea_ with ea_; subst ea_)); subst ec_; clear en_))
                                            have GB29 := Aside0.mk gb29
                                            have GG29 := Aside0.mk HG29
                                            clear gb29 gl29 HG29
                                            (first | simp only [add_plain] at hx127_0 | skip)
                                            (first | simp only [add_plain] at hx128_0 | skip)
                                            (first | simp only [add_plain] at hx131_0 | skip)
                                            obtain ⟨hx29_0, hf29_0⟩ := Kd.R_celln 0 HO_6.out ((ji26) : Int) p29 q29
                                            replace p29 := eq_true p29
                                            replace q29 := eq_true q29
                                            have HP31 := Kd.R_putg HO_6.out ((ji26) : Int) ji25
                                            go_wp2_with (first | ((with_reducible refine gate_store (t := 3) (p := 81) rfl ?_); (try (rw [drewN_self wr]; generalize hq_ : World.drewN wr _ = wr; have n0_ := Aside0.mk (Kd.R_at hq_ HO_6.out); have n1_ := Aside0.mk (below_at hq_ HB.out); (try (have hx127_0 := cellD hq_ hx127_0)); (try (have hx128_0 := cellD hq_ hx128_0)); (try (have hx129_0 := cellD hq_ hx129_0)); (try (have hx130_0 := cellD hq_ hx130_0)); (try (have hx131_0 := cellD hq_ hx131_0)); (try (have hx29_0 := cellD hq_ hx29_0)); (try (have hf29_0 := frozenD hq_ hf29_0)); clear hq_ HO_6 HB; have HO_6 := n0_; have HB := n1_; clear n0_ n1_; (try (have HP31 := Kd.R_putg HO_6.out ((ji26) : Int) ji25)))); refine store_event (t := 3) (p := 81) (v := ?vo_w32) (w1 := (wr.setCell ⟨go29, ((ji26) : Int).toNat, none⟩ (.int .i64 ji25))) ?hg ?ho ?hn ?hr ?_; (case ho => rfl); (case hg => rfl); (case hn => rfl); (case hr => first | (go_simp; done) | (go_simp; rfl)); intro w32 hw; have hg : wr.grownBy w32 (some go29) := (by rw [hw]; exact HP31.2); have hp_ : Kd.R (Kd.int .i64) 3 w32 w.heap.size (fun _ => True) (.slice (some ⟨go29, 0, none⟩) x6_2.length co30) y132 := (by rw [hw, Ny132.out]; exact HP31.1); clear HP31; have n0_ := Aside0.mk (hp_); have n1_ := Aside0.mk ((by rw [hw]; exact below_set (HB.out) GB29.out : Below w.heap.size w w32)); clear HO_6; clear HB; have HO_6 := n0_; have HB := n1_; clear n0_ n1_; clear hg hw hp_))
                                            have hW64_ : ∀ x : Int, IntKind.i64.wrap x = wrap64 x := i64_w
                                            repeat (go_quiet (first | ((with_reducible refine gate_store (t := 3) (p := 81) rfl ?_); (try (rw [drewN_self wr]; generalize hq_ : World.drewN wr _ = wr; have n0_ := Aside0.mk (Kd.R_at hq_ HO_6.out); have n1_ := Aside0.mk (below_at hq_ HB.out); (try (have hx127_0 := cellD hq_ hx127_0)); (try (have hx128_0 := cellD hq_ hx128_0)); (try (have hx129_0 := cellD hq_ hx129_0)); (try (have hx130_0 := cellD hq_ hx130_0)); (try (have hx131_0 := cellD hq_ hx131_0)); (try (have hx29_0 := cellD hq_ hx29_0)); (try (have hf29_0 := frozenD hq_ hf29_0)); clear hq_ HO_6 HB; have HO_6 := n0_; have HB := n1_; clear n0_ n1_; (try (have HP31 := Kd.R_putg HO_6.out ((ji26) : Int) ji25)))); refine store_event (t := 3) (p := 81) (v := ?vo_w32) (w1 := (wr.setCell ⟨go29, ((ji26) : Int).toNat, none⟩ (.int .i64 ji25))) ?hg ?ho ?hn ?hr ?_; (case ho => rfl); (case hg => rfl); (case hn => rfl); (case hr => first | (go_simp; done) | (go_simp; rfl)); intro w32 hw; have hg : wr.grownBy w32 (some go29) := (by rw [hw]; exact HP31.2); have hp_ : Kd.R (Kd.int .i64) 3 w32 w.heap.size (fun _ => True) (.slice (some ⟨go29, 0, none⟩) x6_2.length co30) y132 := (by rw [hw, Ny132.out]; exact HP31.1); clear HP31; have n0_ := Aside0.mk (hp_); have n1_ := Aside0.mk ((by rw [hw]; exact below_set (HB.out) GB29.out : Below w.heap.size w w32)); clear HO_6; clear HB; have HO_6 := n0_; have HB := n1_; clear n0_ n1_; clear hg hw hp_)); try go_wp2_with (first | ((with_reducible refine gate_store (t := 3) (p := 81) rfl ?_); (try (rw [drewN_self wr]; generalize hq_ : World.drewN wr _ = wr; have n0_ := Aside0.mk (Kd.R_at hq_ HO_6.out); have n1_ := Aside0.mk (below_at hq_ HB.out); (try (have hx127_0 := cellD hq_ hx127_0)); (try (have hx128_0 := cellD hq_ hx128_0)); (try (have hx129_0 := cellD hq_ hx129_0)); (try (have hx130_0 := cellD hq_ hx130_0)); (try (have hx131_0 := cellD hq_ hx131_0)); (try (have hx29_0 := cellD hq_ hx29_0)); (try (have hf29_0 := frozenD hq_ hf29_0)); clear hq_ HO_6 HB; have HO_6 := n0_; have HB := n1_; clear n0_ n1_; (try (have HP31 := Kd.R_putg HO_6.out ((ji26) : Int) ji25)))); refine store_event (t := 3) (p := 81) (v := ?vo_w32) (w1 := (wr.setCell ⟨go29, ((ji26) : Int).toNat, none⟩ (.int .i64 ji25))) ?hg ?ho ?hn ?hr ?_; (case ho => rfl); (case hg => rfl); (case hn => rfl); (case hr => first | (go_simp; done) | (go_simp; rfl)); intro w32 hw; have hg : wr.grownBy w32 (some go29) := (by rw [hw]; exact HP31.2); have hp_ : Kd.R (Kd.int .i64) 3 w32 w.heap.size (fun _ => True) (.slice (some ⟨go29, 0, none⟩) x6_2.length co30) y132 := (by rw [hw, Ny132.out]; exact HP31.1); clear HP31; have n0_ := Aside0.mk (hp_); have n1_ := Aside0.mk ((by rw [hw]; exact below_set (HB.out) GB29.out : Below w.heap.size w w32)); clear HO_6; clear HB; have HO_6 := n0_; have HB := n1_; clear n0_ n1_; clear hg hw hp_)))
                                            go_roundg k2
                                            case measure => have := HK1.out; have := HK2.out; omega
                                            case rel => exact ⟨(y132), (wrap64 (x8_2 - 1)), (by first | rfl | (simp; done) | (simp [*]; done)), H', ⟨by have := HK1.out; have := HK2.out; omega⟩, ⟨by (with_reducible repeat (first | apply Kd.R_alloc | apply Kd.R_drewN | apply Kd.R_drew)); exact HO_6.out⟩, ⟨by repeat (first | (with_reducible first | exact HB.out | apply below_alloc | apply pw_below_drewN | apply below_drew1) | exact HB.out)⟩⟩
                                          · rw [if_neg c28] at H
                                            exact absurd H (by simp)
                                        · rw [if_neg c27] at H
                                          exact absurd H (by simp)
                                      · rw [if_neg c24] at H
                                        exact absurd H (by simp)
                                    · rw [if_neg c23] at H
                                      exact absurd H (by simp)
                                  · rw [if_neg c21] at H
                                    have c21b0 : ((rd l0 x7_1) == (rd l1 x8_2)) = false := beq_eq_false_iff_ne.mpr c21
                                    have c21b1 : ((rd l0 x7_1) != (rd l1 x8_2)) = true := bne_iff_ne.mpr c21
                                    obtain ⟨ji33, hji33⟩ : ∃ j_ : Int, (wrap64 ((wrap64 (x7_1 * (wrap64 ((l1.length : Int) + 1)))) + x8_2)) = j_ := ⟨_, rfl⟩
                                    have hji13_ji33 := hji13; (try rw [hji33] at hji13_ji33)
                                    replace H : (if 0 ≤ (ji33) then (if (ji33) < (x6_2.length : Int) then (sennitref03_rest.l1 k2 l0 l1 (wrap64 ((l1.length : Int) + 1)) (x6_2.set ((ji33) : Int).toNat (ji16)) x7_1 (wrap64 (x8_2 - 1))) else (none)) else (none)) = some r := by first | (rw [hji33] at H; exact H) | (simp only [hji33] at H ⊢; exact H)
                                    have hji33w : (IntKind.i64.wrap ((wrap64 (x7_1 * (wrap64 ((l1.length : Int) + 1)))) + x8_2)) = ji33 := (i64_w _).trans hji33
                                    by_cases c34 : 0 ≤ (ji33)
                                    · rw [if_pos c34] at H
                                      have c34b0 : decide (0 ≤ (ji33)) = true := decide_eq_true c34
                                      clear c34
                                      by_cases c35 : (ji33) < (x6_2.length : Int)
                                      · rw [if_pos c35] at H
                                        have c35b0 : decide ((ji33) < (x6_2.length : Int)) = true := decide_eq_true c35
                                        clear c35
                                        obtain ⟨y133, hy133⟩ : ∃ y_ : List Int, y_ = (x6_2.set ((ji33) : Int).toNat (ji16)) := ⟨_, rfl⟩
                                        replace H : (sennitref03_rest.l1 k2 l0 l1 (wrap64 ((l1.length : Int) + 1)) y133 x7_1 (wrap64 (x8_2 - 1))) = some r := by first | (rw [hy133]; with_reducible exact H) | (have H2_ := (Option.bind_some _ _).symm.trans H; rw [hy133]; with_reducible exact H2_) | (have H2_ := (Option.bind_some _ _).symm.trans H; with_reducible exact H2_) | with_reducible exact H | (rw [hy133]; exact H) | exact H
                                        have Ny133 := Aside0.mk hy133
                                        clear hy133
                                        have H' := Aside0.mk H
                                        clear H
                                        obtain ⟨Ao37, co37, eo37⟩ := Kd.R_slice HO_6.out
                                        subst eo37
                                        have p127 : 0 ≤ ((ji10) : Int) := of_decide_eq_true (by first | (with_reducible assumption) | assumption)
                                        have q127 : (ji10) < (x6_2.length : Int) := of_decide_eq_true (by first | (with_reducible assumption) | assumption)
                                        obtain ⟨ad127, e127, hx127_0⟩ := Kd.at_int (Kd.R_reads' HO_6.out).2.2 (ji10) p127 q127
                                        cases e127
                                        replace p127 := eq_true p127
                                        replace q127 := eq_true q127
                                        have p128 : 0 ≤ ((ji13) : Int) := of_decide_eq_true (by first | (with_reducible assumption) | assumption)
                                        have q128 : (ji13) < (x6_2.length : Int) := of_decide_eq_true (by first | (with_reducible assumption) | assumption)
                                        obtain ⟨ad128, e128, hx128_0⟩ := Kd.at_int (Kd.R_reads' HO_6.out).2.2 (ji13) p128 q128
                                        obtain rfl : ad127 = ad128 := (by injection e128)
                                        replace p128 := eq_true p128
                                        replace q128 := eq_true q128
                                        have p129 : 0 ≤ (x7_1 : Int) := of_decide_eq_true (by first | (with_reducible assumption) | assumption)
                                        have q129 : x7_1 < (l0.length : Int) := of_decide_eq_true (by first | (with_reducible assumption) | assumption)
                                        obtain ⟨ad129, e129, hx129_0⟩ := Kd.at_int HR0.out x7_1 p129 q129
                                        cases e129
                                        replace hx129_0 := (HB.out.cell (World.block_lt_of_cell? w _ hx129_0)).trans hx129_0
                                        replace p129 := eq_true p129
                                        replace q129 := eq_true q129
                                        have p130 : 0 ≤ (x8_2 : Int) := of_decide_eq_true (by first | (with_reducible assumption) | assumption)
                                        have q130 : x8_2 < (l1.length : Int) := of_decide_eq_true (by first | (with_reducible assumption) | assumption)
                                        obtain ⟨ad130, e130, hx130_0⟩ := Kd.at_int HR1.out x8_2 p130 q130
                                        cases e130
                                        replace hx130_0 := (HB.out.cell (World.block_lt_of_cell? w _ hx130_0)).trans hx130_0
                                        replace p130 := eq_true p130
                                        replace q130 := eq_true q130
                                        have p36 : 0 ≤ ((ji33) : Int) := of_decide_eq_true (by first | (with_reducible assumption) | assumption)
                                        have q36 : ((ji33) : Int) < ((x6_2.length : Int) : Int) := of_decide_eq_true (by first | (with_reducible assumption) | assumption)
                                        obtain ⟨go36, co36, eo36, gb36, gl36, cl36, HG36⟩ := Kd.R_form HO_6.out (by omega)
                                        (first | cases eo36 | (injection eo36 with ea_ en_ ec_; (first | subst ea_ | (injection ea_ with ea_; subst ea_)); subst ec_; clear en_))
                                        have GB36 := Aside0.mk gb36
                                        have GG36 := Aside0.mk HG36
                                        clear gb36 gl36 HG36
                                        (first | simp only [add_plain] at hx127_0 | skip)
                                        (first | simp only [add_plain] at hx128_0 | skip)
                                        obtain ⟨hx36_0, hf36_0⟩ := Kd.R_celln 0 HO_6.out ((ji33) : Int) p36 q36
                                        replace p36 := eq_true p36
                                        replace q36 := eq_true q36
                                        have HP38 := Kd.R_putg HO_6.out ((ji33) : Int) ji16
                                        go_wp2_with (first | ((with_reducible refine gate_store (t := 3) (p := 81) rfl ?_); (try (rw [drewN_self wr]; generalize hq_ : World.drewN wr _ = wr; have n0_ := Aside0.mk (Kd.R_at hq_ HO_6.out); have n1_ := Aside0.mk (below_at hq_ HB.out); (try (have hx127_0 := cellD hq_ hx127_0)); (try (have hx128_0 := cellD hq_ hx128_0)); (try (have hx129_0 := cellD hq_ hx129_0)); (try (have hx130_0 := cellD hq_ hx130_0)); (try (have hx36_0 := cellD hq_ hx36_0)); (try (have hf36_0 := frozenD hq_ hf36_0)); clear hq_ HO_6 HB; have HO_6 := n0_; have HB := n1_; clear n0_ n1_; (try (have HP38 := Kd.R_putg HO_6.out ((ji33) : Int) ji16)))); refine store_event (t := 3) (p := 81) (v := ?vo_w39) (w1 := (wr.setCell ⟨go36, ((ji33) : Int).toNat, none⟩ (.int .i64 ji16))) ?hg ?ho ?hn ?hr ?_; (case ho => rfl); (case hg => rfl); (case hn => rfl); (case hr => first | (go_simp; done) | (go_simp; rfl)); intro w39 hw; have hg : wr.grownBy w39 (some go36) := (by rw [hw]; exact HP38.2); have hp_ : Kd.R (Kd.int .i64) 3 w39 w.heap.size (fun _ => True) (.slice (some ⟨go36, 0, none⟩) x6_2.length co37) y133 := (by rw [hw, Ny133.out]; exact HP38.1); clear HP38; have n0_ := Aside0.mk (hp_); have n1_ := Aside0.mk ((by rw [hw]; exact below_set (HB.out) GB36.out : Below w.heap.size w w39)); clear HO_6; clear HB; have HO_6 := n0_; have HB := n1_; clear n0_ n1_; clear hg hw hp_))
                                        have hW64_ : ∀ x : Int, IntKind.i64.wrap x = wrap64 x := i64_w
                                        repeat (go_quiet (first | ((with_reducible refine gate_store (t := 3) (p := 81) rfl ?_); (try (rw [drewN_self wr]; generalize hq_ : World.drewN wr _ = wr; have n0_ := Aside0.mk (Kd.R_at hq_ HO_6.out); have n1_ := Aside0.mk (below_at hq_ HB.out); (try (have hx127_0 := cellD hq_ hx127_0)); (try (have hx128_0 := cellD hq_ hx128_0)); (try (have hx129_0 := cellD hq_ hx129_0)); (try (have hx130_0 := cellD hq_ hx130_0)); (try (have hx36_0 := cellD hq_ hx36_0)); (try (have hf36_0 := frozenD hq_ hf36_0)); clear hq_ HO_6 HB; have HO_6 := n0_; have HB := n1_; clear n0_ n1_; (try (have HP38 := Kd.R_putg HO_6.out ((ji33) : Int) ji16)))); refine store_event (t := 3) (p := 81) (v := ?vo_w39) (w1 := (wr.setCell ⟨go36, ((ji33) : Int).toNat, none⟩ (.int .i64 ji16))) ?hg ?ho ?hn ?hr ?_; (case ho => rfl); (case hg => rfl); (case hn => rfl); (case hr => first | (go_simp; done) | (go_simp; rfl)); intro w39 hw; have hg : wr.grownBy w39 (some go36) := (by rw [hw]; exact HP38.2); have hp_ : Kd.R (Kd.int .i64) 3 w39 w.heap.size (fun _ => True) (.slice (some ⟨go36, 0, none⟩) x6_2.length co37) y133 := (by rw [hw, Ny133.out]; exact HP38.1); clear HP38; have n0_ := Aside0.mk (hp_); have n1_ := Aside0.mk ((by rw [hw]; exact below_set (HB.out) GB36.out : Below w.heap.size w w39)); clear HO_6; clear HB; have HO_6 := n0_; have HB := n1_; clear n0_ n1_; clear hg hw hp_)); try go_wp2_with (first | ((with_reducible refine gate_store (t := 3) (p := 81) rfl ?_); (try (rw [drewN_self wr]; generalize hq_ : World.drewN wr _ = wr; have n0_ := Aside0.mk (Kd.R_at hq_ HO_6.out); have n1_ := Aside0.mk (below_at hq_ HB.out); (try (have hx127_0 := cellD hq_ hx127_0)); (try (have hx128_0 := cellD hq_ hx128_0)); (try (have hx129_0 := cellD hq_ hx129_0)); (try (have hx130_0 := cellD hq_ hx130_0)); (try (have hx36_0 := cellD hq_ hx36_0)); (try (have hf36_0 := frozenD hq_ hf36_0)); clear hq_ HO_6 HB; have HO_6 := n0_; have HB := n1_; clear n0_ n1_; (try (have HP38 := Kd.R_putg HO_6.out ((ji33) : Int) ji16)))); refine store_event (t := 3) (p := 81) (v := ?vo_w39) (w1 := (wr.setCell ⟨go36, ((ji33) : Int).toNat, none⟩ (.int .i64 ji16))) ?hg ?ho ?hn ?hr ?_; (case ho => rfl); (case hg => rfl); (case hn => rfl); (case hr => first | (go_simp; done) | (go_simp; rfl)); intro w39 hw; have hg : wr.grownBy w39 (some go36) := (by rw [hw]; exact HP38.2); have hp_ : Kd.R (Kd.int .i64) 3 w39 w.heap.size (fun _ => True) (.slice (some ⟨go36, 0, none⟩) x6_2.length co37) y133 := (by rw [hw, Ny133.out]; exact HP38.1); clear HP38; have n0_ := Aside0.mk (hp_); have n1_ := Aside0.mk ((by rw [hw]; exact below_set (HB.out) GB36.out : Below w.heap.size w w39)); clear HO_6; clear HB; have HO_6 := n0_; have HB := n1_; clear n0_ n1_; clear hg hw hp_)))
                                        go_roundg k2
                                        case measure => have := HK1.out; have := HK2.out; omega
                                        case rel => exact ⟨(y133), (wrap64 (x8_2 - 1)), (by first | rfl | (simp; done) | (simp [*]; done)), H', ⟨by have := HK1.out; have := HK2.out; omega⟩, ⟨by (with_reducible repeat (first | apply Kd.R_alloc | apply Kd.R_drewN | apply Kd.R_drew)); exact HO_6.out⟩, ⟨by repeat (first | (with_reducible first | exact HB.out | apply below_alloc | apply pw_below_drewN | apply below_drew1) | exact HB.out)⟩⟩
                                      · rw [if_neg c35] at H
                                        exact absurd H (by simp)
                                    · rw [if_neg c34] at H
                                      exact absurd H (by simp)
                                · rw [if_neg c20] at H
                                  exact absurd H (by simp)
                              · rw [if_neg c19] at H
                                exact absurd H (by simp)
                            · rw [if_neg c18] at H
                              exact absurd H (by simp)
                          · rw [if_neg c17] at H
                            exact absurd H (by simp)
                        · rw [if_neg c15] at H
                          exact absurd H (by simp)
                      · rw [if_neg c14] at H
                        exact absurd H (by simp)
                    · rw [if_neg c12] at H
                      exact absurd H (by simp)
                  · rw [if_neg c11] at H
                    exact absurd H (by simp)
                · rw [if_neg c9] at H
                  have c9b0 : decide (0 ≤ x8_2) = false := decide_eq_false c9
                  clear c9
                  have H' := Aside0.mk H
                  clear H
                  go_wp2
                  have hW64_ : ∀ x : Int, IntKind.i64.wrap x = wrap64 x := i64_w
                  repeat (go_quiet (fail); try go_wp2)
                  go_roundg k2
                  case measure => have := HK1.out; have := HK2.out; omega
                  case rel => exact ⟨(x6_2), (wrap64 (x7_1 - 1)), (by first | rfl | (simp; done) | (simp [*]; done)), H', ⟨by have := HK1.out; have := HK2.out; omega⟩, ⟨by (with_reducible repeat (first | apply Kd.R_alloc | apply Kd.R_drewN | apply Kd.R_drew)); exact HO_6.out⟩, ⟨by repeat (first | (with_reducible first | exact HB.out | apply below_alloc | apply pw_below_drewN | apply below_drew1) | exact HB.out)⟩⟩
          · rw [if_neg c8] at H
            have c8b0 : decide (0 ≤ x7_1) = false := decide_eq_false c8
            clear c8
            obtain rfl := Option.some.inj H
            go_wp2
            have hW64_ : ∀ x : Int, IntKind.i64.wrap x = wrap64 x := i64_w
            repeat (go_quiet (fail); try go_wp2)
            go_ret
            exact ⟨_, by first | rfl | (simp [errW_none, errW_some] <;> rfl) | (simp only [← hji3]; first | rfl | (simp [errW_none, errW_some] <;> rfl)) | (simp [*, errW_none, errW_some] <;> rfl), by (with_reducible repeat (first | apply Kd.R_alloc | apply Kd.R_drewN | apply Kd.R_drew)); exact HO_6.out, by repeat (first | (with_reducible first | exact HB.out | apply below_alloc | apply pw_below_drewN | apply below_drew1) | exact HB.out)⟩
    · rw [if_neg c5] at H
      exact absurd H (by simp)
  · rw [if_neg c4] at H
    exact absurd H (by simp)

end Go.Proofs.Ytnlekganlliikaa.X
