/-
  Parts of one proof, one behind the other: XUn1, XRef03, XRef19, XGapL, XGapTells, XGapSame.
-/
import Derived.Test.YtnlekganlliikaaBGapFew2
import Derived.IntWalk
-- part XUn1
namespace Go.Proofs.Ytnlekganlliikaa.X
open Go.RowKit Go.Proofs.YtnlekganlliikaaW.PrintWords Go.Proofs.YtnlekganlliikaaW.PrintLast Go.Proofs.YtnlekganlliikaaW.PrintMore
attribute [local go_sem] max2_int min2_int max_two min_two max_three min_three max_four min_four   -- for this text's walks alone
set_option linter.unusedVariables false
set_option linter.unusedSimpArgs false
mutual
def sennitlaw19_GapFew.l0 : Nat → List (List ByteArray) → Bool → List (S37) → List (S37) → Int → Int → Int → Int → Option (Bool)
  | 0, _, _, _, _, _, _, _, _ => none
  | k + 1, x0, x3, x4, x6, x7, x8, x9, x10 => if x10 < (x0.length : Int) then (if 0 ≤ x10 then (sennitlaw19_GapFew.l0 k x0 x3 x4 x6 x7 (wrap64 (x8 + ((rd_L1 x0 x10).length : Int))) (mx x9 ((rd_L1 x0 x10).length : Int)) (wrap64 (x10 + 1))) else (none)) else (sennitlaw19_GapFew.l1 k x3 x4 x6 x7 x8 x9 0)
def sennitlaw19_GapFew.l1 : Nat → Bool → List (S37) → List (S37) → Int → Int → Int → Int → Option (Bool)
  | 0, _, _, _, _, _, _, _ => none
  | k + 1, x3, x4, x6, x7, x8, x9, x11 => if x11 < (x4.length : Int) then (sennitlaw19_GapFew.j2 k x3 x4 x6 x7 x8 x9 x11 (decide (x11 < (x6.length : Int)))) else (sennitlaw19_GapFew.j2 k x3 x4 x6 x7 x8 x9 x11 false)
def sennitlaw19_GapFew.j2 : Nat → Bool → List (S37) → List (S37) → Int → Int → Int → Int → Bool → Option (Bool)
  | 0, _, _, _, _, _, _, _, _ => none
  | k + 1, x3, x4, x6, x7, x8, x9, x11, x60 => if x60 = true then (if 0 ≤ x11 then (if x11 < (x6.length : Int) then (if x11 < (x4.length : Int) then (if ((rd_T37 x4 x11).f0).size + 1 ≤ 9223372036854775807 then (if ((rd_T37 x6 x11).f0).toList = (((rd_T37 x4 x11).f0) ++ (⟨#[32]⟩ : ByteArray)).toList then (if ((rd_T37 x6 x11).f1).toList = ((rd_T37 x4 x11).f1).toList then (sennitlaw19_GapFew.l1 k x3 x4 x6 x7 x8 x9 (wrap64 (x11 + 1))) else (some false)) else (some false)) else (none)) else (none)) else (none)) else (none)) else (if x3 = true then (if x7 = 0 then (if (x4.length : Int) ≤ x8 then (if (x4.length : Int) ≥ x9 then (some ((x6.length : Int) == (x4.length : Int))) else (some false)) else (some false)) else (some false)) else (some false))
end
def sennitlaw19_GapFew.f (k : Nat) (l0 : List (List ByteArray)) : Option (Bool) := (sennitlaw19_awake.f).bind fun t101 => ((sennitref06_Few.f k ([] : List ByteArray) l0).bind fun t102 => (if t102 = true then ((gap_Coalesce.f l0).bind fun bt103 => ((some (([] : List (List ByteArray)) : List (List ByteArray))).bind fun y107 => (if y107.length + l0.length < 5864062014805 then ((some (y107 ++ l0 : List (List ByteArray))).bind fun y110 => (if y110.length < 5864062014805 then ((gap_Coalesce.f (y110 ++ [[]])).bind fun bt116 => (sennitlaw19_GapFew.l0 k l0 t101 bt103.1 bt116.1 bt116.2 0 0 0)) else (none))) else (none)))) else (some t101)))
set_option maxHeartbeats 8000000 in
set_option maxRecDepth 100000 in
theorem sennitlaw19_GapFew.calls (k : Nat) (P0_ : Nat → Prop) (A0 : Option Addr) (c0 : Nat) (l0 : List (List ByteArray)) (r : Bool) (w : World) (hs0 : Kd.V (Kd.slice 9 Kd.string) 34 w w.heap.size (fun k_ => P0_ k_) (.slice A0 l0.length c0) l0) (h : sennitlaw19_GapFew.f k l0 = some r) :
    Calls Try.prog 6 #[.slice A0 l0.length c0] w fun e w' => e = .returned (.bool r) ∧ Below w.heap.size w w' := by
  have HO0 := Aside0.mk (show Kd.V (Kd.slice 9 Kd.string) 34 w w.heap.size (fun k_ => (P0_ k_ ∨ w.heap.size ≤ k_)) (.slice A0 l0.length c0) l0 from Kd.V_mono hs0 (fun k_ hk => .inl hk))
  have HB := Aside0.mk (Below.refl w.heap.size w)
  have H : ((sennitlaw19_awake.f).bind fun t101 => ((sennitref06_Few.f k ([] : List ByteArray) l0).bind fun t102 => (if t102 = true then ((gap_Coalesce.f l0).bind fun bt103 => ((some (([] : List (List ByteArray)) : List (List ByteArray))).bind fun y107 => (if y107.length + l0.length < 5864062014805 then ((some (y107 ++ l0 : List (List ByteArray))).bind fun y110 => (if y110.length < 5864062014805 then ((gap_Coalesce.f (y110 ++ [[]])).bind fun bt116 => (sennitlaw19_GapFew.l0 k l0 t101 bt103.1 bt116.1 bt116.2 0 0 0)) else (none))) else (none)))) else (some t101)))) = some r := h
  clear h
  replace H := Option.bind_eq_some_iff.mp H
  obtain ⟨t101, A20, H⟩ := H
  replace H : ((sennitref06_Few.f k ([] : List ByteArray) l0).bind fun t102 => (if t102 = true then ((gap_Coalesce.f l0).bind fun bt103 => ((some (([] : List (List ByteArray)) : List (List ByteArray))).bind fun y107 => (if y107.length + l0.length < 5864062014805 then ((some (y107 ++ l0 : List (List ByteArray))).bind fun y110 => (if y110.length < 5864062014805 then ((gap_Coalesce.f (y110 ++ [[]])).bind fun bt116 => (sennitlaw19_GapFew.l0 k l0 t101 bt103.1 bt116.1 bt116.2 0 0 0)) else (none))) else (none)))) else (some t101))) = some r := H
  have A2 := Aside0.mk A20
  clear A20
  replace H := Option.bind_eq_some_iff.mp H
  obtain ⟨t102, A30, H⟩ := H
  replace H : (if t102 = true then ((gap_Coalesce.f l0).bind fun bt103 => ((some (([] : List (List ByteArray)) : List (List ByteArray))).bind fun y107 => (if y107.length + l0.length < 5864062014805 then ((some (y107 ++ l0 : List (List ByteArray))).bind fun y110 => (if y110.length < 5864062014805 then ((gap_Coalesce.f (y110 ++ [[]])).bind fun bt116 => (sennitlaw19_GapFew.l0 k l0 t101 bt103.1 bt116.1 bt116.2 0 0 0)) else (none))) else (none)))) else (some t101)) = some r := H
  have A3 := Aside0.mk A30
  clear A30
  by_cases c4 : t102 = true
  · subst c4
    have H1 : ((gap_Coalesce.f l0).bind fun bt103 => ((some (([] : List (List ByteArray)) : List (List ByteArray))).bind fun y107 => (if y107.length + l0.length < 5864062014805 then ((some (y107 ++ l0 : List (List ByteArray))).bind fun y110 => (if y110.length < 5864062014805 then ((gap_Coalesce.f (y110 ++ [[]])).bind fun bt116 => (sennitlaw19_GapFew.l0 k l0 t101 bt103.1 bt116.1 bt116.2 0 0 0)) else (none))) else (none)))) = some r := by rw [if_pos rfl] at H; exact H
    clear H
    have H := H1
    clear H1
    replace H := Option.bind_eq_some_iff.mp H
    obtain ⟨⟨t103, t104⟩, A50, H⟩ := H
    replace H : ((some (([] : List (List ByteArray)) : List (List ByteArray))).bind fun y107 => (if y107.length + l0.length < 5864062014805 then ((some (y107 ++ l0 : List (List ByteArray))).bind fun y110 => (if y110.length < 5864062014805 then ((gap_Coalesce.f (y110 ++ [[]])).bind fun bt116 => (sennitlaw19_GapFew.l0 k l0 t101 t103 bt116.1 bt116.2 0 0 0)) else (none))) else (none))) = some r := H
    have A5 := Aside0.mk A50
    clear A50
    obtain ⟨y107, hy107⟩ : ∃ y_ : List (List ByteArray), y_ = (([] : List (List ByteArray))) := ⟨_, rfl⟩
    replace H : (if y107.length + l0.length < 5864062014805 then ((some (y107 ++ l0 : List (List ByteArray))).bind fun y110 => (if y110.length < 5864062014805 then ((gap_Coalesce.f (y110 ++ [[]])).bind fun bt116 => (sennitlaw19_GapFew.l0 k l0 t101 t103 bt116.1 bt116.2 0 0 0)) else (none))) else (none)) = some r := by first | (rw [hy107]; with_reducible exact H) | (have H2_ := (Option.bind_some _ _).symm.trans H; rw [hy107]; with_reducible exact H2_) | (have H2_ := (Option.bind_some _ _).symm.trans H; with_reducible exact H2_) | with_reducible exact H | (rw [hy107]; exact H) | exact H
    have Ny107 := Aside0.mk hy107
    clear hy107
    by_cases c6 : y107.length + l0.length < 5864062014805
    · rw [if_pos c6] at H
      have LMc6 := Aside0.mk c6
      clear c6
      obtain ⟨y110, hy110⟩ : ∃ y_ : List (List ByteArray), y_ = (y107 ++ l0) := ⟨_, rfl⟩
      replace H : (if y110.length < 5864062014805 then ((gap_Coalesce.f (y110 ++ [[]])).bind fun bt116 => (sennitlaw19_GapFew.l0 k l0 t101 t103 bt116.1 bt116.2 0 0 0)) else (none)) = some r := by first | (rw [hy110]; with_reducible exact H) | (have H2_ := (Option.bind_some _ _).symm.trans H; rw [hy110]; with_reducible exact H2_) | (have H2_ := (Option.bind_some _ _).symm.trans H; with_reducible exact H2_) | with_reducible exact H | (rw [hy110]; exact H) | exact H
      have Ny110 := Aside0.mk hy110
      clear hy110
      by_cases c7 : y110.length < 5864062014805
      · rw [if_pos c7] at H
        have LMc7 := Aside0.mk c7
        clear c7
        obtain ⟨y113, hy113⟩ : ∃ y_ : List (List ByteArray), y_ = (y110 ++ [[]]) := ⟨_, rfl⟩
        replace H : ((gap_Coalesce.f y113).bind fun bt116 => (sennitlaw19_GapFew.l0 k l0 t101 t103 bt116.1 bt116.2 0 0 0)) = some r := by first | (rw [hy113]; with_reducible exact H) | (have H2_ := (Option.bind_some _ _).symm.trans H; rw [hy113]; with_reducible exact H2_) | (have H2_ := (Option.bind_some _ _).symm.trans H; with_reducible exact H2_) | with_reducible exact H | (rw [hy113]; exact H) | exact H
        have Ny113 := Aside0.mk hy113
        clear hy113
        replace H := Option.bind_eq_some_iff.mp H
        obtain ⟨⟨t116, t117⟩, A80, H⟩ := H
        replace H : (sennitlaw19_GapFew.l0 k l0 t101 t103 t116 t117 0 0 0) = some r := H
        have A8 := Aside0.mk A80
        clear A80
        have H' := Aside0.mk H
        clear H
        go_enter Try.func6, Try.ntmps6
        go_wp2_with (first | (go_at_call 15; (with_reducible refine (sennitlaw19_awake.calls  t101 _ A2.out).mono ?_); rintro e w9 ⟨rfl, hb⟩; have n0_ := Aside0.mk (Kd.V_below (by (with_reducible repeat (first | apply Kd.V_alloc | apply Kd.V_drewN | apply Kd.V_drew)); exact HO0.out) hb); have n1_ := Aside0.mk (below_step (by repeat (first | (with_reducible first | exact HB.out | apply below_alloc | apply pw_below_drewN | apply below_drew1) | exact HB.out)) hb); clear HO0; clear HB; have HO0 := n0_; have HB := n1_; clear n0_ n1_; (try clear hb); (try clear hb2); (try clear hk); (try clear hi)) | (go_at_call 16; (refine (sennitref06_Few.calls k _ _ ([] : List ByteArray) _ _ l0 true _ ?side1 ?side2 ?side3 ?side4 A3.out).mono ?_); (case side1 => exact Kd.C_nil _ _); (case side2 => exact Nat.le_refl _); (case side3 => repeat (first | exact (Kd.V_reads' HO0.out).2.2 | (with_reducible refine Kd.C_alloc ?_ _) | (with_reducible refine Kd.C_drewN ?_ _) | (with_reducible refine Kd.C_drew ?_))); (case side4 => exact (Kd.V_reads' HO0.out).2.1); rintro e w' ⟨rfl, ⟨nd, rfl⟩⟩; (try first | exact ⟨rfl, _, World.drewN_drewN _ _ _⟩ | exact ⟨rfl, _, Eq.trans (World.drewN_drewN _ _ _) (congrArg (World.drewN _) (Nat.add_assoc _ _ _))⟩)) | (go_at_call 17; (with_reducible refine (gap_Coalesce.calls _ _ l0 t103 t104 _ ?side1 ?side2 A5.out).mono ?_); (case side1 => repeat (first | exact (Kd.V_reads' HO0.out).2.2 | (with_reducible refine Kd.C_alloc ?_ _) | (with_reducible refine Kd.C_drewN ?_ _) | (with_reducible refine Kd.C_drew ?_))); (case side2 => exact (Kd.V_reads' HO0.out).2.1); rintro e w10 ⟨v105, rfl, ho0, hb⟩; have n0_ := Aside0.mk (Kd.V_elder' (by (with_reducible repeat (first | apply Kd.V_alloc | apply Kd.V_drewN | apply Kd.V_drew)); exact HO0.out) (Kd.R_base ho0) hb); have n1_ := Aside0.mk (Kd.R_lower (Kd.R_newM (M := fun k_ => (w.heap.size ≤ k_)) ho0 (below_size (by repeat (first | (with_reducible first | exact HB.out | apply below_alloc | apply pw_below_drewN | apply below_drew1) | exact HB.out))) (fun k_ h_ => h_)) (below_size (by repeat (first | (with_reducible first | exact HB.out | apply below_alloc | apply pw_below_drewN | apply below_drew1) | exact HB.out)))); have n2_ := Aside0.mk (below_step (by repeat (first | (with_reducible first | exact HB.out | apply below_alloc | apply pw_below_drewN | apply below_drew1) | exact HB.out)) hb); clear HO0; clear HB; have HO0 := n0_; have HO106 := n1_; have HB := n2_; clear n0_ n1_ n2_; (try clear hb); (try clear hb2); (try clear hk); (try clear hi); (try clear ho0)) | ((with_reducible refine gate_dst (N := 23) rfl ?_); (try (refine gate_guard (by rfl) ?_; dsimp only)); refine Kd.N_lit (Kd.slice 9 Kd.string) _ 34 ?hg (N' := 23) ?hd (xs := ([] : List (List ByteArray))) (inner := []) (ok := (fun k_ => (P0_ k_ ∨ w.heap.size ≤ k_) ∧ some k_ ≠ (v105 : Value).ownBlock)) (okp := (fun k_ => (P0_ k_ ∨ w.heap.size ≤ k_) ∧ some k_ ≠ (v105 : Value).ownBlock)) ?hr ?hp (fun _ hk => hk) ((show ∀ k_, w10.heap.size ≤ k_ → (fun k_ => (P0_ k_ ∨ w.heap.size ≤ k_) ∧ some k_ ≠ (v105 : Value).ownBlock) k_ from fun k_ hk => ⟨(.inr (Nat.le_trans (below_size (by repeat (first | (with_reducible first | exact HB.out | apply below_alloc | apply pw_below_drewN | apply below_drew1) | exact HB.out))) hk)), Kd.fresh' (Kd.R_lt (by (with_reducible repeat (first | apply Kd.R_alloc | apply Kd.R_drewN | apply Kd.R_drew)); exact HO106.out)) k_ hk⟩) _ (Nat.le_refl _)) (Below.refl _ _) (Nat.le_refl _) (by simp) ?_; (case hd => rfl); (case hg => rfl); (case hr => first | (go_simp; done) | (go_simp; rfl)); (case hp => exact (Reps.none _ _)); intro v108 w11 ho12 hb hg_ hnew_; clear hg_ hnew_; (first | rw [← Ny107.out] at ho12 | (simp only [Int.reduceToNat] at ho12; rw [← Ny107.out] at ho12)); have n0_ := Aside0.mk (Kd.V_elder' (by (with_reducible repeat (first | apply Kd.V_alloc | apply Kd.V_drewN | apply Kd.V_drew)); exact HO0.out) (Kd.N_base ho12) hb); have n1_ := Aside0.mk (Kd.R_below (by (with_reducible repeat (first | apply Kd.R_alloc | apply Kd.R_drewN | apply Kd.R_drew)); exact HO106.out) hb); have n2_ := Aside0.mk (Kd.N_lower ho12 (below_size (by repeat (first | (with_reducible first | exact HB.out | apply below_alloc | apply pw_below_drewN | apply below_drew1) | exact HB.out)))); have n3_ := Aside0.mk (below_step (by repeat (first | (with_reducible first | exact HB.out | apply below_alloc | apply pw_below_drewN | apply below_drew1) | exact HB.out)) hb); clear HO0; clear HO106; clear HB; have HO0 := n0_; have HO106 := n1_; have HO109 := n2_; have HB := n3_; clear n0_ n1_ n2_ n3_; clear hb ho12) | ((with_reducible refine gate_builtin (b := .append) (xs := #[.tmp 23, .tmp 24]) rfl ?_); (try (refine gate_guard (by rfl) ?_; dsimp only)); at_builtin; refine Kd.N_append_rows (Kd.slice 9 Kd.string) (w0 := w) w.heap.size rfl (.tmp 23) (.tmp 24) 22 34 (.slice none 0 0) 24 rfl Try.underlying22 info34 rfl (by decide) (by omega) v108 y107 l0 _ _ _ (fun k_ => (P0_ k_ ∨ w.heap.size ≤ k_) ∧ some k_ ≠ (v105 : Value).ownBlock) (fun k_ => ((fun k_ => (P0_ k_ ∨ w.heap.size ≤ k_) ∧ some k_ ≠ (v105 : Value).ownBlock)) k_ ∧ some k_ ≠ (v108 : Value).ownBlock) rfl rfl ?aO ?aR (fun _ hk => hk) ?aF ?aB ?aS ?aL ?_; (case aR => exact (by skip; exact Kd.V_F (Kd.V_mono (ok' := (fun k_ => ((fun k_ => (P0_ k_ ∨ w.heap.size ≤ k_) ∧ some k_ ≠ (v105 : Value).ownBlock)) k_ ∧ some k_ ≠ (v108 : Value).ownBlock)) (HO0.out) (fun k_ hk => ⟨⟨hk.1.1, hk.1.2⟩, hk.2⟩)))); (case aB => exact (by repeat (first | (with_reducible first | exact HB.out | apply below_alloc | apply pw_below_drewN | apply below_drew1) | exact HB.out))); (case aF => exact (fun k_ hk => ⟨(.inr (Nat.le_trans (below_size (by repeat (first | (with_reducible first | exact HB.out | apply below_alloc | apply pw_below_drewN | apply below_drew1) | exact HB.out))) hk)), Kd.fresh' (Kd.R_lt (by (with_reducible repeat (first | apply Kd.R_alloc | apply Kd.R_drewN | apply Kd.R_drew)); exact HO106.out)) k_ hk⟩)); (case aO => exact (by (with_reducible repeat (first | apply Kd.N_alloc | apply Kd.N_drewN | apply Kd.N_drew)); exact HO109.out)); (case aS => exact (below_size (by repeat (first | (with_reducible first | exact HB.out | apply below_alloc | apply pw_below_drewN | apply below_drew1) | exact HB.out)))); (case aL => have := LMc6.out; omega); intro v111 w13 ho hb hg hat; rw [← Ny110.out] at ho; have n0_ := Aside0.mk (Kd.V_afterv (ok := (fun k_ => (P0_ k_ ∨ w.heap.size ≤ k_) ∧ some k_ ≠ (v105 : Value).ownBlock)) (by (with_reducible repeat (first | apply Kd.V_alloc | apply Kd.V_drewN | apply Kd.V_drew)); exact HO0.out) hg hat); have n1_ := Aside0.mk (Kd.R_over' (by (with_reducible repeat (first | apply Kd.R_alloc | apply Kd.R_drewN | apply Kd.R_drew)); exact HO106.out) (Kd.N_typed (by (with_reducible repeat (first | apply Kd.N_alloc | apply Kd.N_drewN | apply Kd.N_drew)); exact HO109.out)) (by decide) hg); have n2_ := Aside0.mk (hb); have n3_ := Aside0.mk (ho); clear HO0; clear HO106; clear HB; clear HO109; have HO0 := n0_; have HO106 := n1_; have HB := n2_; have HO112 := n3_; clear n0_ n1_ n2_ n3_; clear ho hb hg hat) | ((with_reducible refine gate_builtin (b := .append) (xs := #[.tmp 25, .tmp 26]) rfl ?_); (try (refine gate_guard (by rfl) ?_; dsimp only)); at_builtin; refine Kd.N_append (Kd.slice 9 Kd.string) (w0 := w) w.heap.size rfl (.tmp 25) (.tmp 26) 22 34 (.slice none 0 0) 24 rfl Try.underlying22 info34 rfl (by decide) (by omega) v111 y110 [] [.slice none 0 0] (fun k_ => (P0_ k_ ∨ w.heap.size ≤ k_) ∧ some k_ ≠ (v105 : Value).ownBlock) (fun _ => False) rfl rfl ?aP (fun _ hk => hk.elim) ?aF ?aO ?aB ?aS ?aL ?_; (case aP => exact (Kd.FK_slice_mk (Nat.le_refl _) (Kd.F_nil _ _ _))); (case aB => exact (by repeat (first | (with_reducible first | exact HB.out | apply below_alloc | apply pw_below_drewN | apply below_drew1) | exact HB.out))); (case aF => exact (fun k_ hk => ⟨(.inr (Nat.le_trans (below_size (by repeat (first | (with_reducible first | exact HB.out | apply below_alloc | apply pw_below_drewN | apply below_drew1) | exact HB.out))) hk)), Kd.fresh' (Kd.R_lt (by (with_reducible repeat (first | apply Kd.R_alloc | apply Kd.R_drewN | apply Kd.R_drew)); exact HO106.out)) k_ hk⟩)); (case aO => exact (by (with_reducible repeat (first | apply Kd.N_alloc | apply Kd.N_drewN | apply Kd.N_drew)); exact HO112.out)); (case aS => exact (below_size (by repeat (first | (with_reducible first | exact HB.out | apply below_alloc | apply pw_below_drewN | apply below_drew1) | exact HB.out)))); (case aL => have := LMc7.out; omega); intro v114 w14 ho hb hg hat; rw [← Ny113.out] at ho; have n0_ := Aside0.mk (Kd.V_afterv (ok := (fun k_ => (P0_ k_ ∨ w.heap.size ≤ k_) ∧ some k_ ≠ (v105 : Value).ownBlock)) (by (with_reducible repeat (first | apply Kd.V_alloc | apply Kd.V_drewN | apply Kd.V_drew)); exact HO0.out) hg hat); have n1_ := Aside0.mk (Kd.R_over' (by (with_reducible repeat (first | apply Kd.R_alloc | apply Kd.R_drewN | apply Kd.R_drew)); exact HO106.out) (Kd.N_typed (by (with_reducible repeat (first | apply Kd.N_alloc | apply Kd.N_drewN | apply Kd.N_drew)); exact HO112.out)) (by decide) hg); have n2_ := Aside0.mk (hb); have n3_ := Aside0.mk (ho); clear HO0; clear HO106; clear HB; clear HO112; have HO0 := n0_; have HO106 := n1_; have HB := n2_; have HO115 := n3_; clear n0_ n1_ n2_ n3_; clear ho hb hg hat; obtain ⟨Ao15, co15, eo15⟩ := Kd.N_slice HO115.out; subst eo15) | (go_at_call 17; (with_reducible refine (gap_Coalesce.calls _ _ y113 t116 t117 _ ?side1 ?side2 A8.out).mono ?_); (case side1 => repeat (first | exact (Kd.N_reads' HO115.out).2.2 | (with_reducible refine Kd.C_alloc ?_ _) | (with_reducible refine Kd.C_drewN ?_ _) | (with_reducible refine Kd.C_drew ?_))); (case side2 => exact (Kd.N_reads' HO115.out).2.1); rintro e w16 ⟨v118, rfl, ho0, hb⟩; have n0_ := Aside0.mk (Kd.V_elder' (by (with_reducible repeat (first | apply Kd.V_alloc | apply Kd.V_drewN | apply Kd.V_drew)); exact HO0.out) (Kd.R_base ho0) hb); have n1_ := Aside0.mk (Kd.R_elder' (by (with_reducible repeat (first | apply Kd.R_alloc | apply Kd.R_drewN | apply Kd.R_drew)); exact HO106.out) (Kd.R_base ho0) hb); have n2_ := Aside0.mk (Kd.N_elder' (by (with_reducible repeat (first | apply Kd.N_alloc | apply Kd.N_drewN | apply Kd.N_drew)); exact HO115.out) (Kd.R_base ho0) hb); have n3_ := Aside0.mk (Kd.R_lower (Kd.R_new' (Kd.R_newM (M := fun k_ => (w.heap.size ≤ k_)) ho0 (below_size (by repeat (first | (with_reducible first | exact HB.out | apply below_alloc | apply pw_below_drewN | apply below_drew1) | exact HB.out))) (fun k_ h_ => h_)) (Kd.R_lt (by (with_reducible repeat (first | apply Kd.R_alloc | apply Kd.R_drewN | apply Kd.R_drew)); exact HO106.out))) (below_size (by repeat (first | (with_reducible first | exact HB.out | apply below_alloc | apply pw_below_drewN | apply below_drew1) | exact HB.out)))); have n4_ := Aside0.mk (below_step (by repeat (first | (with_reducible first | exact HB.out | apply below_alloc | apply pw_below_drewN | apply below_drew1) | exact HB.out)) hb); clear HO0; clear HO106; clear HO115; clear HB; have HO0 := n0_; have HO106 := n1_; have HO115 := n2_; have HO119 := n3_; have HB := n4_; clear n0_ n1_ n2_ n3_ n4_; (try clear hb); (try clear hb2); (try clear hk); (try clear hi); (try clear ho0)))
        repeat (go_quiet (first | (go_at_call 15; (with_reducible refine (sennitlaw19_awake.calls  t101 _ A2.out).mono ?_); rintro e w9 ⟨rfl, hb⟩; have n0_ := Aside0.mk (Kd.V_below (by (with_reducible repeat (first | apply Kd.V_alloc | apply Kd.V_drewN | apply Kd.V_drew)); exact HO0.out) hb); have n1_ := Aside0.mk (below_step (by repeat (first | (with_reducible first | exact HB.out | apply below_alloc | apply pw_below_drewN | apply below_drew1) | exact HB.out)) hb); clear HO0; clear HB; have HO0 := n0_; have HB := n1_; clear n0_ n1_; (try clear hb); (try clear hb2); (try clear hk); (try clear hi)) | (go_at_call 16; (refine (sennitref06_Few.calls k _ _ ([] : List ByteArray) _ _ l0 true _ ?side1 ?side2 ?side3 ?side4 A3.out).mono ?_); (case side1 => exact Kd.C_nil _ _); (case side2 => exact Nat.le_refl _); (case side3 => repeat (first | exact (Kd.V_reads' HO0.out).2.2 | (with_reducible refine Kd.C_alloc ?_ _) | (with_reducible refine Kd.C_drewN ?_ _) | (with_reducible refine Kd.C_drew ?_))); (case side4 => exact (Kd.V_reads' HO0.out).2.1); rintro e w' ⟨rfl, ⟨nd, rfl⟩⟩; (try first | exact ⟨rfl, _, World.drewN_drewN _ _ _⟩ | exact ⟨rfl, _, Eq.trans (World.drewN_drewN _ _ _) (congrArg (World.drewN _) (Nat.add_assoc _ _ _))⟩)) | (go_at_call 17; (with_reducible refine (gap_Coalesce.calls _ _ l0 t103 t104 _ ?side1 ?side2 A5.out).mono ?_); (case side1 => repeat (first | exact (Kd.V_reads' HO0.out).2.2 | (with_reducible refine Kd.C_alloc ?_ _) | (with_reducible refine Kd.C_drewN ?_ _) | (with_reducible refine Kd.C_drew ?_))); (case side2 => exact (Kd.V_reads' HO0.out).2.1); rintro e w10 ⟨v105, rfl, ho0, hb⟩; have n0_ := Aside0.mk (Kd.V_elder' (by (with_reducible repeat (first | apply Kd.V_alloc | apply Kd.V_drewN | apply Kd.V_drew)); exact HO0.out) (Kd.R_base ho0) hb); have n1_ := Aside0.mk (Kd.R_lower (Kd.R_newM (M := fun k_ => (w.heap.size ≤ k_)) ho0 (below_size (by repeat (first | (with_reducible first | exact HB.out | apply below_alloc | apply pw_below_drewN | apply below_drew1) | exact HB.out))) (fun k_ h_ => h_)) (below_size (by repeat (first | (with_reducible first | exact HB.out | apply below_alloc | apply pw_below_drewN | apply below_drew1) | exact HB.out)))); have n2_ := Aside0.mk (below_step (by repeat (first | (with_reducible first | exact HB.out | apply below_alloc | apply pw_below_drewN | apply below_drew1) | exact HB.out)) hb); clear HO0; clear HB; have HO0 := n0_; have HO106 := n1_; have HB := n2_; clear n0_ n1_ n2_; (try clear hb); (try clear hb2); (try clear hk); (try clear hi); (try clear ho0)) | ((with_reducible refine gate_dst (N := 23) rfl ?_); (try (refine gate_guard (by rfl) ?_; dsimp only)); refine Kd.N_lit (Kd.slice 9 Kd.string) _ 34 ?hg (N' := 23) ?hd (xs := ([] : List (List ByteArray))) (inner := []) (ok := (fun k_ => (P0_ k_ ∨ w.heap.size ≤ k_) ∧ some k_ ≠ (v105 : Value).ownBlock)) (okp := (fun k_ => (P0_ k_ ∨ w.heap.size ≤ k_) ∧ some k_ ≠ (v105 : Value).ownBlock)) ?hr ?hp (fun _ hk => hk) ((show ∀ k_, w10.heap.size ≤ k_ → (fun k_ => (P0_ k_ ∨ w.heap.size ≤ k_) ∧ some k_ ≠ (v105 : Value).ownBlock) k_ from fun k_ hk => ⟨(.inr (Nat.le_trans (below_size (by repeat (first | (with_reducible first | exact HB.out | apply below_alloc | apply pw_below_drewN | apply below_drew1) | exact HB.out))) hk)), Kd.fresh' (Kd.R_lt (by (with_reducible repeat (first | apply Kd.R_alloc | apply Kd.R_drewN | apply Kd.R_drew)); exact HO106.out)) k_ hk⟩) _ (Nat.le_refl _)) (Below.refl _ _) (Nat.le_refl _) (by simp) ?_; (case hd => rfl); (case hg => rfl); (case hr => first | (go_simp; done) | (go_simp; rfl)); (case hp => exact (Reps.none _ _)); intro v108 w11 ho12 hb hg_ hnew_; clear hg_ hnew_; (first | rw [← Ny107.out] at ho12 | (simp only [Int.reduceToNat] at ho12; rw [← Ny107.out] at ho12)); have n0_ := Aside0.mk (Kd.V_elder' (by (with_reducible repeat (first | apply Kd.V_alloc | apply Kd.V_drewN | apply Kd.V_drew)); exact HO0.out) (Kd.N_base ho12) hb); have n1_ := Aside0.mk (Kd.R_below (by (with_reducible repeat (first | apply Kd.R_alloc | apply Kd.R_drewN | apply Kd.R_drew)); exact HO106.out) hb); have n2_ := Aside0.mk (Kd.N_lower ho12 (below_size (by repeat (first | (with_reducible first | exact HB.out | apply below_alloc | apply pw_below_drewN | apply below_drew1) | exact HB.out)))); have n3_ := Aside0.mk (below_step (by repeat (first | (with_reducible first | exact HB.out | apply below_alloc | apply pw_below_drewN | apply below_drew1) | exact HB.out)) hb); clear HO0; clear HO106; clear HB; have HO0 := n0_; have HO106 := n1_; have HO109 := n2_; have HB := n3_; clear n0_ n1_ n2_ n3_; clear hb ho12) | ((with_reducible refine gate_builtin (b := .append) (xs := #[.tmp 23, .tmp 24]) rfl ?_); (try (refine gate_guard (by rfl) ?_; dsimp only)); at_builtin; refine Kd.N_append_rows (Kd.slice 9 Kd.string) (w0 := w) w.heap.size rfl (.tmp 23) (.tmp 24) 22 34 (.slice none 0 0) 24 rfl Try.underlying22 info34 rfl (by decide) (by omega) v108 y107 l0 _ _ _ (fun k_ => (P0_ k_ ∨ w.heap.size ≤ k_) ∧ some k_ ≠ (v105 : Value).ownBlock) (fun k_ => ((fun k_ => (P0_ k_ ∨ w.heap.size ≤ k_) ∧ some k_ ≠ (v105 : Value).ownBlock)) k_ ∧ some k_ ≠ (v108 : Value).ownBlock) rfl rfl ?aO ?aR (fun _ hk => hk) ?aF ?aB ?aS ?aL ?_; (case aR => exact (by skip; exact Kd.V_F (Kd.V_mono (ok' := (fun k_ => ((fun k_ => (P0_ k_ ∨ w.heap.size ≤ k_) ∧ some k_ ≠ (v105 : Value).ownBlock)) k_ ∧ some k_ ≠ (v108 : Value).ownBlock)) (HO0.out) (fun k_ hk => ⟨⟨hk.1.1, hk.1.2⟩, hk.2⟩)))); (case aB => exact (by repeat (first | (with_reducible first | exact HB.out | apply below_alloc | apply pw_below_drewN | apply below_drew1) | exact HB.out))); (case aF => exact (fun k_ hk => ⟨(.inr (Nat.le_trans (below_size (by repeat (first | (with_reducible first | exact HB.out | apply below_alloc | apply pw_below_drewN | apply below_drew1) | exact HB.out))) hk)), Kd.fresh' (Kd.R_lt (by (with_reducible repeat (first | apply Kd.R_alloc | apply Kd.R_drewN | apply Kd.R_drew)); exact HO106.out)) k_ hk⟩)); (case aO => exact (by (with_reducible repeat (first | apply Kd.N_alloc | apply Kd.N_drewN | apply Kd.N_drew)); exact HO109.out)); (case aS => exact (below_size (by repeat (first | (with_reducible first | exact HB.out | apply below_alloc | apply pw_below_drewN | apply below_drew1) | exact HB.out)))); (case aL => have := LMc6.out; omega); intro v111 w13 ho hb hg hat; rw [← Ny110.out] at ho; have n0_ := Aside0.mk (Kd.V_afterv (ok := (fun k_ => (P0_ k_ ∨ w.heap.size ≤ k_) ∧ some k_ ≠ (v105 : Value).ownBlock)) (by (with_reducible repeat (first | apply Kd.V_alloc | apply Kd.V_drewN | apply Kd.V_drew)); exact HO0.out) hg hat); have n1_ := Aside0.mk (Kd.R_over' (by (with_reducible repeat (first | apply Kd.R_alloc | apply Kd.R_drewN | apply Kd.R_drew)); exact HO106.out) (Kd.N_typed (by (with_reducible repeat (first | apply Kd.N_alloc | apply Kd.N_drewN | apply Kd.N_drew)); exact HO109.out)) (by decide) hg); have n2_ := Aside0.mk (hb); have n3_ := Aside0.mk (ho); clear HO0; clear HO106; clear HB; clear HO109; have HO0 := n0_; have HO106 := n1_; have HB := n2_; have HO112 := n3_; clear n0_ n1_ n2_ n3_; clear ho hb hg hat) | ((with_reducible refine gate_builtin (b := .append) (xs := #[.tmp 25, .tmp 26]) rfl ?_); (try (refine gate_guard (by rfl) ?_; dsimp only)); at_builtin; refine Kd.N_append (Kd.slice 9 Kd.string) (w0 := w) w.heap.size rfl (.tmp 25) (.tmp 26) 22 34 (.slice none 0 0) 24 rfl Try.underlying22 info34 rfl (by decide) (by omega) v111 y110 [] [.slice none 0 0] (fun k_ => (P0_ k_ ∨ w.heap.size ≤ k_) ∧ some k_ ≠ (v105 : Value).ownBlock) (fun _ => False) rfl rfl ?aP (fun _ hk => hk.elim) ?aF ?aO ?aB ?aS ?aL ?_; (case aP => exact (Kd.FK_slice_mk (Nat.le_refl _) (Kd.F_nil _ _ _))); (case aB => exact (by repeat (first | (with_reducible first | exact HB.out | apply below_alloc | apply pw_below_drewN | apply below_drew1) | exact HB.out))); (case aF => exact (fun k_ hk => ⟨(.inr (Nat.le_trans (below_size (by repeat (first | (with_reducible first | exact HB.out | apply below_alloc | apply pw_below_drewN | apply below_drew1) | exact HB.out))) hk)), Kd.fresh' (Kd.R_lt (by (with_reducible repeat (first | apply Kd.R_alloc | apply Kd.R_drewN | apply Kd.R_drew)); exact HO106.out)) k_ hk⟩)); (case aO => exact (by (with_reducible repeat (first | apply Kd.N_alloc | apply Kd.N_drewN | apply Kd.N_drew)); exact HO112.out)); (case aS => exact (below_size (by repeat (first | (with_reducible first | exact HB.out | apply below_alloc | apply pw_below_drewN | apply below_drew1) | exact HB.out)))); (case aL => have := LMc7.out; omega); intro v114 w14 ho hb hg hat; rw [← Ny113.out] at ho; have n0_ := Aside0.mk (Kd.V_afterv (ok := (fun k_ => (P0_ k_ ∨ w.heap.size ≤ k_) ∧ some k_ ≠ (v105 : Value).ownBlock)) (by (with_reducible repeat (first | apply Kd.V_alloc | apply Kd.V_drewN | apply Kd.V_drew)); exact HO0.out) hg hat); have n1_ := Aside0.mk (Kd.R_over' (by (with_reducible repeat (first | apply Kd.R_alloc | apply Kd.R_drewN | apply Kd.R_drew)); exact HO106.out) (Kd.N_typed (by (with_reducible repeat (first | apply Kd.N_alloc | apply Kd.N_drewN | apply Kd.N_drew)); exact HO112.out)) (by decide) hg); have n2_ := Aside0.mk (hb); have n3_ := Aside0.mk (ho); clear HO0; clear HO106; clear HB; clear HO112; have HO0 := n0_; have HO106 := n1_; have HB := n2_; have HO115 := n3_; clear n0_ n1_ n2_ n3_; clear ho hb hg hat; obtain ⟨Ao15, co15, eo15⟩ := Kd.N_slice HO115.out; subst eo15) | (go_at_call 17; (with_reducible refine (gap_Coalesce.calls _ _ y113 t116 t117 _ ?side1 ?side2 A8.out).mono ?_); (case side1 => repeat (first | exact (Kd.N_reads' HO115.out).2.2 | (with_reducible refine Kd.C_alloc ?_ _) | (with_reducible refine Kd.C_drewN ?_ _) | (with_reducible refine Kd.C_drew ?_))); (case side2 => exact (Kd.N_reads' HO115.out).2.1); rintro e w16 ⟨v118, rfl, ho0, hb⟩; have n0_ := Aside0.mk (Kd.V_elder' (by (with_reducible repeat (first | apply Kd.V_alloc | apply Kd.V_drewN | apply Kd.V_drew)); exact HO0.out) (Kd.R_base ho0) hb); have n1_ := Aside0.mk (Kd.R_elder' (by (with_reducible repeat (first | apply Kd.R_alloc | apply Kd.R_drewN | apply Kd.R_drew)); exact HO106.out) (Kd.R_base ho0) hb); have n2_ := Aside0.mk (Kd.N_elder' (by (with_reducible repeat (first | apply Kd.N_alloc | apply Kd.N_drewN | apply Kd.N_drew)); exact HO115.out) (Kd.R_base ho0) hb); have n3_ := Aside0.mk (Kd.R_lower (Kd.R_new' (Kd.R_newM (M := fun k_ => (w.heap.size ≤ k_)) ho0 (below_size (by repeat (first | (with_reducible first | exact HB.out | apply below_alloc | apply pw_below_drewN | apply below_drew1) | exact HB.out))) (fun k_ h_ => h_)) (Kd.R_lt (by (with_reducible repeat (first | apply Kd.R_alloc | apply Kd.R_drewN | apply Kd.R_drew)); exact HO106.out))) (below_size (by repeat (first | (with_reducible first | exact HB.out | apply below_alloc | apply pw_below_drewN | apply below_drew1) | exact HB.out)))); have n4_ := Aside0.mk (below_step (by repeat (first | (with_reducible first | exact HB.out | apply below_alloc | apply pw_below_drewN | apply below_drew1) | exact HB.out)) hb); clear HO0; clear HO106; clear HO115; clear HB; have HO0 := n0_; have HO106 := n1_; have HO115 := n2_; have HO119 := n3_; have HB := n4_; clear n0_ n1_ n2_ n3_ n4_; (try clear hb); (try clear hb2); (try clear hk); (try clear hi); (try clear ho0))); try go_wp2_with (first | (go_at_call 15; (with_reducible refine (sennitlaw19_awake.calls  t101 _ A2.out).mono ?_); rintro e w9 ⟨rfl, hb⟩; have n0_ := Aside0.mk (Kd.V_below (by (with_reducible repeat (first | apply Kd.V_alloc | apply Kd.V_drewN | apply Kd.V_drew)); exact HO0.out) hb); have n1_ := Aside0.mk (below_step (by repeat (first | (with_reducible first | exact HB.out | apply below_alloc | apply pw_below_drewN | apply below_drew1) | exact HB.out)) hb); clear HO0; clear HB; have HO0 := n0_; have HB := n1_; clear n0_ n1_; (try clear hb); (try clear hb2); (try clear hk); (try clear hi)) | (go_at_call 16; (refine (sennitref06_Few.calls k _ _ ([] : List ByteArray) _ _ l0 true _ ?side1 ?side2 ?side3 ?side4 A3.out).mono ?_); (case side1 => exact Kd.C_nil _ _); (case side2 => exact Nat.le_refl _); (case side3 => repeat (first | exact (Kd.V_reads' HO0.out).2.2 | (with_reducible refine Kd.C_alloc ?_ _) | (with_reducible refine Kd.C_drewN ?_ _) | (with_reducible refine Kd.C_drew ?_))); (case side4 => exact (Kd.V_reads' HO0.out).2.1); rintro e w' ⟨rfl, ⟨nd, rfl⟩⟩; (try first | exact ⟨rfl, _, World.drewN_drewN _ _ _⟩ | exact ⟨rfl, _, Eq.trans (World.drewN_drewN _ _ _) (congrArg (World.drewN _) (Nat.add_assoc _ _ _))⟩)) | (go_at_call 17; (with_reducible refine (gap_Coalesce.calls _ _ l0 t103 t104 _ ?side1 ?side2 A5.out).mono ?_); (case side1 => repeat (first | exact (Kd.V_reads' HO0.out).2.2 | (with_reducible refine Kd.C_alloc ?_ _) | (with_reducible refine Kd.C_drewN ?_ _) | (with_reducible refine Kd.C_drew ?_))); (case side2 => exact (Kd.V_reads' HO0.out).2.1); rintro e w10 ⟨v105, rfl, ho0, hb⟩; have n0_ := Aside0.mk (Kd.V_elder' (by (with_reducible repeat (first | apply Kd.V_alloc | apply Kd.V_drewN | apply Kd.V_drew)); exact HO0.out) (Kd.R_base ho0) hb); have n1_ := Aside0.mk (Kd.R_lower (Kd.R_newM (M := fun k_ => (w.heap.size ≤ k_)) ho0 (below_size (by repeat (first | (with_reducible first | exact HB.out | apply below_alloc | apply pw_below_drewN | apply below_drew1) | exact HB.out))) (fun k_ h_ => h_)) (below_size (by repeat (first | (with_reducible first | exact HB.out | apply below_alloc | apply pw_below_drewN | apply below_drew1) | exact HB.out)))); have n2_ := Aside0.mk (below_step (by repeat (first | (with_reducible first | exact HB.out | apply below_alloc | apply pw_below_drewN | apply below_drew1) | exact HB.out)) hb); clear HO0; clear HB; have HO0 := n0_; have HO106 := n1_; have HB := n2_; clear n0_ n1_ n2_; (try clear hb); (try clear hb2); (try clear hk); (try clear hi); (try clear ho0)) | ((with_reducible refine gate_dst (N := 23) rfl ?_); (try (refine gate_guard (by rfl) ?_; dsimp only)); refine Kd.N_lit (Kd.slice 9 Kd.string) _ 34 ?hg (N' := 23) ?hd (xs := ([] : List (List ByteArray))) (inner := []) (ok := (fun k_ => (P0_ k_ ∨ w.heap.size ≤ k_) ∧ some k_ ≠ (v105 : Value).ownBlock)) (okp := (fun k_ => (P0_ k_ ∨ w.heap.size ≤ k_) ∧ some k_ ≠ (v105 : Value).ownBlock)) ?hr ?hp (fun _ hk => hk) ((show ∀ k_, w10.heap.size ≤ k_ → (fun k_ => (P0_ k_ ∨ w.heap.size ≤ k_) ∧ some k_ ≠ (v105 : Value).ownBlock) k_ from fun k_ hk => ⟨(.inr (Nat.le_trans (below_size (by repeat (first | (with_reducible first | exact HB.out | apply below_alloc | apply pw_below_drewN | apply below_drew1) | exact HB.out))) hk)), Kd.fresh' (Kd.R_lt (by (with_reducible repeat (first | apply Kd.R_alloc | apply Kd.R_drewN | apply Kd.R_drew)); exact HO106.out)) k_ hk⟩) _ (Nat.le_refl _)) (Below.refl _ _) (Nat.le_refl _) (by simp) ?_; (case hd => rfl); (case hg => rfl); (case hr => first | (go_simp; done) | (go_simp; rfl)); (case hp => exact (Reps.none _ _)); intro v108 w11 ho12 hb hg_ hnew_; clear hg_ hnew_; (first | rw [← Ny107.out] at ho12 | (simp only [Int.reduceToNat] at ho12; rw [← Ny107.out] at ho12)); have n0_ := Aside0.mk (Kd.V_elder' (by (with_reducible repeat (first | apply Kd.V_alloc | apply Kd.V_drewN | apply Kd.V_drew)); exact HO0.out) (Kd.N_base ho12) hb); have n1_ := Aside0.mk (Kd.R_below (by (with_reducible repeat (first | apply Kd.R_alloc | apply Kd.R_drewN | apply Kd.R_drew)); exact HO106.out) hb); have n2_ := Aside0.mk (Kd.N_lower ho12 (below_size (by repeat (first | (with_reducible first | exact HB.out | apply below_alloc | apply pw_below_drewN | apply below_drew1) | exact HB.out)))); have n3_ := Aside0.mk (below_step (by repeat (first | (with_reducible first | exact HB.out | apply below_alloc | apply pw_below_drewN | apply below_drew1) | exact HB.out)) hb); clear HO0; clear HO106; clear HB; have HO0 := n0_; have HO106 := n1_; have HO109 := n2_; have HB := n3_; clear n0_ n1_ n2_ n3_; clear hb ho12) | ((with_reducible refine gate_builtin (b := .append) (xs := #[.tmp 23, .tmp 24]) rfl ?_); (try (refine gate_guard (by rfl) ?_; dsimp only)); at_builtin; refine Kd.N_append_rows (Kd.slice 9 Kd.string) (w0 := w) w.heap.size rfl (.tmp 23) (.tmp 24) 22 34 (.slice none 0 0) 24 rfl Try.underlying22 info34 rfl (by decide) (by omega) v108 y107 l0 _ _ _ (fun k_ => (P0_ k_ ∨ w.heap.size ≤ k_) ∧ some k_ ≠ (v105 : Value).ownBlock) (fun k_ => ((fun k_ => (P0_ k_ ∨ w.heap.size ≤ k_) ∧ some k_ ≠ (v105 : Value).ownBlock)) k_ ∧ some k_ ≠ (v108 : Value).ownBlock) rfl rfl ?aO ?aR (fun _ hk => hk) ?aF ?aB ?aS ?aL ?_; (case aR => exact (by skip; exact Kd.V_F (Kd.V_mono (ok' := (fun k_ => ((fun k_ => (P0_ k_ ∨ w.heap.size ≤ k_) ∧ some k_ ≠ (v105 : Value).ownBlock)) k_ ∧ some k_ ≠ (v108 : Value).ownBlock)) (HO0.out) (fun k_ hk => ⟨⟨hk.1.1, hk.1.2⟩, hk.2⟩)))); (case aB => exact (by repeat (first | (with_reducible first | exact HB.out | apply below_alloc | apply pw_below_drewN | apply below_drew1) | exact HB.out))); (case aF => exact (fun k_ hk => ⟨(.inr (Nat.le_trans (below_size (by repeat (first | (with_reducible first | exact HB.out | apply below_alloc | apply pw_below_drewN | apply below_drew1) | exact HB.out))) hk)), Kd.fresh' (Kd.R_lt (by (with_reducible repeat (first | apply Kd.R_alloc | apply Kd.R_drewN | apply Kd.R_drew)); exact HO106.out)) k_ hk⟩)); (case aO => exact (by (with_reducible repeat (first | apply Kd.N_alloc | apply Kd.N_drewN | apply Kd.N_drew)); exact HO109.out)); (case aS => exact (below_size (by repeat (first | (with_reducible first | exact HB.out | apply below_alloc | apply pw_below_drewN | apply below_drew1) | exact HB.out)))); (case aL => have := LMc6.out; omega); intro v111 w13 ho hb hg hat; rw [← Ny110.out] at ho; have n0_ := Aside0.mk (Kd.V_afterv (ok := (fun k_ => (P0_ k_ ∨ w.heap.size ≤ k_) ∧ some k_ ≠ (v105 : Value).ownBlock)) (by (with_reducible repeat (first | apply Kd.V_alloc | apply Kd.V_drewN | apply Kd.V_drew)); exact HO0.out) hg hat); have n1_ := Aside0.mk (Kd.R_over' (by (with_reducible repeat (first | apply Kd.R_alloc | apply Kd.R_drewN | apply Kd.R_drew)); exact HO106.out) (Kd.N_typed (by (with_reducible repeat (first | apply Kd.N_alloc | apply Kd.N_drewN | apply Kd.N_drew)); exact HO109.out)) (by decide) hg); have n2_ := Aside0.mk (hb); have n3_ := Aside0.mk (ho); clear HO0; clear HO106; clear HB; clear HO109; have HO0 := n0_; have HO106 := n1_; have HB := n2_; have HO112 := n3_; clear n0_ n1_ n2_ n3_; clear ho hb hg hat) | ((with_reducible refine gate_builtin (b := .append) (xs := #[.tmp 25, .tmp 26]) rfl ?_); (try (refine gate_guard (by rfl) ?_; dsimp only)); at_builtin; refine Kd.N_append (Kd.slice 9 Kd.string) (w0 := w) w.heap.size rfl (.tmp 25) (.tmp 26) 22 34 (.slice none 0 0) 24 rfl Try.underlying22 info34 rfl (by decide) (by omega) v111 y110 [] [.slice none 0 0] (fun k_ => (P0_ k_ ∨ w.heap.size ≤ k_) ∧ some k_ ≠ (v105 : Value).ownBlock) (fun _ => False) rfl rfl ?aP (fun _ hk => hk.elim) ?aF ?aO ?aB ?aS ?aL ?_; (case aP => exact (Kd.FK_slice_mk (Nat.le_refl _) (Kd.F_nil _ _ _))); (case aB => exact (by repeat (first | (with_reducible first | exact HB.out | apply below_alloc | apply pw_below_drewN | apply below_drew1) | exact HB.out))); (case aF => exact (fun k_ hk => ⟨(.inr (Nat.le_trans (below_size (by repeat (first | (with_reducible first | exact HB.out | apply below_alloc | apply pw_below_drewN | apply below_drew1) | exact HB.out))) hk)), Kd.fresh' (Kd.R_lt (by (with_reducible repeat (first | apply Kd.R_alloc | apply Kd.R_drewN | apply Kd.R_drew)); exact HO106.out)) k_ hk⟩)); (case aO => exact (by (with_reducible repeat (first | apply Kd.N_alloc | apply Kd.N_drewN | apply Kd.N_drew)); exact HO112.out)); (case aS => exact (below_size (by repeat (first | (with_reducible first | exact HB.out | apply below_alloc | apply pw_below_drewN | apply below_drew1) | exact HB.out)))); (case aL => have := LMc7.out; omega); intro v114 w14 ho hb hg hat; rw [← Ny113.out] at ho; have n0_ := Aside0.mk (Kd.V_afterv (ok := (fun k_ => (P0_ k_ ∨ w.heap.size ≤ k_) ∧ some k_ ≠ (v105 : Value).ownBlock)) (by (with_reducible repeat (first | apply Kd.V_alloc | apply Kd.V_drewN | apply Kd.V_drew)); exact HO0.out) hg hat); have n1_ := Aside0.mk (Kd.R_over' (by (with_reducible repeat (first | apply Kd.R_alloc | apply Kd.R_drewN | apply Kd.R_drew)); exact HO106.out) (Kd.N_typed (by (with_reducible repeat (first | apply Kd.N_alloc | apply Kd.N_drewN | apply Kd.N_drew)); exact HO112.out)) (by decide) hg); have n2_ := Aside0.mk (hb); have n3_ := Aside0.mk (ho); clear HO0; clear HO106; clear HB; clear HO112; have HO0 := n0_; have HO106 := n1_; have HB := n2_; have HO115 := n3_; clear n0_ n1_ n2_ n3_; clear ho hb hg hat; obtain ⟨Ao15, co15, eo15⟩ := Kd.N_slice HO115.out; subst eo15) | (go_at_call 17; (with_reducible refine (gap_Coalesce.calls _ _ y113 t116 t117 _ ?side1 ?side2 A8.out).mono ?_); (case side1 => repeat (first | exact (Kd.N_reads' HO115.out).2.2 | (with_reducible refine Kd.C_alloc ?_ _) | (with_reducible refine Kd.C_drewN ?_ _) | (with_reducible refine Kd.C_drew ?_))); (case side2 => exact (Kd.N_reads' HO115.out).2.1); rintro e w16 ⟨v118, rfl, ho0, hb⟩; have n0_ := Aside0.mk (Kd.V_elder' (by (with_reducible repeat (first | apply Kd.V_alloc | apply Kd.V_drewN | apply Kd.V_drew)); exact HO0.out) (Kd.R_base ho0) hb); have n1_ := Aside0.mk (Kd.R_elder' (by (with_reducible repeat (first | apply Kd.R_alloc | apply Kd.R_drewN | apply Kd.R_drew)); exact HO106.out) (Kd.R_base ho0) hb); have n2_ := Aside0.mk (Kd.N_elder' (by (with_reducible repeat (first | apply Kd.N_alloc | apply Kd.N_drewN | apply Kd.N_drew)); exact HO115.out) (Kd.R_base ho0) hb); have n3_ := Aside0.mk (Kd.R_lower (Kd.R_new' (Kd.R_newM (M := fun k_ => (w.heap.size ≤ k_)) ho0 (below_size (by repeat (first | (with_reducible first | exact HB.out | apply below_alloc | apply pw_below_drewN | apply below_drew1) | exact HB.out))) (fun k_ h_ => h_)) (Kd.R_lt (by (with_reducible repeat (first | apply Kd.R_alloc | apply Kd.R_drewN | apply Kd.R_drew)); exact HO106.out))) (below_size (by repeat (first | (with_reducible first | exact HB.out | apply below_alloc | apply pw_below_drewN | apply below_drew1) | exact HB.out)))); have n4_ := Aside0.mk (below_step (by repeat (first | (with_reducible first | exact HB.out | apply below_alloc | apply pw_below_drewN | apply below_drew1) | exact HB.out)) hb); clear HO0; clear HO106; clear HO115; clear HB; have HO0 := n0_; have HO106 := n1_; have HO115 := n2_; have HO119 := n3_; have HB := n4_; clear n0_ n1_ n2_ n3_ n4_; (try clear hb); (try clear hb2); (try clear hk); (try clear hi); (try clear ho0))))
        go_loopg [8, 9, 10] k (fun kq v8 v9 v10 w' => ∃ (x8_1 : Int) (x9_1 : Int) (x10_1 : Int), v8 = .int .i64 x8_1 ∧ v9 = .int .i64 x9_1 ∧ v10 = .int .i64 x10_1 ∧ Aside0 (sennitlaw19_GapFew.l0 kq l0 t101 t103 t116 t117 x8_1 x9_1 x10_1 = some r) ∧ Aside0 (kq ≤ k) ∧ Aside0 (Kd.V (Kd.slice 9 Kd.string) 34 w' w.heap.size (fun k_ => (P0_ k_ ∨ w.heap.size ≤ k_) ∧ some k_ ≠ (v105 : Value).ownBlock ∧ some k_ ≠ (v118 : Value).ownBlock) (.slice A0 l0.length c0) l0) ∧ Aside0 (Kd.R k37 37 w' w.heap.size (fun k_ => (w.heap.size ≤ k_) ∧ some k_ ≠ (v118 : Value).ownBlock) v105 t103) ∧ Aside0 (Kd.R k37 37 w' w.heap.size (fun k_ => (w.heap.size ≤ k_) ∧ some k_ ≠ (v105 : Value).ownBlock) v118 t116) ∧ Aside0 (Below w.heap.size w w'))
        case atStart => exact ⟨(0), (0), (0), (by first | rfl | (simp; done) | (simp [*]; done)), (by first | rfl | (simp; done) | (simp [*]; done)), (by first | rfl | (simp; done) | (simp [*]; done)), H', ⟨Nat.le_refl _⟩, ⟨by (with_reducible repeat (first | apply Kd.V_alloc | apply Kd.V_drewN | apply Kd.V_drew)); exact Kd.V_mono HO0.out (fun _ hk => ⟨hk.1.1.1, ⟨hk.1.1.2, hk.2⟩⟩)⟩, ⟨by (with_reducible repeat (first | apply Kd.R_alloc | apply Kd.R_drewN | apply Kd.R_drew)); exact Kd.R_mono HO106.out (fun _ hk => ⟨hk.1.1, hk.2⟩)⟩, ⟨by (with_reducible repeat (first | apply Kd.R_alloc | apply Kd.R_drewN | apply Kd.R_drew)); exact Kd.R_mono HO119.out (fun _ hk => ⟨hk.1.1, hk.2⟩)⟩, ⟨by repeat (first | (with_reducible first | exact HB.out | apply below_alloc | apply pw_below_drewN | apply below_drew1) | exact HB.out)⟩⟩
        case round =>
          clear H'
          try clear p2
          try clear c4
          try clear c6
          try clear c7
          obtain ⟨x8_1, x9_1, x10_1, rfl, rfl, rfl, HA, HK1, HO_0, HO_4, HO_6, HB⟩ := hrel
          cases gk with
          | zero => exact absurd HA.out (by simp [sennitlaw19_GapFew.l0])
          | succ k1 =>
            have H := HA.out
            clear HA
            simp only [sennitlaw19_GapFew.l0] at H
            by_cases c17 : x10_1 < (l0.length : Int)
            · rw [if_pos c17] at H
              have c17b0 : decide (x10_1 < (l0.length : Int)) = true := decide_eq_true c17
              clear c17
              by_cases c18 : 0 ≤ x10_1
              · rw [if_pos c18] at H
                have c18b0 : decide (0 ≤ x10_1) = true := decide_eq_true c18
                clear c18
                obtain ⟨ji19, hji19⟩ : ∃ j_ : Int, (mx x9_1 ((rd_L1 l0 x10_1).length : Int)) = j_ := ⟨_, rfl⟩
                replace H : (sennitlaw19_GapFew.l0 k1 l0 t101 t103 t116 t117 (wrap64 (x8_1 + ((rd_L1 l0 x10_1).length : Int))) ji19 (wrap64 (x10_1 + 1))) = some r := by first | (rw [hji19] at H; exact H) | (simp only [hji19] at H ⊢; exact H)
                have hji19_ : (if x9_1 < ((rd_L1 l0 x10_1).length : Int) then ((rd_L1 l0 x10_1).length : Int) else x9_1) = ji19 := hji19
                have H' := Aside0.mk H
                clear H
                have p120 : 0 ≤ (x10_1 : Int) := of_decide_eq_true (by first | (with_reducible assumption) | assumption)
                have q120 : x10_1 < (l0.length : Int) := of_decide_eq_true (by first | (with_reducible assumption) | assumption)
                obtain ⟨ad120, A120_0, c120_0, e120, hx120_0, hl120_0, hi120_0⟩ := at_L1 (Kd.V_reads' HO_0.out).2.2 x10_1 p120 q120
                cases e120
                obtain ⟨ce120, hce120, hMe120, hcc120⟩ := Kd.V_get HO_0.out [] x10_1 p120 (by first | exact q120 | exact of_decide_eq_true (by first | (with_reducible assumption) | assumption) | (have e_ := (Kd.V_reads' HO_0.out).1; omega))
                obtain ⟨ua120_0, uc120_0, rfl, ul120_0, ge120_0⟩ := Kd.FK_slice_open hMe120
                have hv120_0 := hcc120 0 _ rfl
                rw [Nat.add_zero, show ((Kd.slice 9 Kd.string)).sz = 1 from rfl, Nat.mul_one] at hv120_0
                replace hv120_0 := Option.some.inj (hv120_0.symm.trans hx120_0)
                injection hv120_0 with hva_ hvn_ hvc_
                rw [hva_] at ge120_0
                rw [hvc_] at ul120_0
                have HL120_0 := Aside0.mk (show Kd.V Kd.string 9 _ w.heap.size _ _ (rd_L1 l0 x10_1) from Kd.V_mk ul120_0 ge120_0)
                clear hva_ hvn_ hvc_ ge120_0 ul120_0
                clear hcc120 hce120
                have HR120_0 := Aside0.mk hi120_0
                have HC120_0 := Aside0.mk hl120_0
                clear hi120_0 hl120_0
                replace p120 := eq_true p120
                replace q120 := eq_true q120
                have p121 : 0 ≤ (x10_1 : Int) := of_decide_eq_true (by first | (with_reducible assumption) | assumption)
                have q121 : x10_1 < (l0.length : Int) := of_decide_eq_true (by first | (with_reducible assumption) | assumption)
                obtain ⟨ad121, A121_0, c121_0, e121, hx121_0, hl121_0, hi121_0⟩ := at_L1 (Kd.V_reads' HO_0.out).2.2 x10_1 p121 q121
                obtain rfl : ad120 = ad121 := (by injection e121)
                obtain ⟨ce121, hce121, hMe121, hcc121⟩ := Kd.V_get HO_0.out [] x10_1 p121 (by first | exact q121 | exact of_decide_eq_true (by first | (with_reducible assumption) | assumption) | (have e_ := (Kd.V_reads' HO_0.out).1; omega))
                obtain ⟨ua121_0, uc121_0, rfl, ul121_0, ge121_0⟩ := Kd.FK_slice_open hMe121
                have hv121_0 := hcc121 0 _ rfl
                rw [Nat.add_zero, show ((Kd.slice 9 Kd.string)).sz = 1 from rfl, Nat.mul_one] at hv121_0
                replace hv121_0 := Option.some.inj (hv121_0.symm.trans hx121_0)
                injection hv121_0 with hva_ hvn_ hvc_
                rw [hva_] at ge121_0
                rw [hvc_] at ul121_0
                have HL121_0 := Aside0.mk (show Kd.V Kd.string 9 _ w.heap.size _ _ (rd_L1 l0 x10_1) from Kd.V_mk ul121_0 ge121_0)
                clear hva_ hvn_ hvc_ ge121_0 ul121_0
                clear hcc121 hce121
                have HR121_0 := Aside0.mk hi121_0
                have HC121_0 := Aside0.mk hl121_0
                clear hi121_0 hl121_0
                replace p121 := eq_true p121
                replace q121 := eq_true q121
                have ea_ := Option.some.inj (hx120_0.symm.trans hx121_0)
                injection ea_ with ea_ en_ ec_
                subst ea_
                subst ec_
                clear en_
                go_wp2
                repeat (go_quiet (fail); try go_wp2)
                go_roundg k1
                case measure => have := HK1.out; omega
                case rel => exact ⟨(wrap64 (x8_1 + ((rd_L1 l0 x10_1).length : Int))), (ji19), (wrap64 (x10_1 + 1)), (by first | rfl | (simp; done) | (simp [*]; done)), (by first | rfl | (simp; done) | (simp only [← hji19] <;> (first | rfl | simp)) | (simp [*]; done)), (by first | rfl | (simp; done) | (simp [*]; done)), H', ⟨by have := HK1.out; omega⟩, ⟨by (with_reducible repeat (first | apply Kd.V_alloc | apply Kd.V_drewN | apply Kd.V_drew)); exact HO_0.out⟩, ⟨by (with_reducible repeat (first | apply Kd.R_alloc | apply Kd.R_drewN | apply Kd.R_drew)); exact HO_4.out⟩, ⟨by (with_reducible repeat (first | apply Kd.R_alloc | apply Kd.R_drewN | apply Kd.R_drew)); exact HO_6.out⟩, ⟨by repeat (first | (with_reducible first | exact HB.out | apply below_alloc | apply pw_below_drewN | apply below_drew1) | exact HB.out)⟩⟩
              · rw [if_neg c18] at H
                exact absurd H (by simp)
            · rw [if_neg c17] at H
              have c17b0 : decide (x10_1 < (l0.length : Int)) = false := decide_eq_false c17
              clear c17
              have H' := Aside0.mk H
              clear H
              go_wp2
              repeat (go_quiet (fail); try go_wp2)
              go_loopg [11] k1 (fun kq v11 w' => ∃ (x11_2 : Int), v11 = .int .i64 x11_2 ∧ Aside0 (sennitlaw19_GapFew.l1 kq t101 t103 t116 t117 x8_1 x9_1 x11_2 = some r) ∧ Aside0 (kq ≤ k1) ∧ Aside0 (Kd.R k37 37 w' w.heap.size (fun k_ => (w.heap.size ≤ k_) ∧ some k_ ≠ (v118 : Value).ownBlock) v105 t103) ∧ Aside0 (Kd.R k37 37 w' w.heap.size (fun k_ => (w.heap.size ≤ k_) ∧ some k_ ≠ (v105 : Value).ownBlock) v118 t116) ∧ Aside0 (Below w.heap.size w w'))
              case atStart => exact ⟨(0), (by first | rfl | (simp; done) | (simp [*]; done)), H', ⟨Nat.le_refl _⟩, ⟨by (with_reducible repeat (first | apply Kd.R_alloc | apply Kd.R_drewN | apply Kd.R_drew)); exact HO_4.out⟩, ⟨by (with_reducible repeat (first | apply Kd.R_alloc | apply Kd.R_drewN | apply Kd.R_drew)); exact HO_6.out⟩, ⟨by repeat (first | (with_reducible first | exact HB.out | apply below_alloc | apply pw_below_drewN | apply below_drew1) | exact HB.out)⟩⟩
              case round =>
                clear H'
                try clear c1
                try clear p1
                try clear q1
                try clear hx1
                try clear p2
                try clear c4
                try clear c6
                try clear p6
                try clear c7
                try clear c12
                try clear p12
                try clear q12
                try clear hx12
                try clear c17
                try clear c17b0
                try clear c18
                try clear c18b0
                try clear hx120_0
                try clear hx121_0
                try clear p120
                try clear p121
                try clear p2
                try clear q120
                try clear q121
                obtain ⟨x11_2, rfl, HA, HK2, HO_4, HO_6, HB⟩ := hrel
                cases gk with
                | zero => exact absurd HA.out (by simp [sennitlaw19_GapFew.l1])
                | succ k2 =>
                  have H := HA.out
                  clear HA
                  simp only [sennitlaw19_GapFew.l1] at H
                  have HC20 := Aside0.mk H
                  clear H
                  go_upto_region 14 with (fail)
                  repeat (go_quiet (fail); go_upto_region 14 with (fail))
                  go_cut [60] (fun v60 wc => ∃ (kq : Nat) (x60_19 : Bool), v60 = .bool x60_19 ∧ Aside0 (sennitlaw19_GapFew.j2 kq t101 t103 t116 t117 x8_1 x9_1 x11_2 x60_19 = some r) ∧ Aside0 (kq ≤ k2) ∧ Aside0 (Kd.R k37 37 wc w.heap.size (fun k_ => (w.heap.size ≤ k_) ∧ some k_ ≠ (v118 : Value).ownBlock) v105 t103) ∧ Aside0 (Kd.R k37 37 wc w.heap.size (fun k_ => (w.heap.size ≤ k_) ∧ some k_ ≠ (v105 : Value).ownBlock) v118 t116) ∧ Aside0 (Below w.heap.size w wc))
                  case first =>
                    have H := HC20.out
                    clear HC20
                    by_cases c21 : x11_2 < (t103.length : Int)
                    · rw [if_pos c21] at H
                      have c21b0 : decide (x11_2 < (t103.length : Int)) = true := decide_eq_true c21
                      clear c21
                      (first | rw [c21b0] | (simp only [i64_w, i32_w]; rw [c21b0]) | skip)
                      have H' := Aside0.mk H
                      clear H
                      obtain ⟨Ao22, co22, eo22⟩ := Kd.R_slice HO_4.out
                      subst eo22
                      obtain ⟨Ao23, co23, eo23⟩ := Kd.R_slice HO_6.out
                      subst eo23
                      go_wp2
                      repeat (go_quiet (fail); try go_wp2)
                      go_meet
                      case rel => exact ⟨_, (decide (x11_2 < (t116.length : Int))), (by first | rfl | (simp; done) | (simp [*]; done)), H', ⟨by have := HK1.out; have := HK2.out; first | omega | exact Nat.le_refl _⟩, ⟨by (with_reducible repeat (first | apply Kd.R_alloc | apply Kd.R_drewN | apply Kd.R_drew)); exact HO_4.out⟩, ⟨by (with_reducible repeat (first | apply Kd.R_alloc | apply Kd.R_drewN | apply Kd.R_drew)); exact HO_6.out⟩, ⟨by repeat (first | (with_reducible first | exact HB.out | apply below_alloc | apply pw_below_drewN | apply below_drew1) | exact HB.out)⟩⟩
                    · rw [if_neg c21] at H
                      have c21b0 : decide (x11_2 < (t103.length : Int)) = false := decide_eq_false c21
                      clear c21
                      (first | rw [c21b0] | (simp only [i64_w, i32_w]; rw [c21b0]) | skip)
                      have H' := Aside0.mk H
                      clear H
                      obtain ⟨Ao24, co24, eo24⟩ := Kd.R_slice HO_4.out
                      subst eo24
                      go_wp2
                      repeat (go_quiet (fail); try go_wp2)
                      go_meet
                      case rel => exact ⟨_, (false), (by first | rfl | (simp; done) | (simp [*]; done)), H', ⟨by have := HK1.out; have := HK2.out; first | omega | exact Nat.le_refl _⟩, ⟨by (with_reducible repeat (first | apply Kd.R_alloc | apply Kd.R_drewN | apply Kd.R_drew)); exact HO_4.out⟩, ⟨by (with_reducible repeat (first | apply Kd.R_alloc | apply Kd.R_drewN | apply Kd.R_drew)); exact HO_6.out⟩, ⟨by repeat (first | (with_reducible first | exact HB.out | apply below_alloc | apply pw_below_drewN | apply below_drew1) | exact HB.out)⟩⟩
                  case rest =>
                    clear HC20
                    try clear c1
                    try clear p1
                    try clear q1
                    try clear hx1
                    try clear c2
                    try clear p2
                    try clear c4
                    try clear c6
                    try clear p6
                    try clear c7
                    try clear c12
                    try clear p12
                    try clear q12
                    try clear hx12
                    try clear c17
                    try clear c17b0
                    try clear c18
                    try clear c18b0
                    try clear c21
                    try clear c21b0
                    try clear hx120_0
                    try clear hx121_0
                    try clear p1
                    try clear p12
                    try clear p120
                    try clear p121
                    try clear p2
                    try clear p6
                    try clear q1
                    try clear q12
                    try clear q120
                    try clear q121
                    obtain ⟨kq, x60_19, rfl, HA, HJ19, HO_4, HO_6, HB⟩ := hcut
                    cases kq with
                    | zero => exact absurd HA.out (by simp [sennitlaw19_GapFew.j2])
                    | succ kj19 =>
                      have H := HA.out
                      clear HA
                      simp only [sennitlaw19_GapFew.j2] at H
                      by_cases c25 : x60_19 = true
                      · subst c25
                        have H1 : (if 0 ≤ x11_2 then (if x11_2 < (t116.length : Int) then (if x11_2 < (t103.length : Int) then (if ((rd_T37 t103 x11_2).f0).size + 1 ≤ 9223372036854775807 then (if ((rd_T37 t116 x11_2).f0).toList = (((rd_T37 t103 x11_2).f0) ++ (⟨#[32]⟩ : ByteArray)).toList then (if ((rd_T37 t116 x11_2).f1).toList = ((rd_T37 t103 x11_2).f1).toList then (sennitlaw19_GapFew.l1 kj19 t101 t103 t116 t117 x8_1 x9_1 (wrap64 (x11_2 + 1))) else (some false)) else (some false)) else (none)) else (none)) else (none)) else (none)) = some r := by rw [if_pos rfl] at H; exact H
                        clear H
                        have H := H1
                        clear H1
                        by_cases c26 : 0 ≤ x11_2
                        · rw [if_pos c26] at H
                          have c26b0 : decide (0 ≤ x11_2) = true := decide_eq_true c26
                          clear c26
                          by_cases c27 : x11_2 < (t116.length : Int)
                          · rw [if_pos c27] at H
                            have c27b0 : decide (x11_2 < (t116.length : Int)) = true := decide_eq_true c27
                            clear c27
                            by_cases c28 : x11_2 < (t103.length : Int)
                            · rw [if_pos c28] at H
                              have c28b0 : decide (x11_2 < (t103.length : Int)) = true := decide_eq_true c28
                              clear c28
                              by_cases c29 : ((rd_T37 t103 x11_2).f0).size + 1 ≤ 9223372036854775807
                              · rw [if_pos c29] at H
                                have c29b0 := eq_true c29
                                have c29b1 : decide (((rd_T37 t103 x11_2).f0).size + 1 ≤ 9223372036854775807) = true := decide_eq_true c29
                                try have c29b2 : (9223372036854775807 < ((rd_T37 t103 x11_2).f0).size + 1) = False := eq_false (Nat.not_lt.2 c29)
                                by_cases c30 : ((rd_T37 t116 x11_2).f0).toList = (((rd_T37 t103 x11_2).f0) ++ (⟨#[32]⟩ : ByteArray)).toList
                                · rw [if_pos c30] at H
                                  have c30b0 : (((rd_T37 t116 x11_2).f0).toList == (((rd_T37 t103 x11_2).f0) ++ (⟨#[32]⟩ : ByteArray)).toList) = true := beq_iff_eq.mpr c30
                                  have c30b1 : (((rd_T37 t116 x11_2).f0).toList != (((rd_T37 t103 x11_2).f0) ++ (⟨#[32]⟩ : ByteArray)).toList) = false := bne_eq_false_iff_eq.mpr c30
                                  clear c30
                                  by_cases c31 : ((rd_T37 t116 x11_2).f1).toList = ((rd_T37 t103 x11_2).f1).toList
                                  · rw [if_pos c31] at H
                                    have c31b0 : (((rd_T37 t116 x11_2).f1).toList == ((rd_T37 t103 x11_2).f1).toList) = true := beq_iff_eq.mpr c31
                                    have c31b1 : (((rd_T37 t116 x11_2).f1).toList != ((rd_T37 t103 x11_2).f1).toList) = false := bne_eq_false_iff_eq.mpr c31
                                    clear c31
                                    have H' := Aside0.mk H
                                    clear H
                                    obtain ⟨Ao32, co32, eo32⟩ := Kd.R_slice HO_6.out
                                    subst eo32
                                    have p122 : 0 ≤ (x11_2 : Int) := of_decide_eq_true (by first | (with_reducible assumption) | assumption)
                                    have q122 : x11_2 < (t116.length : Int) := of_decide_eq_true (by first | (with_reducible assumption) | assumption)
                                    obtain ⟨ad122, e122, hx122_0, hx122_1⟩ := at_T37 (Kd.R_reads' HO_6.out).2.2 x11_2 p122 q122
                                    cases e122
                                    replace p122 := eq_true p122
                                    replace q122 := eq_true q122
                                    obtain ⟨Ao33, co33, eo33⟩ := Kd.R_slice HO_4.out
                                    subst eo33
                                    have p123 : 0 ≤ (x11_2 : Int) := of_decide_eq_true (by first | (with_reducible assumption) | assumption)
                                    have q123 : x11_2 < (t103.length : Int) := of_decide_eq_true (by first | (with_reducible assumption) | assumption)
                                    obtain ⟨ad123, e123, hx123_0, hx123_1⟩ := at_T37 (Kd.R_reads' HO_4.out).2.2 x11_2 p123 q123
                                    cases e123
                                    replace p123 := eq_true p123
                                    replace q123 := eq_true q123
                                    have p124 : 0 ≤ (x11_2 : Int) := of_decide_eq_true (by first | (with_reducible assumption) | assumption)
                                    have q124 : x11_2 < (t116.length : Int) := of_decide_eq_true (by first | (with_reducible assumption) | assumption)
                                    obtain ⟨ad124, e124, hx124_0, hx124_1⟩ := at_T37 (Kd.R_reads' HO_6.out).2.2 x11_2 p124 q124
                                    obtain rfl : ad122 = ad124 := (by injection e124)
                                    replace p124 := eq_true p124
                                    replace q124 := eq_true q124
                                    have p125 : 0 ≤ (x11_2 : Int) := of_decide_eq_true (by first | (with_reducible assumption) | assumption)
                                    have q125 : x11_2 < (t103.length : Int) := of_decide_eq_true (by first | (with_reducible assumption) | assumption)
                                    obtain ⟨ad125, e125, hx125_0, hx125_1⟩ := at_T37 (Kd.R_reads' HO_4.out).2.2 x11_2 p125 q125
                                    obtain rfl : ad123 = ad125 := (by injection e125)
                                    replace p125 := eq_true p125
                                    replace q125 := eq_true q125
                                    go_wp2
                                    repeat (go_quiet (fail); try go_wp2)
                                    go_roundg kj19
                                    case measure => have := HK1.out; have := HK2.out; have := HJ19.out; omega
                                    case rel => exact ⟨(wrap64 (x11_2 + 1)), (by first | rfl | (simp; done) | (simp [*]; done)), H', ⟨by have := HK1.out; have := HK2.out; have := HJ19.out; omega⟩, ⟨by (with_reducible repeat (first | apply Kd.R_alloc | apply Kd.R_drewN | apply Kd.R_drew)); exact HO_4.out⟩, ⟨by (with_reducible repeat (first | apply Kd.R_alloc | apply Kd.R_drewN | apply Kd.R_drew)); exact HO_6.out⟩, ⟨by repeat (first | (with_reducible first | exact HB.out | apply below_alloc | apply pw_below_drewN | apply below_drew1) | exact HB.out)⟩⟩
                                  · rw [if_neg c31] at H
                                    have c31b0 : (((rd_T37 t116 x11_2).f1).toList == ((rd_T37 t103 x11_2).f1).toList) = false := beq_eq_false_iff_ne.mpr c31
                                    have c31b1 : (((rd_T37 t116 x11_2).f1).toList != ((rd_T37 t103 x11_2).f1).toList) = true := bne_iff_ne.mpr c31
                                    obtain rfl := Option.some.inj H
                                    obtain ⟨Ao34, co34, eo34⟩ := Kd.R_slice HO_6.out
                                    subst eo34
                                    have p122 : 0 ≤ (x11_2 : Int) := of_decide_eq_true (by first | (with_reducible assumption) | assumption)
                                    have q122 : x11_2 < (t116.length : Int) := of_decide_eq_true (by first | (with_reducible assumption) | assumption)
                                    obtain ⟨ad122, e122, hx122_0, hx122_1⟩ := at_T37 (Kd.R_reads' HO_6.out).2.2 x11_2 p122 q122
                                    cases e122
                                    replace p122 := eq_true p122
                                    replace q122 := eq_true q122
                                    obtain ⟨Ao35, co35, eo35⟩ := Kd.R_slice HO_4.out
                                    subst eo35
                                    have p123 : 0 ≤ (x11_2 : Int) := of_decide_eq_true (by first | (with_reducible assumption) | assumption)
                                    have q123 : x11_2 < (t103.length : Int) := of_decide_eq_true (by first | (with_reducible assumption) | assumption)
                                    obtain ⟨ad123, e123, hx123_0, hx123_1⟩ := at_T37 (Kd.R_reads' HO_4.out).2.2 x11_2 p123 q123
                                    cases e123
                                    replace p123 := eq_true p123
                                    replace q123 := eq_true q123
                                    have p124 : 0 ≤ (x11_2 : Int) := of_decide_eq_true (by first | (with_reducible assumption) | assumption)
                                    have q124 : x11_2 < (t116.length : Int) := of_decide_eq_true (by first | (with_reducible assumption) | assumption)
                                    obtain ⟨ad124, e124, hx124_0, hx124_1⟩ := at_T37 (Kd.R_reads' HO_6.out).2.2 x11_2 p124 q124
                                    obtain rfl : ad122 = ad124 := (by injection e124)
                                    replace p124 := eq_true p124
                                    replace q124 := eq_true q124
                                    have p125 : 0 ≤ (x11_2 : Int) := of_decide_eq_true (by first | (with_reducible assumption) | assumption)
                                    have q125 : x11_2 < (t103.length : Int) := of_decide_eq_true (by first | (with_reducible assumption) | assumption)
                                    obtain ⟨ad125, e125, hx125_0, hx125_1⟩ := at_T37 (Kd.R_reads' HO_4.out).2.2 x11_2 p125 q125
                                    obtain rfl : ad123 = ad125 := (by injection e125)
                                    replace p125 := eq_true p125
                                    replace q125 := eq_true q125
                                    go_wp2
                                    repeat (go_quiet (fail); try go_wp2)
                                    go_ret
                                    exact ⟨by first | rfl | (simp [errW_none, errW_some] <;> rfl) | (simp [*, errW_none, errW_some] <;> rfl), by repeat (first | (with_reducible first | exact HB.out | apply below_alloc | apply pw_below_drewN | apply below_drew1) | exact HB.out)⟩
                                · rw [if_neg c30] at H
                                  have c30b0 : (((rd_T37 t116 x11_2).f0).toList == (((rd_T37 t103 x11_2).f0) ++ (⟨#[32]⟩ : ByteArray)).toList) = false := beq_eq_false_iff_ne.mpr c30
                                  have c30b1 : (((rd_T37 t116 x11_2).f0).toList != (((rd_T37 t103 x11_2).f0) ++ (⟨#[32]⟩ : ByteArray)).toList) = true := bne_iff_ne.mpr c30
                                  obtain rfl := Option.some.inj H
                                  obtain ⟨Ao36, co36, eo36⟩ := Kd.R_slice HO_6.out
                                  subst eo36
                                  have p122 : 0 ≤ (x11_2 : Int) := of_decide_eq_true (by first | (with_reducible assumption) | assumption)
                                  have q122 : x11_2 < (t116.length : Int) := of_decide_eq_true (by first | (with_reducible assumption) | assumption)
                                  obtain ⟨ad122, e122, hx122_0, hx122_1⟩ := at_T37 (Kd.R_reads' HO_6.out).2.2 x11_2 p122 q122
                                  cases e122
                                  replace p122 := eq_true p122
                                  replace q122 := eq_true q122
                                  obtain ⟨Ao37, co37, eo37⟩ := Kd.R_slice HO_4.out
                                  subst eo37
                                  have p123 : 0 ≤ (x11_2 : Int) := of_decide_eq_true (by first | (with_reducible assumption) | assumption)
                                  have q123 : x11_2 < (t103.length : Int) := of_decide_eq_true (by first | (with_reducible assumption) | assumption)
                                  obtain ⟨ad123, e123, hx123_0, hx123_1⟩ := at_T37 (Kd.R_reads' HO_4.out).2.2 x11_2 p123 q123
                                  cases e123
                                  replace p123 := eq_true p123
                                  replace q123 := eq_true q123
                                  go_wp2
                                  repeat (go_quiet (fail); try go_wp2)
                                  go_ret
                                  exact ⟨by first | rfl | (simp [errW_none, errW_some] <;> rfl) | (simp [*, errW_none, errW_some] <;> rfl), by repeat (first | (with_reducible first | exact HB.out | apply below_alloc | apply pw_below_drewN | apply below_drew1) | exact HB.out)⟩
                              · rw [if_neg c29] at H
                                exact absurd H (by simp)
                            · rw [if_neg c28] at H
                              exact absurd H (by simp)
                          · rw [if_neg c27] at H
                            exact absurd H (by simp)
                        · rw [if_neg c26] at H
                          exact absurd H (by simp)
                      · replace c25 := Bool.eq_false_iff.mpr c25
                        subst c25
                        have H1 : (if t101 = true then (if t117 = 0 then (if (t103.length : Int) ≤ x8_1 then (if (t103.length : Int) ≥ x9_1 then (some ((t116.length : Int) == (t103.length : Int))) else (some false)) else (some false)) else (some false)) else (some false)) = some r := by rw [if_neg (show ¬ (false = true) by decide)] at H; exact H
                        clear H
                        have H := H1
                        clear H1
                        by_cases c38 : t101 = true
                        · subst c38
                          have H1 : (if t117 = 0 then (if (t103.length : Int) ≤ x8_1 then (if (t103.length : Int) ≥ x9_1 then (some ((t116.length : Int) == (t103.length : Int))) else (some false)) else (some false)) else (some false)) = some r := by rw [if_pos rfl] at H; exact H
                          clear H
                          have H := H1
                          clear H1
                          by_cases c39 : t117 = 0
                          · rw [if_pos c39] at H
                            have c39b0 : (t117 == 0) = true := beq_iff_eq.mpr c39
                            have c39b1 : (t117 != 0) = false := bne_eq_false_iff_eq.mpr c39
                            clear c39
                            by_cases c40 : (t103.length : Int) ≤ x8_1
                            · rw [if_pos c40] at H
                              have c40b0 : decide ((t103.length : Int) ≤ x8_1) = true := decide_eq_true c40
                              clear c40
                              by_cases c41 : (t103.length : Int) ≥ x9_1
                              · rw [if_pos c41] at H
                                have c41b0 : decide (x9_1 ≤ (t103.length : Int)) = true := decide_eq_true c41
                                clear c41
                                obtain rfl := Option.some.inj H
                                obtain ⟨Ao42, co42, eo42⟩ := Kd.R_slice HO_4.out
                                subst eo42
                                obtain ⟨Ao43, co43, eo43⟩ := Kd.R_slice HO_6.out
                                subst eo43
                                go_wp2
                                repeat (go_quiet (fail); try go_wp2)
                                go_ret
                                exact ⟨by first | rfl | (simp [errW_none, errW_some] <;> rfl) | (simp [*, errW_none, errW_some] <;> rfl), by repeat (first | (with_reducible first | exact HB.out | apply below_alloc | apply pw_below_drewN | apply below_drew1) | exact HB.out)⟩
                              · rw [if_neg c41] at H
                                have c41b0 : decide (x9_1 ≤ (t103.length : Int)) = false := decide_eq_false c41
                                clear c41
                                obtain rfl := Option.some.inj H
                                obtain ⟨Ao44, co44, eo44⟩ := Kd.R_slice HO_4.out
                                subst eo44
                                go_wp2
                                repeat (go_quiet (fail); try go_wp2)
                                go_ret
                                exact ⟨by first | rfl | (simp [errW_none, errW_some] <;> rfl) | (simp [*, errW_none, errW_some] <;> rfl), by repeat (first | (with_reducible first | exact HB.out | apply below_alloc | apply pw_below_drewN | apply below_drew1) | exact HB.out)⟩
                            · rw [if_neg c40] at H
                              have c40b0 : decide ((t103.length : Int) ≤ x8_1) = false := decide_eq_false c40
                              clear c40
                              obtain rfl := Option.some.inj H
                              obtain ⟨Ao45, co45, eo45⟩ := Kd.R_slice HO_4.out
                              subst eo45
                              go_wp2
                              repeat (go_quiet (fail); try go_wp2)
                              go_ret
                              exact ⟨by first | rfl | (simp [errW_none, errW_some] <;> rfl) | (simp [*, errW_none, errW_some] <;> rfl), by repeat (first | (with_reducible first | exact HB.out | apply below_alloc | apply pw_below_drewN | apply below_drew1) | exact HB.out)⟩
                          · rw [if_neg c39] at H
                            have c39b0 : (t117 == 0) = false := beq_eq_false_iff_ne.mpr c39
                            have c39b1 : (t117 != 0) = true := bne_iff_ne.mpr c39
                            obtain rfl := Option.some.inj H
                            go_wp2
                            repeat (go_quiet (fail); try go_wp2)
                            go_ret
                            exact ⟨by first | rfl | (simp [errW_none, errW_some] <;> rfl) | (simp [*, errW_none, errW_some] <;> rfl), by repeat (first | (with_reducible first | exact HB.out | apply below_alloc | apply pw_below_drewN | apply below_drew1) | exact HB.out)⟩
                        · replace c38 := Bool.eq_false_iff.mpr c38
                          subst c38
                          have H1 : (some false) = some r := by rw [if_neg (show ¬ (false = true) by decide)] at H; exact H
                          clear H
                          have H := H1
                          clear H1
                          obtain rfl := Option.some.inj H
                          go_wp2
                          repeat (go_quiet (fail); try go_wp2)
                          go_ret
                          exact ⟨by first | rfl | (simp [errW_none, errW_some] <;> rfl) | (simp [*, errW_none, errW_some] <;> rfl), by repeat (first | (with_reducible first | exact HB.out | apply below_alloc | apply pw_below_drewN | apply below_drew1) | exact HB.out)⟩
      · rw [if_neg c7] at H
        exact absurd H (by simp)
    · rw [if_neg c6] at H
      exact absurd H (by simp)
  · replace c4 := Bool.eq_false_iff.mpr c4
    subst c4
    have H1 : (some t101) = some r := by rw [if_neg (show ¬ (false = true) by decide)] at H; exact H
    clear H
    have H := H1
    clear H1
    obtain rfl := Option.some.inj H
    go_enter Try.func6, Try.ntmps6
    go_wp2_with (first | (go_at_call 15; (with_reducible refine (sennitlaw19_awake.calls  t101 _ A2.out).mono ?_); rintro e w46 ⟨rfl, hb⟩; have n0_ := Aside0.mk (Kd.V_below (by (with_reducible repeat (first | apply Kd.V_alloc | apply Kd.V_drewN | apply Kd.V_drew)); exact HO0.out) hb); have n1_ := Aside0.mk (below_step (by repeat (first | (with_reducible first | exact HB.out | apply below_alloc | apply pw_below_drewN | apply below_drew1) | exact HB.out)) hb); clear HO0; clear HB; have HO0 := n0_; have HB := n1_; clear n0_ n1_; (try clear hb); (try clear hb2); (try clear hk); (try clear hi)) | (go_at_call 16; (refine (sennitref06_Few.calls k _ _ ([] : List ByteArray) _ _ l0 false _ ?side1 ?side2 ?side3 ?side4 A3.out).mono ?_); (case side1 => exact Kd.C_nil _ _); (case side2 => exact Nat.le_refl _); (case side3 => repeat (first | exact (Kd.V_reads' HO0.out).2.2 | (with_reducible refine Kd.C_alloc ?_ _) | (with_reducible refine Kd.C_drewN ?_ _) | (with_reducible refine Kd.C_drew ?_))); (case side4 => exact (Kd.V_reads' HO0.out).2.1); rintro e w' ⟨rfl, ⟨nd, rfl⟩⟩; (try first | exact ⟨rfl, _, World.drewN_drewN _ _ _⟩ | exact ⟨rfl, _, Eq.trans (World.drewN_drewN _ _ _) (congrArg (World.drewN _) (Nat.add_assoc _ _ _))⟩)))
    repeat (go_quiet (first | (go_at_call 15; (with_reducible refine (sennitlaw19_awake.calls  t101 _ A2.out).mono ?_); rintro e w46 ⟨rfl, hb⟩; have n0_ := Aside0.mk (Kd.V_below (by (with_reducible repeat (first | apply Kd.V_alloc | apply Kd.V_drewN | apply Kd.V_drew)); exact HO0.out) hb); have n1_ := Aside0.mk (below_step (by repeat (first | (with_reducible first | exact HB.out | apply below_alloc | apply pw_below_drewN | apply below_drew1) | exact HB.out)) hb); clear HO0; clear HB; have HO0 := n0_; have HB := n1_; clear n0_ n1_; (try clear hb); (try clear hb2); (try clear hk); (try clear hi)) | (go_at_call 16; (refine (sennitref06_Few.calls k _ _ ([] : List ByteArray) _ _ l0 false _ ?side1 ?side2 ?side3 ?side4 A3.out).mono ?_); (case side1 => exact Kd.C_nil _ _); (case side2 => exact Nat.le_refl _); (case side3 => repeat (first | exact (Kd.V_reads' HO0.out).2.2 | (with_reducible refine Kd.C_alloc ?_ _) | (with_reducible refine Kd.C_drewN ?_ _) | (with_reducible refine Kd.C_drew ?_))); (case side4 => exact (Kd.V_reads' HO0.out).2.1); rintro e w' ⟨rfl, ⟨nd, rfl⟩⟩; (try first | exact ⟨rfl, _, World.drewN_drewN _ _ _⟩ | exact ⟨rfl, _, Eq.trans (World.drewN_drewN _ _ _) (congrArg (World.drewN _) (Nat.add_assoc _ _ _))⟩))); try go_wp2_with (first | (go_at_call 15; (with_reducible refine (sennitlaw19_awake.calls  t101 _ A2.out).mono ?_); rintro e w46 ⟨rfl, hb⟩; have n0_ := Aside0.mk (Kd.V_below (by (with_reducible repeat (first | apply Kd.V_alloc | apply Kd.V_drewN | apply Kd.V_drew)); exact HO0.out) hb); have n1_ := Aside0.mk (below_step (by repeat (first | (with_reducible first | exact HB.out | apply below_alloc | apply pw_below_drewN | apply below_drew1) | exact HB.out)) hb); clear HO0; clear HB; have HO0 := n0_; have HB := n1_; clear n0_ n1_; (try clear hb); (try clear hb2); (try clear hk); (try clear hi)) | (go_at_call 16; (refine (sennitref06_Few.calls k _ _ ([] : List ByteArray) _ _ l0 false _ ?side1 ?side2 ?side3 ?side4 A3.out).mono ?_); (case side1 => exact Kd.C_nil _ _); (case side2 => exact Nat.le_refl _); (case side3 => repeat (first | exact (Kd.V_reads' HO0.out).2.2 | (with_reducible refine Kd.C_alloc ?_ _) | (with_reducible refine Kd.C_drewN ?_ _) | (with_reducible refine Kd.C_drew ?_))); (case side4 => exact (Kd.V_reads' HO0.out).2.1); rintro e w' ⟨rfl, ⟨nd, rfl⟩⟩; (try first | exact ⟨rfl, _, World.drewN_drewN _ _ _⟩ | exact ⟨rfl, _, Eq.trans (World.drewN_drewN _ _ _) (congrArg (World.drewN _) (Nat.add_assoc _ _ _))⟩))))
    go_ret
    exact ⟨by first | rfl | (simp [errW_none, errW_some] <;> rfl) | (simp [*, errW_none, errW_some] <;> rfl), by repeat (first | (with_reducible first | exact HB.out | apply below_alloc | apply pw_below_drewN | apply below_drew1) | exact HB.out)⟩

end Go.Proofs.Ytnlekganlliikaa.X
-- part XRef03
namespace Go.Proofs.Ytnlekganlliikaa.X
open Go.RowKit Go.Proofs.YtnlekganlliikaaW.PrintWords Go.Proofs.YtnlekganlliikaaW.PrintLast Go.Proofs.YtnlekganlliikaaW.PrintMore
set_option linter.unusedVariables false
set_option linter.unusedSimpArgs false
theorem rd_of {L : List Int} {i : Nat} {x : Int} (h : L[i]? = some x) : rd L (i : Int) = x := by
  simp [rd, h]

/-- The table, from the place (i, c) on; noughts ahead. -/
def Tab (a b : List Int) (i c : Nat) (T : List Int) : Prop :=
  T.length = (a.length + 1) * (b.length + 1) ∧ ∀ i' j', i' ≤ a.length → j' ≤ b.length → T[i' * (b.length + 1) + j']? = some (if i < i' ∨ i = i' ∧ c ≤ j' then ((lcsL (a.drop i') (b.drop j') : Nat) : Int) else 0)
section
variable {a b T : List Int}
theorem tab_place {n m i j : Nat} (hi : i ≤ n) (hj : j ≤ m) : i * (m + 1) + j < (n + 1) * (m + 1) := place_lt (by omega) (by omega)
theorem tab_ne {m i j i' j' : Nat} (hj : j ≤ m) (hj' : j' ≤ m) (h : i * (m + 1) + j = i' * (m + 1) + j') : i = i' ∧ j = j' := by
  have h1 := place_div (m := m + 1) (i := i) (j := j) (by omega)
  have h2 := place_div (m := m + 1) (i := i') (j := j') (by omega)
  rw [h] at h1
  exact ⟨h1.1.symm.trans h2.1, h1.2.symm.trans h2.2⟩
theorem Tab.first (h : Tab a b a.length b.length T) : Tab a b a.length 0 T := by
  refine ⟨h.1, fun i' j' hi hj => ?_⟩
  rw [h.2 i' j' hi hj]
  congr 1
  by_cases e : i' = a.length
  · subst e
    rw [if_pos (show a.length < a.length ∨ a.length = a.length ∧ 0 ≤ j' by omega), show a.drop a.length = [] from List.drop_of_length_le (by omega), lcsL_nil_left]
    split <;> rfl
  · rw [if_neg (show ¬ (a.length < i' ∨ a.length = i' ∧ b.length ≤ j') by omega), if_neg (show ¬ (a.length < i' ∨ a.length = i' ∧ 0 ≤ j') by omega)]
theorem Tab.put {i c : Nat} (h : Tab a b i (c + 1) T) (hi : i ≤ a.length) (hc : c ≤ b.length) : Tab a b i c (T.set (i * (b.length + 1) + c) ((lcsL (a.drop i) (b.drop c) : Nat) : Int)) := by
  refine ⟨by simpa using h.1, fun i' j' hi' hj' => ?_⟩
  by_cases e : i' = i ∧ j' = c
  · obtain ⟨rfl, rfl⟩ := e
    rw [List.getElem?_set_self (by rw [h.1]; exact tab_place hi hc), if_pos (by omega)]
  · rw [List.getElem?_set_ne (fun h2 => e (by have := tab_ne hc hj' h2; omega)), h.2 i' j' hi' hj']
    congr 1
    by_cases e2 : i < i' ∨ i = i' ∧ c + 1 ≤ j'
    · rw [if_pos e2, if_pos (by omega)]
    · rw [if_neg e2, if_neg (by omega)]
theorem Tab.at_ {i c i' j' : Nat} (h : Tab a b i c T) (hi : i' ≤ a.length) (hj : j' ≤ b.length) (hd : i < i' ∨ i = i' ∧ c ≤ j') : rd T ((i' : Int) * ((b.length : Int) + 1) + (j' : Int)) = ((lcsL (a.drop i') (b.drop j') : Nat) : Int) := by
  have := h.2 i' j' hi hj
  rw [if_pos hd] at this
  have e := rd_of this
  rw [← e]
  congr 1
end
section
variable {a b : List Int}
end
end Go.Proofs.Ytnlekganlliikaa.X
-- part XRef19
namespace Go.Proofs.Ytnlekganlliikaa.X
open Go.RowKit Go.Proofs.YtnlekganlliikaaW.PrintWords Go.Proofs.YtnlekganlliikaaW.PrintLast Go.Proofs.YtnlekganlliikaaW.PrintMore
set_option linter.unusedVariables false
set_option linter.unusedSimpArgs false
abbrev ApiRow := S37
theorem apiRow_ext {x y : ApiRow} (h0 : x.f0 = y.f0) (h1 : x.f1 = y.f1) : x = y := by
  cases x; cases y; cases h0; cases h1; rfl
instance apiRowDec : DecidableEq ApiRow := fun x y => decidable_of_iff (x.f0 = y.f0 ∧ x.f1 = y.f1) ⟨fun h => apiRow_ext h.1 h.2, fun h => by rw [h]; exact ⟨rfl, rfl⟩⟩
/-- A string of bytes. -/
def bs (l : List UInt8) : ByteArray := ⟨l.toArray⟩
theorem bs_append (a b : List UInt8) : bs a ++ bs b = bs (a ++ b) := by
  apply ByteArray.ext
  simp [bs, ByteArray.data_append]
theorem bs_size (a : List UInt8) : (bs a).size = a.length := by simp [bs, ByteArray.size]
section
variable {col : Nat} {list : List ByteArray} {R : List ApiRow} {ms : List Int}
end
theorem take_marks {x : List Int} {n : Nat} (h : n < x.length) : (x.map markB).take (n + 1) = (x.map markB).take n ++ [markB (x.getD n 0)] := by
  rw [← List.take_append_getElem (by simpa using h), List.getElem_map]
  simp [h]
theorem rowOut_f0 (n : Nat) (x : RowG) : (rowOut n x).f0 = bs ((x.1.map markB).take n) := rfl
theorem rowOut_no {n : Nat} {x : RowG} (h : x.1.length = 16) (hn : n < 16) (h0 : x.1.getD n 0 = 0) : rowOut (n + 1) x = ⟨(rowOut n x).f0 ++ bs [32], x.2⟩ := by
  have e : (rowOut (n + 1) x) = ⟨bs ((x.1.map markB).take (n + 1)), x.2⟩ := rfl
  rw [e, take_marks (by omega), rowOut_f0, bs_append, h0]
  rfl
theorem rowOut_size (n : Nat) (x : RowG) : (rowOut n x).f0.size ≤ n := by
  rw [rowOut_f0, bs_size, List.length_take]; omega
end Go.Proofs.Ytnlekganlliikaa.X
-- part XGapL
namespace Go.Proofs.Ytnlekganlliikaa.X
open Go.RowKit Go.Proofs.YtnlekganlliikaaW.PrintWords Go.Proofs.YtnlekganlliikaaW.PrintLast Go.Proofs.YtnlekganlliikaaW.PrintMore
set_option linter.unusedVariables false
set_option linter.unusedSimpArgs false
theorem awake19 : sennitlaw19_awake.f = some true := by decide +kernel
end Go.Proofs.Ytnlekganlliikaa.X
-- part XGapTells
namespace Go.Proofs.Ytnlekganlliikaa.X
open Go.RowKit Go.Proofs.YtnlekganlliikaaW.PrintWords Go.Proofs.YtnlekganlliikaaW.PrintLast Go.Proofs.YtnlekganlliikaaW.PrintMore
set_option linter.unusedVariables false
set_option linter.unusedSimpArgs false
theorem ref_Few06 (ls : List (List ByteArray)) : ∃ b, Gives (fun k => sennitref06_Few.f k ([] : List ByteArray) ls) b ∧ (b = true → ls.length ≤ 6 ∧ ∀ l ∈ ls, l.length ≤ 20 ∧ ∀ s ∈ l, s.size ≤ 100) := by
  have he : Gives (fun k => sennitref01_Few.f k ([] : List ByteArray) 20) true := (ref_few01 [] 20 (by omega)).eq (by simp [fewB])
  have hlast : ∀ i : Nat, (i = ls.length ∨ i = 7) → (∀ l ∈ ls.take i, fewB l 20 = true) → ∃ b, Gives (fun k => sennitref06_Few.j1 k [] ls (i : Int) false) b ∧ (b = true → ls.length ≤ 6 ∧ ∀ l ∈ ls, fewB l 20 = true) := by
    intro i hi hP
    refine ⟨decide ((ls.length : Int) ≤ 6), Gives.last he fun k hk => ?_, fun h => ?_⟩
    · show sennitref06_Few.j1 (k + 1) [] ls (i : Int) false = _
      rw [sennitref06_Few.j1, if_neg (by decide), hk, Option.bind_some, if_pos rfl]
    · have h6 := of_decide_eq_true h
      rw [List.take_of_length_le (by omega)] at hP
      exact ⟨by omega, hP⟩
  have hmain : ∀ (r i : Nat), i + r = min ls.length 7 → (∀ l ∈ ls.take i, fewB l 20 = true) → ∃ b, Gives (fun k => sennitref06_Few.l0 k [] ls (i : Int)) b ∧ (b = true → ls.length ≤ 6 ∧ ∀ l ∈ ls, fewB l 20 = true) := by
    intro r
    induction r with
    | zero =>
      intro i hi hP
      obtain ⟨b, h1, h2⟩ := hlast i (by omega) hP
      refine ⟨b, h1.step fun k => ?_, h2⟩
      show sennitref06_Few.l0 (k + 1) [] ls (i : Int) = _
      rw [sennitref06_Few.l0]
      by_cases h : i < ls.length
      · rw [if_pos (by omega), decide_eq_false (by omega)]
      · rw [if_neg (by omega)]
    | succ r ih =>
      intro i hi hP
      have hil : i < ls.length := by omega
      have e : rd_L1 ls (i : Int) = ls[i] := getN hil
      have hf := ref_few01 ls[i] 20 (by omega)
      have h0 : ∀ b, Gives (fun k => sennitref06_Few.j1 k [] ls (i : Int) true) b → Gives (fun k => sennitref06_Few.l0 k [] ls (i : Int)) b := fun b hb => hb.step fun k => by
        show sennitref06_Few.l0 (k + 1) [] ls (i : Int) = _
        rw [sennitref06_Few.l0, if_pos (by omega), decide_eq_true (by omega)]
      cases hb : fewB ls[i] 20 with
      | true =>
        obtain ⟨b, h1, h2⟩ := ih (i + 1) (by omega) (fun l hl => by
          rw [← List.take_append_getElem hil] at hl
          rcases List.mem_append.1 hl with hl | hl
          · exact hP l hl
          · rw [List.mem_singleton.1 hl]; exact hb)
        refine ⟨b, h0 b (Gives.call hf h1 fun k hk => ?_), h2⟩
        show sennitref06_Few.j1 (k + 1) [] ls (i : Int) true = _
        rw [sennitref06_Few.j1, if_pos rfl, if_pos (by omega), if_pos (by omega), e]
        have hk' : sennitref01_Few.f k ls[i] 20 = some true := by rw [← hb]; exact hk
        rw [hk', Option.bind_some, if_pos rfl, gw1 (by omega)]
      | false =>
        refine ⟨false, h0 false (Gives.last hf fun k hk => ?_), fun h => by cases h⟩
        show sennitref06_Few.j1 (k + 1) [] ls (i : Int) true = _
        have hk' : sennitref01_Few.f k ls[i] 20 = some false := by rw [← hb]; exact hk
        rw [sennitref06_Few.j1, if_pos rfl, if_pos (by omega), if_pos (by omega), e, hk', Option.bind_some, if_neg (by decide)]
  obtain ⟨b, h1, h2⟩ := hmain (min ls.length 7) 0 (by omega) (by simp)
  refine ⟨b, h1.same fun k => rfl, fun h => ?_⟩
  obtain ⟨h3, h4⟩ := h2 h
  exact ⟨h3, fun l hl => by simpa [fewB] using h4 l hl⟩
theorem sumLen_take (n : Nat) : ∀ (ls : List (List ByteArray)) (i : Nat), (∀ l ∈ ls, l.length ≤ n) → sumLen (ls.take i) ≤ i * n
  | [], i, h => by simp [sumLen]
  | l :: ls, 0, h => by simp [sumLen]
  | l :: ls, i + 1, h => by
    have h1 := sumLen_take n ls i (fun x hx => h x (List.mem_cons_of_mem _ hx))
    have h2 := h l List.mem_cons_self
    rw [Nat.succ_mul]
    simp only [sumLen, List.take_succ_cons, List.map_cons, List.sum_cons] at h1 ⊢
    omega
theorem eachG_rows : ∀ (ls : List (List ByteArray)) (i : Nat) (rs : List RowG) (e : Int), (∀ l ∈ ls, l.length ≤ 2000) → rs.length + sumLen ls ≤ 2000 → eachG i ls rs e = (rowsFrom i ls rs, e)
  | [], i, rs, e, _, _ => rfl
  | l :: ls, i, rs, e, h, hs => by
    have hl := h l List.mem_cons_self
    have h2 := comeF_len i l rs
    simp only [sumLen, List.map_cons, List.sum_cons] at hs
    rw [eachG, comeS, if_pos ⟨by omega, hl⟩, rowsFrom]
    exact eachG_rows ls (i + 1) _ e (fun x hx => h x (List.mem_cons_of_mem _ hx)) (by simp only [sumLen]; omega)
theorem gapF_rows {ls : List (List ByteArray)} (h1 : ls.length ≤ 16) (hs : sumLen ls ≤ 2000) : gapF ls = ((rowsOf ls).map (rowOut ls.length), 0) := by
  have hle : ∀ l ∈ ls, l.length ≤ sumLen ls := by
    intro l hl
    obtain ⟨a, b, rfl⟩ := List.append_of_mem hl
    simp [sumLen]; omega
  rw [gapF, if_neg (by omega), eachG_rows ls 0 [] 0 (fun l hl => by have := hle l hl; omega) (by simpa using hs), if_neg (fun h => h rfl)]
  rfl
theorem gap_rows {ls : List (List ByteArray)} (h1 : ls.length ≤ 16) (hs : sumLen ls ≤ 2000) (hz : ∀ l ∈ ls, ∀ s ∈ l, s.size ≤ maxLen) : gap_Coalesce.f ls = some ((rowsOf ls).map (rowOut ls.length), 0) := by
  have hle : ∀ l ∈ ls, l.length ≤ sumLen ls := by
    intro l hl
    obtain ⟨a, b, rfl⟩ := List.append_of_mem hl
    simp [sumLen]; omega
  rw [gap_Coalesce.f, if_pos (fun l hl => ⟨by have := hle l hl; omega, hz l hl⟩), gapF_rows h1 hs]
theorem few_gap {ls : List (List ByteArray)} (h1 : ls.length ≤ 6) (h2 : ∀ l ∈ ls, l.length ≤ 20 ∧ ∀ s ∈ l, s.size ≤ 100) : gap_Coalesce.f ls = some ((rowsOf ls).map (rowOut ls.length), 0) := by
  refine gap_rows (by omega) ?_ (fun l hl s hs => by have := (h2 l hl).2 s hs; unfold maxLen; omega)
  have := sumLen_take 20 ls ls.length (fun l hl => (h2 l hl).1)
  rw [List.take_length] at this
  omega
end Go.Proofs.Ytnlekganlliikaa.X
-- part XGapSame
namespace Go.Proofs.Ytnlekganlliikaa.X
open Go.RowKit Go.Proofs.YtnlekganlliikaaW.PrintWords Go.Proofs.YtnlekganlliikaaW.PrintLast Go.Proofs.YtnlekganlliikaaW.PrintMore
set_option linter.unusedVariables false
set_option linter.unusedSimpArgs false
section
variable {l : List ByteArray} {R : List ApiRow} {all : List UInt8}
end
section
variable {ls : List (List ByteArray)} {R M : List ApiRow}
theorem few_l1 (hR : R.length ≤ 1000) (hM : M = R.map (fun x => (⟨x.f0 ++ bs [32], x.f1⟩ : ApiRow))) (hz : ∀ x ∈ R, x.f0.size ≤ 1000) (s m : Nat) (h1 : R.length ≤ s) (h2 : m ≤ R.length) : ∀ (r i : Nat), i + r = R.length → Gives (fun k => sennitlaw19_GapFew.l1 k true R M 0 (s : Int) (m : Int) (i : Int)) true := by
  have hlen : M.length = R.length := by rw [hM, List.length_map]
  intro r
  induction r with
  | zero =>
    intro i hi
    refine (Gives.of (f := fun k => sennitlaw19_GapFew.j2 k true R M 0 (s : Int) (m : Int) (i : Int) false) fun k => ?_).step fun k => ?_
    · show sennitlaw19_GapFew.j2 (k + 1) true R M 0 (s : Int) (m : Int) (i : Int) false = _
      rw [sennitlaw19_GapFew.j2, if_neg (by decide), if_pos rfl, if_pos rfl, if_pos (by omega), if_pos (by omega), hlen]
      simp
    · show sennitlaw19_GapFew.l1 (k + 1) true R M 0 (s : Int) (m : Int) (i : Int) = _
      rw [sennitlaw19_GapFew.l1, if_neg (by omega)]
  | succ r ih =>
    intro i hi
    have hil : i < R.length := by omega
    have e : rd_T37 R (i : Int) = R[i] := getN hil
    have e2 : rd_T37 M (i : Int) = ⟨R[i].f0 ++ ⟨#[32]⟩, R[i].f1⟩ := by
      have : rd_T37 M (i : Int) = M[i] := getN (by omega)
      rw [this]; simp [hM]; rfl
    have hzi := hz R[i] (List.getElem_mem _)
    refine ((ih (i + 1) (by omega)).step (f := fun k => sennitlaw19_GapFew.j2 k true R M 0 (s : Int) (m : Int) (i : Int) true) fun k => ?_).step fun k => ?_
    · show sennitlaw19_GapFew.j2 (k + 1) true R M 0 (s : Int) (m : Int) (i : Int) true = _
      rw [sennitlaw19_GapFew.j2, if_pos rfl, if_pos (by omega), if_pos (by omega), if_pos (by omega), e, e2, if_pos (by omega), if_pos rfl, if_pos rfl, gw1 (by omega)]
    · show sennitlaw19_GapFew.l1 (k + 1) true R M 0 (s : Int) (m : Int) (i : Int) = _
      rw [sennitlaw19_GapFew.l1, if_pos (by omega), decide_eq_true (by omega)]
theorem few_l0 (hls : ls.length ≤ 16) (hs : sumLen ls ≤ 1000) (hR : R.length ≤ sumLen ls) (hge : ∀ l ∈ ls, l.length ≤ R.length) (hM : M = R.map (fun x => (⟨x.f0 ++ bs [32], x.f1⟩ : ApiRow))) (hz : ∀ x ∈ R, x.f0.size ≤ 1000) : ∀ (r i m : Nat), i + r = ls.length → m ≤ R.length →
    Gives (fun k => sennitlaw19_GapFew.l0 k ls true R M 0 ((sumLen (ls.take i) : Nat) : Int) (m : Int) (i : Int)) true := by
  intro r
  induction r with
  | zero =>
    intro i m hi hm
    have := few_l1 (by omega) hM hz (sumLen ls) m hR hm R.length 0 (by omega)
    refine this.step fun k => ?_
    show sennitlaw19_GapFew.l0 (k + 1) ls true R M 0 _ (m : Int) (i : Int) = _
    rw [sennitlaw19_GapFew.l0, if_neg (by omega), List.take_of_length_le (by omega)]; rfl
  | succ r ih =>
    intro i m hi hm
    have hil : i < ls.length := by omega
    have e : rd_L1 ls (i : Int) = ls[i] := getN hil
    have hgi := hge ls[i] (List.getElem_mem _)
    have h3 : sumLen (ls.take (i + 1)) = sumLen (ls.take i) + ls[i].length := by
      rw [← List.take_append_getElem hil]
      simp only [sumLen, List.map_append, List.sum_append, List.map_cons, List.map_nil, List.sum_cons, List.sum_nil]; omega
    have h4 : sumLen (ls.take (i + 1)) ≤ sumLen ls := by
      have : sumLen ls = sumLen (ls.take (i + 1)) + sumLen (ls.drop (i + 1)) := by
        simp only [sumLen]
        rw [← List.sum_append, ← List.map_append, List.take_append_drop]
      omega
    have := ih (i + 1) (max m ls[i].length) (by omega) (by omega)
    rw [h3] at this
    refine this.step fun k => ?_
    show sennitlaw19_GapFew.l0 (k + 1) ls true R M 0 _ (m : Int) (i : Int) = _
    have e5 : wrap64 (((sumLen (ls.take i) : Nat) : Int) + (ls[i].length : Int)) = ((sumLen (ls.take i) + ls[i].length : Nat) : Int) := by
      rw [gw (by omega) (by omega)]; omega
    have e6 : mx (m : Int) (ls[i].length : Int) = ((max m ls[i].length : Nat) : Int) := by
      unfold mx; split <;> omega
    rw [sennitlaw19_GapFew.l0, if_pos (by omega), if_pos (by omega), e, e5, e6, gw1 (by omega)]
end
theorem few19 (ls : List (List ByteArray)) : Gives (fun k => sennitlaw19_GapFew.f k ls) true := by
  obtain ⟨b, h1, h2⟩ := ref_Few06 ls
  cases b with
  | false =>
    refine Gives.last0 h1 fun k hk => ?_
    show sennitlaw19_GapFew.f k ls = _
    rw [sennitlaw19_GapFew.f, awake19, Option.bind_some, hk, Option.bind_some, if_neg (by decide)]
  | true =>
    obtain ⟨h3, h4⟩ := h2 rfl
    have hg := few_gap h3 h4
    have hcols := rowsOf_cols ls (by omega)
    have h5 := sumLen_take 20 ls ls.length (fun l hl => (h4 l hl).1)
    rw [List.take_length] at h5
    have hm := gap_rows (ls := ls ++ [[]]) (by simp; omega) (by simp only [sumLen, List.map_append, List.sum_append] at h5 ⊢; simp; omega) (fun l hl s hs => by
      rcases List.mem_append.1 hl with hl | hl
      · have := (h4 l hl).2 s hs; unfold maxLen; omega
      · rw [List.mem_singleton.1 hl] at hs; simp at hs)
    rw [rowsOf_snoc, comeF_none, List.length_append, List.length_singleton] at hm
    have hM : (rowsOf ls).map (rowOut (ls.length + 1)) = ((rowsOf ls).map (rowOut ls.length)).map (fun x => (⟨x.f0 ++ bs [32], x.f1⟩ : ApiRow)) := by
      rw [List.map_map]
      refine List.map_congr_left fun x hx => ?_
      rw [rowOut_no (hcols x hx).1 (by omega) ((hcols x hx).2.2.1 _ (Nat.le_refl _))]; rfl
    rw [hM] at hm
    have hle := rowsOf_le ls
    have hRlen : ((rowsOf ls).map (rowOut ls.length)).length ≤ sumLen ls := by rw [List.length_map]; exact hle
    have hge : ∀ l ∈ ls, l.length ≤ ((rowsOf ls).map (rowOut ls.length)).length := fun l hl => by
      rw [List.length_map]; exact rowsOf_ge (by omega) hl
    have hz : ∀ x ∈ (rowsOf ls).map (rowOut ls.length), x.f0.size ≤ 1000 := fun x hx => by
      obtain ⟨y, _, rfl⟩ := List.mem_map.1 hx
      have := rowOut_size ls.length y; omega
    obtain ⟨R, hRe⟩ : ∃ R, (rowsOf ls).map (rowOut ls.length) = R := ⟨_, rfl⟩
    rw [hRe] at hg hm hRlen hge hz
    have h6 := few_l0 (ls := ls) (R := R) (by omega) (by omega) hRlen hge rfl hz ls.length 0 0 (by omega) (by omega)
    refine Gives.call0 h1 h6 fun k hk => ?_
    show sennitlaw19_GapFew.f k ls = _
    rw [sennitlaw19_GapFew.f, awake19, Option.bind_some, hk, Option.bind_some, if_pos rfl, hg, Option.bind_some, Option.bind_some, if_pos (by simp; omega), Option.bind_some, if_pos (by simp; omega), List.nil_append, hm, Option.bind_some]; rfl
theorem law_GapFew (W : World) (A0 : Option Addr) (c0 : Nat) (l0 : List (List ByteArray)) (hr0 : Kd.C (Kd.slice 9 Kd.string) W A0 l0.length l0) (hc0 : l0.length ≤ c0) (g0 : l0.length * 24 ≤ 140737488351232 ∧ ∀ y ∈ l0, y.length * 16 ≤ 140737488351232 ∧ ∀ yy ∈ y, yy.size ≤ 140737488351232) :
    Calls Try.prog 6 #[.slice A0 l0.length c0] W fun e w' => e = .returned (.bool true) ∧ Below W.heap.size W w' := by
  obtain ⟨k, hk⟩ := few19 l0
  exact sennitlaw19_GapFew.calls k (fun _ => True) A0 c0 l0 true W (V_of_C (Kd.heap_slice _ Kd.heap_string) hr0 hc0) (hk k (Nat.le_refl _))

section
variable {ls : List (List ByteArray)} {R M : List ApiRow}
end
end Go.Proofs.Ytnlekganlliikaa.X
